/- Layer 34: formula.OfTerm, formula.Of: the term, the formula of a tree. -/
import Derived.Test.YtaedbimbbeploaaGreatDoorMb11
import Derived.Test.YtaedbimbbeploaaGreatDoorMb18
import Derived.Test.YtaedbimbbeploaaGreatDoorMb24
import Derived.Test.YtaedbimbbeploaaGreatDoorMb10
import Derived.Test.YtaedbimbbeploaaGreatDoorMb5
set_option linter.unusedSimpArgs false
set_option linter.unusedVariables false

set_option maxRecDepth 100000
set_option maxHeartbeats 8000000
namespace Go.Proofs.YtaedbimbbeploaaGreatDoor
open Go.RowKit
attribute [local go_sem] yac uz uac wab jac qac zac jw wz xac vac yaf ul kac kw
def vw (L : Nat) : Tm -> Tr -> Prop
 | .num z,t=>t.d.kind=1/\t.ks=[]/\z=sgn t.d.neg (val t.d.ds)/\t.d.ds.length<=L
 | .name s,t=>t.d.kind=2/\t.ks=[]/\t.d.name=s
 | .add a b,t=>t.d.kind=3/\∃ x y,t.ks=[x,y]/\vw L a x/\vw L b y
 | .sub a b,t=>t.d.kind=4/\∃ x y,t.ks=[x,y]/\vw L a x/\vw L b y
 | .mul a b,t=>t.d.kind=5/\∃ x y,t.ks=[x,y]/\vw L a x/\vw L b y
 | .neg a,t=>t.d.kind=6/\∃ x,t.ks=[x]/\vw L a x
 | .pow a e,t=>t.d.kind=7/\t.d.exp=e/\0<=e/\∃ x,t.ks=[x]/\vw L a x
def war (L:Nat) (m:Tm) (w:World) (e:Ending) (w':World):Prop:=∃ v,e=.returned (.tuple #[v,.int .i64 0])/\TmV w' L m v/\Ext w w'
theorem TmV.box {w:World} {L:Nat} {a:Addr} {u:Value} (ha:w.cell? a=some u) (hu:yaa u=false) (u':Value) {t:Tm} {v:Value} (h:TmV w L t v):TmV (w.setCell a u') L t v:=by
 induction t generalizing v with
 | num z=>obtain ⟨x,e,h⟩:=h; exact ⟨x,e,h.box ha hu u'⟩
 | name s=>exact h
 | add a b iha ihb=>obtain ⟨x,y,e,h,k⟩:=h; exact ⟨x,y,e,iha h,ihb k⟩
 | sub a b iha ihb=>obtain ⟨x,y,e,h,k⟩:=h; exact ⟨x,y,e,iha h,ihb k⟩
 | mul a b iha ihb=>obtain ⟨x,y,e,h,k⟩:=h; exact ⟨x,y,e,iha h,ihb k⟩
 | neg a iha=>obtain ⟨x,e,h⟩:=h; exact ⟨x,e,iha h⟩
 | pow a n iha=>obtain ⟨x,e,h⟩:=h; exact ⟨x,e,iha h⟩
def ybd : Value -> Bool
 | .iface _ _=>true
 | .nilIface=>true
 | _=>false
theorem yck {u:Value} (h:ybd u=true):yaa u=false:=by cases u <;> simp_all [ybd,yaa]
def yad (L:Nat) (w:World) (g g':Nat) (o:Obj) (xs:List Tm) (k:Nat) (wr:World):Prop:=
 Ext w wr/\wr.heap[g']?=some o/\∃ u0 u1,wr.heap[g]?=some (.cells #[u0,u1] 117 (0,0))/\ybd u0=true/\ybd u1=true/\(∀ x,0 < k->xs[0]?=some x->TmV wr L x u0)/\(∀ x,1 < k->xs[1]?=some x->TmV wr L x u1)
theorem yad.cell {L:Nat} {w:World} {g g':Nat} {o:Obj} {xs:List Tm} {k:Nat} {wr:World} (h:yad L w g g' o xs k wr) (j:Nat) (hj:j < 2):∃ u,wr.cell? ⟨g,j,none⟩=some u/\ybd u=true/\wr.frozen? ⟨g,j,none⟩=false:=by
 obtain ⟨-,-,u0,u1,h1,h2,h3,-⟩:=h;rcases (show j=0\/j=1 by omega) with rfl | rfl
 · exact ⟨u0,by simp [World.cell?,h1],h2,by simp [World.frozen?,h1]⟩
 · exact ⟨u1,by simp [World.cell?,h1],h3,by simp [World.frozen?,h1]⟩
theorem yad.ext {L:Nat} {w:World} {g g':Nat} {o:Obj} {xs:List Tm} {k:Nat} {wr w':World} (h:yad L w g g' o xs k wr) (hx:Ext wr w'):yad L w g g' o xs k w':=by
 obtain ⟨h0,h0',u0,u1,h1,h2,h3,h4,h5⟩:=h;have lt:∀ {i:Nat} {o:Obj},wr.heap[i]?=some o->i < wr.heap.size:=fun {i o} h=>(Array.getElem?_eq_some_iff.1 h).1
 exact ⟨h0.trans hx,(hx.below.block _ (lt h0')).trans h0',u0,u1,(hx.below.block _ (lt h1)).trans h1,h2,h3,fun x hk hxs=>(h4 x hk hxs).ext hx,fun x hk hxs=>(h5 x hk hxs).ext hx⟩
theorem yad.put {L:Nat} {w:World} {g g':Nat} {o:Obj} {xs:List Tm} {k:Nat} {wr:World} (h:yad L w g g' o xs k wr) (hk:k < 2) (hg:w.heap.size<=g) (hne:g' ≠ g) {u:Value} (hu:ybd u=true) (hx:∀ x,xs[k]?=some x->TmV wr L x u) :
 yad L w g g' o xs (k+1) (wr.setCell ⟨g,k,none⟩ u):=by
 obtain ⟨uk,ck,ik,-⟩:=h.cell k hk;obtain ⟨h0,h0',u0,u1,h1,h2,h3,h4,h5⟩:=h;have bx:∀ {x v},TmV wr L x v->TmV (wr.setCell ⟨g,k,none⟩ u) L x v:=fun {x v} hv=>hv.box ck (yck ik) u
 refine ⟨h0.setCell hg _,(Below.heap_setCell wr ⟨g,k,none⟩ u g' hne).trans h0',?_⟩;have hs:∀ c:Array Value,wr.heap[g]?=some (.cells c 117 (0,0))->(wr.setCell ⟨g,k,none⟩ u).heap[g]?=some (.cells (c.setIfInBounds k u) 117 (0,0)):=fun c hc=>by
  simp [World.setCell,Array.getElem?_modify,hc]
 rcases (show k=0\/k=1 by omega) with rfl | rfl
 · exact ⟨u,u1,by rw [hs _ h1]; rfl,hu,h3,fun x _ hxs=>bx (hx x hxs),fun x hk=>absurd hk (by omega)⟩
 · exact ⟨u0,u,by rw [hs _ h1]; rfl,h2,hu,fun x _ hxs=>bx (h4 x (by omega) hxs),fun x _ hxs=>bx (hx x hxs)⟩
def yav (L n:Nat):Prop:=∀ (m:Tm) (t:Tr),m.sz < n->vw L m t->∀ (v:Value) (w:World),TrV w (fun _=>True) t v->Calls Tryz.prog 20 #[v] w (war L m w)
theorem vcs {L n:Nat} (ih:yav L n) {a b:Tm} (t:Tr) (hsz:(Tm.add a b).sz < n+1) (h:vw L (.add a b) t) (v:Value) (w:World) (hv:TrV w (fun _=>True) t v):Calls Tryz.prog 20 #[v] w (war L (.add a b) w):=by
 have IH:=Lib.hid ih;clear ih;obtain ⟨⟨kind,neg,ds,name,exp,rel,truth,all⟩,ks⟩:=t;obtain ⟨hkind,t0,t1,hks,h0,h1⟩:=h;simp only [Tr.d] at hkind;simp only [Tr.ks] at hks;subst hkind hks;obtain ⟨A0,n0,c0,A,c,rfl,hnat,hc1,hc2,hat⟩:=hv.open_
 change ui w _ [t0,t1] A 0 at hat
 have HAT:=Lib.hid hat;clear hv hat hnat;unfold ndV;simp only [Tr.d,Tr.ks,List.length_cons,List.length_nil,Nat.zero_add,Nat.reduceAdd] at hc1 ⊢;have HIS:Hid (∀ i (hi:i < 2),vw L ([a,b][i]'(by simpa using hi)) ([t0,t1][i]'(by simpa using hi))):=by
  intro i hi;rcases (show i=0\/i=1 by omega) with rfl | rfl
  · exact h0
  · exact h1
 clear h0 h1;have hsz':∀ i (hi:i < 2),([a,b][i]'(by simpa using hi)).sz < n:=by
  intro i hi;simp only [Tm.sz] at hsz;rcases (show i=0\/i=1 by omega) with rfl | rfl <;> simp <;> omega
 have HSZ:=Lib.hid hsz';clear hsz';go_enter Tryz.func20,Tryz.ntmps20;go_wp2_with fail
 go_loopw [40] (fun iv wr=>∃ k:Nat,k<=2/\iv=.int .i64 k/\Hid (yad L w (w.heap.size+1) w.heap.size (.cells #[.int .i64 3,.bool neg,.slice A0 n0 c0,.string name,.int .i64 exp,.int .i64 rel,.bool truth,.bool all,.slice A 2 c] 29) [a,b] k wr)) (fun iv _=>2 - (intOf iv).toNat)
 case atStart =>
  refine ⟨0,by omega,rfl,⟨((Ext.refl w).alloc _).alloc _,?_,.nilIface,.nilIface,?_,rfl,rfl,fun x hk=>absurd hk (by omega),fun x hk=>absurd hk (by omega)⟩⟩
  · rw [Below.heap_alloc _ _ _ (by simp)]; exact heap_alloc_new w _
  · have:=heap_alloc_new (w.alloc (.cells #[.int .i64 3,.bool neg,.slice A0 n0 c0,.string name,.int .i64 exp,.int .i64 rel,.bool truth,.bool all,.slice A 2 c] 29)) (.cells #[.nilIface,.nilIface] 117)
    rwa [World.size_alloc] at this
 case round =>
  obtain ⟨k,hk,rfl,hinv⟩:=hrel;have HINV:=Lib.hid hinv;have hwx:=hinv.1;have hat2:=HAT.out.ext hwx;have hb8:=hinv.2.1;clear hinv
  by_cases hlt:k < 2
  · obtain ⟨ad,B0,m0,d0,B1,m1,d1,rfl,hadb,⟨e0,e1,e2,e3,e4,e5,e6,e7,e8⟩,hkt⟩:=hat2.kid k (by simpa using hlt);have HKT:=Lib.hid hkt;clear hkt hat2 hb8 hwx;have hisk:=HIS.out k hlt;have hszk:=HSZ.out k hlt;have HISK:=Lib.hid hisk;have HXK:Hid (∃ x,[a,b][k]?=some x/\vw L x ([t0,t1][k]'(by simpa using hlt))/\x.sz < n):=⟨_,List.getElem?_eq_getElem (by simpa using hlt),hisk,hszk⟩;clear hisk hszk HISK;generalize ([t0,t1][k]'(by simpa using hlt))=tk at *;obtain ⟨x,hxk,hisx,hszx⟩:=HXK;have HXK:=Lib.hid hxk;have HISX:=Lib.hid hisx;clear hxk hisx;go_wp2_with fail;refine (IH.out x tk hszx HISX.out _ _ (HKT.out.ext ((Ext.refl wr).alloc _))).mono ?_;rintro e w2 ⟨v2,rfl,htm,hx2⟩;have hinv2:=HINV.out.ext (((Ext.refl wr).alloc _).trans hx2);obtain ⟨T2,u2,rfl⟩:=htm.iface;obtain ⟨uk,ck,ik,fk⟩:=hinv2.cell k (by omega);have HNEXT:=Lib.hid (hinv2.put (u:=.iface T2 u2) (by omega) (by omega) (by omega) rfl (fun y hy=>by rw [HXK.out] at hy; injection hy with hy; subst hy; exact htm));clear hinv2 htm hx2 e0 e1 e2 e3 e4 e5 e6 e7 e8;go_wp2_with fail
    go_roundw
    case rel=>exact ⟨k+1,by omega,by go_num,HNEXT⟩
    case measure=>simp [intOf]; omega
  · clear hat2 hwx;have hk2:2<=k:=by omega
    obtain ⟨hwx,-,u0,u1,hpar,i0,i1,p0,p1⟩:=HINV.out;have c0:wr.cell? ⟨w.heap.size,0,none⟩=some (.int .i64 3):=by simp [World.cell?,hb8]
    have c4:wr.cell? ⟨w.heap.size,4,none⟩=some (.int .i64 exp):=by simp [World.cell?,hb8]
    have q0:wr.cell? ⟨w.heap.size+1,0,none⟩=some u0:=by simp [World.cell?,hpar]
    have q1:wr.cell? ⟨w.heap.size+1,1,none⟩=some u1:=by simp [World.cell?,hpar]
    have f0:=p0 a (by omega) rfl;obtain ⟨T0,u0,rfl⟩:=f0.iface;have f1:=p1 b (by omega) rfl;obtain ⟨T1,u1,rfl⟩:=f1.iface;have HFIN:Hid (TmV wr L (.add a b) (.iface 126 (.agg #[.iface T0 u0,.iface T1 u1]))):=⟨_,_,rfl,f0,f1⟩;clear f0 f1;have HWX:=Lib.hid hwx;clear hb8 hpar hwx HINV i0 i1 p0 p1;go_wp2_with fail
    go_ret2
    exact ⟨_,rfl,HFIN.out,HWX.out⟩
theorem ycs {L n:Nat} (ih:yav L n) {a b:Tm} (t:Tr) (hsz:(Tm.sub a b).sz < n+1) (h:vw L (.sub a b) t) (v:Value) (w:World) (hv:TrV w (fun _=>True) t v):Calls Tryz.prog 20 #[v] w (war L (.sub a b) w):=by
 have IH:=Lib.hid ih;clear ih;obtain ⟨⟨kind,neg,ds,name,exp,rel,truth,all⟩,ks⟩:=t;obtain ⟨hkind,t0,t1,hks,h0,h1⟩:=h;simp only [Tr.d] at hkind;simp only [Tr.ks] at hks;subst hkind hks;obtain ⟨A0,n0,c0,A,c,rfl,hnat,hc1,hc2,hat⟩:=hv.open_
 change ui w _ [t0,t1] A 0 at hat
 have HAT:=Lib.hid hat;clear hv hat hnat;unfold ndV;simp only [Tr.d,Tr.ks,List.length_cons,List.length_nil,Nat.zero_add,Nat.reduceAdd] at hc1 ⊢;have HIS:Hid (∀ i (hi:i < 2),vw L ([a,b][i]'(by simpa using hi)) ([t0,t1][i]'(by simpa using hi))):=by
  intro i hi;rcases (show i=0\/i=1 by omega) with rfl | rfl
  · exact h0
  · exact h1
 clear h0 h1;have hsz':∀ i (hi:i < 2),([a,b][i]'(by simpa using hi)).sz < n:=by
  intro i hi;simp only [Tm.sz] at hsz;rcases (show i=0\/i=1 by omega) with rfl | rfl <;> simp <;> omega
 have HSZ:=Lib.hid hsz';clear hsz';go_enter Tryz.func20,Tryz.ntmps20;go_wp2_with fail
 go_loopw [40] (fun iv wr=>∃ k:Nat,k<=2/\iv=.int .i64 k/\Hid (yad L w (w.heap.size+1) w.heap.size (.cells #[.int .i64 4,.bool neg,.slice A0 n0 c0,.string name,.int .i64 exp,.int .i64 rel,.bool truth,.bool all,.slice A 2 c] 29) [a,b] k wr)) (fun iv _=>2 - (intOf iv).toNat)
 case atStart =>
  refine ⟨0,by omega,rfl,⟨((Ext.refl w).alloc _).alloc _,?_,.nilIface,.nilIface,?_,rfl,rfl,fun x hk=>absurd hk (by omega),fun x hk=>absurd hk (by omega)⟩⟩
  · rw [Below.heap_alloc _ _ _ (by simp)]; exact heap_alloc_new w _
  · have:=heap_alloc_new (w.alloc (.cells #[.int .i64 4,.bool neg,.slice A0 n0 c0,.string name,.int .i64 exp,.int .i64 rel,.bool truth,.bool all,.slice A 2 c] 29)) (.cells #[.nilIface,.nilIface] 117)
    rwa [World.size_alloc] at this
 case round =>
  obtain ⟨k,hk,rfl,hinv⟩:=hrel;have HINV:=Lib.hid hinv;have hwx:=hinv.1;have hat2:=HAT.out.ext hwx;have hb8:=hinv.2.1;clear hinv
  by_cases hlt:k < 2
  · obtain ⟨ad,B0,m0,d0,B1,m1,d1,rfl,hadb,⟨e0,e1,e2,e3,e4,e5,e6,e7,e8⟩,hkt⟩:=hat2.kid k (by simpa using hlt);have HKT:=Lib.hid hkt;clear hkt hat2 hb8 hwx;have hisk:=HIS.out k hlt;have hszk:=HSZ.out k hlt;have HISK:=Lib.hid hisk;have HXK:Hid (∃ x,[a,b][k]?=some x/\vw L x ([t0,t1][k]'(by simpa using hlt))/\x.sz < n):=⟨_,List.getElem?_eq_getElem (by simpa using hlt),hisk,hszk⟩;clear hisk hszk HISK;generalize ([t0,t1][k]'(by simpa using hlt))=tk at *;obtain ⟨x,hxk,hisx,hszx⟩:=HXK;have HXK:=Lib.hid hxk;have HISX:=Lib.hid hisx;clear hxk hisx;go_wp2_with fail;refine (IH.out x tk hszx HISX.out _ _ (HKT.out.ext ((Ext.refl wr).alloc _))).mono ?_;rintro e w2 ⟨v2,rfl,htm,hx2⟩;have hinv2:=HINV.out.ext (((Ext.refl wr).alloc _).trans hx2);obtain ⟨T2,u2,rfl⟩:=htm.iface;obtain ⟨uk,ck,ik,fk⟩:=hinv2.cell k (by omega);have HNEXT:=Lib.hid (hinv2.put (u:=.iface T2 u2) (by omega) (by omega) (by omega) rfl (fun y hy=>by rw [HXK.out] at hy; injection hy with hy; subst hy; exact htm));clear hinv2 htm hx2 e0 e1 e2 e3 e4 e5 e6 e7 e8;go_wp2_with fail
    go_roundw
    case rel=>exact ⟨k+1,by omega,by go_num,HNEXT⟩
    case measure=>simp [intOf]; omega
  · clear hat2 hwx;have hk2:2<=k:=by omega
    obtain ⟨hwx,-,u0,u1,hpar,i0,i1,p0,p1⟩:=HINV.out;have c0:wr.cell? ⟨w.heap.size,0,none⟩=some (.int .i64 4):=by simp [World.cell?,hb8]
    have c4:wr.cell? ⟨w.heap.size,4,none⟩=some (.int .i64 exp):=by simp [World.cell?,hb8]
    have q0:wr.cell? ⟨w.heap.size+1,0,none⟩=some u0:=by simp [World.cell?,hpar]
    have q1:wr.cell? ⟨w.heap.size+1,1,none⟩=some u1:=by simp [World.cell?,hpar]
    have f0:=p0 a (by omega) rfl;obtain ⟨T0,u0,rfl⟩:=f0.iface;have f1:=p1 b (by omega) rfl;obtain ⟨T1,u1,rfl⟩:=f1.iface;have HFIN:Hid (TmV wr L (.sub a b) (.iface 127 (.agg #[.iface T0 u0,.iface T1 u1]))):=⟨_,_,rfl,f0,f1⟩;clear f0 f1;have HWX:=Lib.hid hwx;clear hb8 hpar hwx HINV i0 i1 p0 p1;go_wp2_with fail
    go_ret2
    exact ⟨_,rfl,HFIN.out,HWX.out⟩
theorem kcs {L n:Nat} (ih:yav L n) {a b:Tm} (t:Tr) (hsz:(Tm.mul a b).sz < n+1) (h:vw L (.mul a b) t) (v:Value) (w:World) (hv:TrV w (fun _=>True) t v):Calls Tryz.prog 20 #[v] w (war L (.mul a b) w):=by
 have IH:=Lib.hid ih;clear ih;obtain ⟨⟨kind,neg,ds,name,exp,rel,truth,all⟩,ks⟩:=t;obtain ⟨hkind,t0,t1,hks,h0,h1⟩:=h;simp only [Tr.d] at hkind;simp only [Tr.ks] at hks;subst hkind hks;obtain ⟨A0,n0,c0,A,c,rfl,hnat,hc1,hc2,hat⟩:=hv.open_
 change ui w _ [t0,t1] A 0 at hat
 have HAT:=Lib.hid hat;clear hv hat hnat;unfold ndV;simp only [Tr.d,Tr.ks,List.length_cons,List.length_nil,Nat.zero_add,Nat.reduceAdd] at hc1 ⊢;have HIS:Hid (∀ i (hi:i < 2),vw L ([a,b][i]'(by simpa using hi)) ([t0,t1][i]'(by simpa using hi))):=by
  intro i hi;rcases (show i=0\/i=1 by omega) with rfl | rfl
  · exact h0
  · exact h1
 clear h0 h1;have hsz':∀ i (hi:i < 2),([a,b][i]'(by simpa using hi)).sz < n:=by
  intro i hi;simp only [Tm.sz] at hsz;rcases (show i=0\/i=1 by omega) with rfl | rfl <;> simp <;> omega
 have HSZ:=Lib.hid hsz';clear hsz';go_enter Tryz.func20,Tryz.ntmps20;go_wp2_with fail
 go_loopw [40] (fun iv wr=>∃ k:Nat,k<=2/\iv=.int .i64 k/\Hid (yad L w (w.heap.size+1) w.heap.size (.cells #[.int .i64 5,.bool neg,.slice A0 n0 c0,.string name,.int .i64 exp,.int .i64 rel,.bool truth,.bool all,.slice A 2 c] 29) [a,b] k wr)) (fun iv _=>2 - (intOf iv).toNat)
 case atStart =>
  refine ⟨0,by omega,rfl,⟨((Ext.refl w).alloc _).alloc _,?_,.nilIface,.nilIface,?_,rfl,rfl,fun x hk=>absurd hk (by omega),fun x hk=>absurd hk (by omega)⟩⟩
  · rw [Below.heap_alloc _ _ _ (by simp)]; exact heap_alloc_new w _
  · have:=heap_alloc_new (w.alloc (.cells #[.int .i64 5,.bool neg,.slice A0 n0 c0,.string name,.int .i64 exp,.int .i64 rel,.bool truth,.bool all,.slice A 2 c] 29)) (.cells #[.nilIface,.nilIface] 117)
    rwa [World.size_alloc] at this
 case round =>
  obtain ⟨k,hk,rfl,hinv⟩:=hrel;have HINV:=Lib.hid hinv;have hwx:=hinv.1;have hat2:=HAT.out.ext hwx;have hb8:=hinv.2.1;clear hinv
  by_cases hlt:k < 2
  · obtain ⟨ad,B0,m0,d0,B1,m1,d1,rfl,hadb,⟨e0,e1,e2,e3,e4,e5,e6,e7,e8⟩,hkt⟩:=hat2.kid k (by simpa using hlt);have HKT:=Lib.hid hkt;clear hkt hat2 hb8 hwx;have hisk:=HIS.out k hlt;have hszk:=HSZ.out k hlt;have HISK:=Lib.hid hisk;have HXK:Hid (∃ x,[a,b][k]?=some x/\vw L x ([t0,t1][k]'(by simpa using hlt))/\x.sz < n):=⟨_,List.getElem?_eq_getElem (by simpa using hlt),hisk,hszk⟩;clear hisk hszk HISK;generalize ([t0,t1][k]'(by simpa using hlt))=tk at *;obtain ⟨x,hxk,hisx,hszx⟩:=HXK;have HXK:=Lib.hid hxk;have HISX:=Lib.hid hisx;clear hxk hisx;go_wp2_with fail;refine (IH.out x tk hszx HISX.out _ _ (HKT.out.ext ((Ext.refl wr).alloc _))).mono ?_;rintro e w2 ⟨v2,rfl,htm,hx2⟩;have hinv2:=HINV.out.ext (((Ext.refl wr).alloc _).trans hx2);obtain ⟨T2,u2,rfl⟩:=htm.iface;obtain ⟨uk,ck,ik,fk⟩:=hinv2.cell k (by omega);have HNEXT:=Lib.hid (hinv2.put (u:=.iface T2 u2) (by omega) (by omega) (by omega) rfl (fun y hy=>by rw [HXK.out] at hy; injection hy with hy; subst hy; exact htm));clear hinv2 htm hx2 e0 e1 e2 e3 e4 e5 e6 e7 e8;go_wp2_with fail
    go_roundw
    case rel=>exact ⟨k+1,by omega,by go_num,HNEXT⟩
    case measure=>simp [intOf]; omega
  · clear hat2 hwx;have hk2:2<=k:=by omega
    obtain ⟨hwx,-,u0,u1,hpar,i0,i1,p0,p1⟩:=HINV.out;have c0:wr.cell? ⟨w.heap.size,0,none⟩=some (.int .i64 5):=by simp [World.cell?,hb8]
    have c4:wr.cell? ⟨w.heap.size,4,none⟩=some (.int .i64 exp):=by simp [World.cell?,hb8]
    have q0:wr.cell? ⟨w.heap.size+1,0,none⟩=some u0:=by simp [World.cell?,hpar]
    have q1:wr.cell? ⟨w.heap.size+1,1,none⟩=some u1:=by simp [World.cell?,hpar]
    have f0:=p0 a (by omega) rfl;obtain ⟨T0,u0,rfl⟩:=f0.iface;have f1:=p1 b (by omega) rfl;obtain ⟨T1,u1,rfl⟩:=f1.iface;have HFIN:Hid (TmV wr L (.mul a b) (.iface 128 (.agg #[.iface T0 u0,.iface T1 u1]))):=⟨_,_,rfl,f0,f1⟩;clear f0 f1;have HWX:=Lib.hid hwx;clear hb8 hpar hwx HINV i0 i1 p0 p1;go_wp2_with fail
    go_ret2
    exact ⟨_,rfl,HFIN.out,HWX.out⟩
theorem jcs {L n:Nat} (ih:yav L n) {a:Tm} (t:Tr) (hsz:(Tm.neg a).sz < n+1) (h:vw L (.neg a) t) (v:Value) (w:World) (hv:TrV w (fun _=>True) t v):Calls Tryz.prog 20 #[v] w (war L (.neg a) w):=by
 have IH:=Lib.hid ih;clear ih;obtain ⟨⟨kind,neg,ds,name,exp,rel,truth,all⟩,ks⟩:=t;obtain ⟨hkind,t0,hks,h0⟩:=h;simp only [Tr.d] at hkind;simp only [Tr.ks] at hks;subst hkind hks;obtain ⟨A0,n0,c0,A,c,rfl,hnat,hc1,hc2,hat⟩:=hv.open_
 change ui w _ [t0] A 0 at hat
 have HAT:=Lib.hid hat;clear hv hat hnat;unfold ndV;simp only [Tr.d,Tr.ks,List.length_cons,List.length_nil,Nat.zero_add,Nat.reduceAdd] at hc1 ⊢;have HIS:Hid (∀ i (hi:i < 1),vw L ([a][i]'(by simpa using hi)) ([t0][i]'(by simpa using hi))):=by
  intro i hi;obtain rfl:i=0:=by omega
  exact h0
 clear h0;have hsz':∀ i (hi:i < 1),([a][i]'(by simpa using hi)).sz < n:=by
  intro i hi;simp only [Tm.sz] at hsz;obtain rfl:i=0:=by omega
  simp; omega
 have HSZ:=Lib.hid hsz';clear hsz';go_enter Tryz.func20,Tryz.ntmps20;go_wp2_with fail
 go_loopw [40] (fun iv wr=>∃ k:Nat,k<=1/\iv=.int .i64 k/\Hid (yad L w (w.heap.size+1) w.heap.size (.cells #[.int .i64 6,.bool neg,.slice A0 n0 c0,.string name,.int .i64 exp,.int .i64 rel,.bool truth,.bool all,.slice A 1 c] 29) [a] k wr)) (fun iv _=>1 - (intOf iv).toNat)
 case atStart =>
  refine ⟨0,by omega,rfl,⟨((Ext.refl w).alloc _).alloc _,?_,.nilIface,.nilIface,?_,rfl,rfl,fun x hk=>absurd hk (by omega),fun x hk=>absurd hk (by omega)⟩⟩
  · rw [Below.heap_alloc _ _ _ (by simp)]; exact heap_alloc_new w _
  · have:=heap_alloc_new (w.alloc (.cells #[.int .i64 6,.bool neg,.slice A0 n0 c0,.string name,.int .i64 exp,.int .i64 rel,.bool truth,.bool all,.slice A 1 c] 29)) (.cells #[.nilIface,.nilIface] 117)
    rwa [World.size_alloc] at this
 case round =>
  obtain ⟨k,hk,rfl,hinv⟩:=hrel;have HINV:=Lib.hid hinv;have hwx:=hinv.1;have hat2:=HAT.out.ext hwx;have hb8:=hinv.2.1;clear hinv
  by_cases hlt:k < 1
  · obtain ⟨ad,B0,m0,d0,B1,m1,d1,rfl,hadb,⟨e0,e1,e2,e3,e4,e5,e6,e7,e8⟩,hkt⟩:=hat2.kid k (by simpa using hlt);have HKT:=Lib.hid hkt;clear hkt hat2 hb8 hwx;have hisk:=HIS.out k hlt;have hszk:=HSZ.out k hlt;have HISK:=Lib.hid hisk;have HXK:Hid (∃ x,[a][k]?=some x/\vw L x ([t0][k]'(by simpa using hlt))/\x.sz < n):=⟨_,List.getElem?_eq_getElem (by simpa using hlt),hisk,hszk⟩;clear hisk hszk HISK;generalize ([t0][k]'(by simpa using hlt))=tk at *;obtain ⟨x,hxk,hisx,hszx⟩:=HXK;have HXK:=Lib.hid hxk;have HISX:=Lib.hid hisx;clear hxk hisx;go_wp2_with fail;refine (IH.out x tk hszx HISX.out _ _ (HKT.out.ext ((Ext.refl wr).alloc _))).mono ?_;rintro e w2 ⟨v2,rfl,htm,hx2⟩;have hinv2:=HINV.out.ext (((Ext.refl wr).alloc _).trans hx2);obtain ⟨T2,u2,rfl⟩:=htm.iface;obtain ⟨uk,ck,ik,fk⟩:=hinv2.cell k (by omega);have HNEXT:=Lib.hid (hinv2.put (u:=.iface T2 u2) (by omega) (by omega) (by omega) rfl (fun y hy=>by rw [HXK.out] at hy; injection hy with hy; subst hy; exact htm));clear hinv2 htm hx2 e0 e1 e2 e3 e4 e5 e6 e7 e8;go_wp2_with fail
    go_roundw
    case rel=>exact ⟨k+1,by omega,by go_num,HNEXT⟩
    case measure=>simp [intOf]; omega
  · clear hat2 hwx;have hk2:1<=k:=by omega
    obtain ⟨hwx,-,u0,u1,hpar,i0,i1,p0,p1⟩:=HINV.out;have c0:wr.cell? ⟨w.heap.size,0,none⟩=some (.int .i64 6):=by simp [World.cell?,hb8]
    have c4:wr.cell? ⟨w.heap.size,4,none⟩=some (.int .i64 exp):=by simp [World.cell?,hb8]
    have q0:wr.cell? ⟨w.heap.size+1,0,none⟩=some u0:=by simp [World.cell?,hpar]
    have q1:wr.cell? ⟨w.heap.size+1,1,none⟩=some u1:=by simp [World.cell?,hpar]
    have f0:=p0 a (by omega) rfl;obtain ⟨T0,u0,rfl⟩:=f0.iface;have HFIN:Hid (TmV wr L (.neg a) (.iface 122 (.agg #[.iface T0 u0]))):=⟨_,rfl,f0⟩;clear f0;have HWX:=Lib.hid hwx;clear hb8 hpar hwx HINV i0 i1 p0 p1;go_wp2_with fail
    go_ret2
    exact ⟨_,rfl,HFIN.out,HWX.out⟩
theorem xcs {L n:Nat} (ih:yav L n) {a:Tm} {ex:Int} (t:Tr) (hsz:(Tm.pow a ex).sz < n+1) (h:vw L (.pow a ex) t) (v:Value) (w:World) (hv:TrV w (fun _=>True) t v):Calls Tryz.prog 20 #[v] w (war L (.pow a ex) w):=by
 have IH:=Lib.hid ih;clear ih;obtain ⟨⟨kind,neg,ds,name,exp,rel,truth,all⟩,ks⟩:=t;obtain ⟨hkind,hexp,hpos,t0,hks,h0⟩:=h;simp only [Tr.d] at hexp;subst hexp;have hpd:decide (exp < 0)=false:=by simpa using hpos
 simp only [Tr.d] at hkind;simp only [Tr.ks] at hks;subst hkind hks;obtain ⟨A0,n0,c0,A,c,rfl,hnat,hc1,hc2,hat⟩:=hv.open_
 change ui w _ [t0] A 0 at hat
 have HAT:=Lib.hid hat;clear hv hat hnat;unfold ndV;simp only [Tr.d,Tr.ks,List.length_cons,List.length_nil,Nat.zero_add,Nat.reduceAdd] at hc1 ⊢;have HIS:Hid (∀ i (hi:i < 1),vw L ([a][i]'(by simpa using hi)) ([t0][i]'(by simpa using hi))):=by
  intro i hi;obtain rfl:i=0:=by omega
  exact h0
 clear h0;have hsz':∀ i (hi:i < 1),([a][i]'(by simpa using hi)).sz < n:=by
  intro i hi;simp only [Tm.sz] at hsz;obtain rfl:i=0:=by omega
  simp; omega
 have HSZ:=Lib.hid hsz';clear hsz';go_enter Tryz.func20,Tryz.ntmps20;go_wp2_with fail
 go_loopw [40] (fun iv wr=>∃ k:Nat,k<=1/\iv=.int .i64 k/\Hid (yad L w (w.heap.size+1) w.heap.size (.cells #[.int .i64 7,.bool neg,.slice A0 n0 c0,.string name,.int .i64 exp,.int .i64 rel,.bool truth,.bool all,.slice A 1 c] 29) [a] k wr)) (fun iv _=>1 - (intOf iv).toNat)
 case atStart =>
  refine ⟨0,by omega,rfl,⟨((Ext.refl w).alloc _).alloc _,?_,.nilIface,.nilIface,?_,rfl,rfl,fun x hk=>absurd hk (by omega),fun x hk=>absurd hk (by omega)⟩⟩
  · rw [Below.heap_alloc _ _ _ (by simp)]; exact heap_alloc_new w _
  · have:=heap_alloc_new (w.alloc (.cells #[.int .i64 7,.bool neg,.slice A0 n0 c0,.string name,.int .i64 exp,.int .i64 rel,.bool truth,.bool all,.slice A 1 c] 29)) (.cells #[.nilIface,.nilIface] 117)
    rwa [World.size_alloc] at this
 case round =>
  obtain ⟨k,hk,rfl,hinv⟩:=hrel;have HINV:=Lib.hid hinv;have hwx:=hinv.1;have hat2:=HAT.out.ext hwx;have hb8:=hinv.2.1;clear hinv
  by_cases hlt:k < 1
  · obtain ⟨ad,B0,m0,d0,B1,m1,d1,rfl,hadb,⟨e0,e1,e2,e3,e4,e5,e6,e7,e8⟩,hkt⟩:=hat2.kid k (by simpa using hlt);have HKT:=Lib.hid hkt;clear hkt hat2 hb8 hwx;have hisk:=HIS.out k hlt;have hszk:=HSZ.out k hlt;have HISK:=Lib.hid hisk;have HXK:Hid (∃ x,[a][k]?=some x/\vw L x ([t0][k]'(by simpa using hlt))/\x.sz < n):=⟨_,List.getElem?_eq_getElem (by simpa using hlt),hisk,hszk⟩;clear hisk hszk HISK;generalize ([t0][k]'(by simpa using hlt))=tk at *;obtain ⟨x,hxk,hisx,hszx⟩:=HXK;have HXK:=Lib.hid hxk;have HISX:=Lib.hid hisx;clear hxk hisx;go_wp2_with fail;refine (IH.out x tk hszx HISX.out _ _ (HKT.out.ext ((Ext.refl wr).alloc _))).mono ?_;rintro e w2 ⟨v2,rfl,htm,hx2⟩;have hinv2:=HINV.out.ext (((Ext.refl wr).alloc _).trans hx2);obtain ⟨T2,u2,rfl⟩:=htm.iface;obtain ⟨uk,ck,ik,fk⟩:=hinv2.cell k (by omega);have HNEXT:=Lib.hid (hinv2.put (u:=.iface T2 u2) (by omega) (by omega) (by omega) rfl (fun y hy=>by rw [HXK.out] at hy; injection hy with hy; subst hy; exact htm));clear hinv2 htm hx2 e0 e1 e2 e3 e4 e5 e6 e7 e8;go_wp2_with fail
    go_roundw
    case rel=>exact ⟨k+1,by omega,by go_num,HNEXT⟩
    case measure=>simp [intOf]; omega
  · clear hat2 hwx;have hk2:1<=k:=by omega
    obtain ⟨hwx,-,u0,u1,hpar,i0,i1,p0,p1⟩:=HINV.out;have c0:wr.cell? ⟨w.heap.size,0,none⟩=some (.int .i64 7):=by simp [World.cell?,hb8]
    have c4:wr.cell? ⟨w.heap.size,4,none⟩=some (.int .i64 exp):=by simp [World.cell?,hb8]
    have q0:wr.cell? ⟨w.heap.size+1,0,none⟩=some u0:=by simp [World.cell?,hpar]
    have q1:wr.cell? ⟨w.heap.size+1,1,none⟩=some u1:=by simp [World.cell?,hpar]
    have f0:=p0 a (by omega) rfl;obtain ⟨T0,u0,rfl⟩:=f0.iface;have HFIN:Hid (TmV wr L (.pow a exp) (.iface 124 (.agg #[.iface T0 u0,.int .i64 exp]))):=⟨_,rfl,f0⟩;clear f0;have HWX:=Lib.hid hwx;clear hb8 hpar hwx HINV i0 i1 p0 p1;go_wp2_with fail
    go_ret2
    exact ⟨_,rfl,HFIN.out,HWX.out⟩
theorem zci {L n:Nat} (ih:yav L n) {s:ByteArray} (t:Tr) (hsz:(Tm.name s).sz < n+1) (h:vw L (.name s) t) (v:Value) (w:World) (hv:TrV w (fun _=>True) t v):Calls Tryz.prog 20 #[v] w (war L (.name s) w):=by
 have IH:=Lib.hid ih;clear ih;obtain ⟨⟨kind,neg,ds,name,exp,rel,truth,all⟩,ks⟩:=t;obtain ⟨hkind,hks,hname⟩:=h;simp only [Tr.d] at hname;subst hname;simp only [Tr.d] at hkind;simp only [Tr.ks] at hks;subst hkind hks;obtain ⟨A0,n0,c0,A,c,rfl,hnat,hc1,hc2,hat⟩:=hv.open_
 change ui w _ [] A 0 at hat
 have HAT:=Lib.hid hat;clear hv hat;unfold ndV;simp only [Tr.d,Tr.ks,List.length_cons,List.length_nil,Nat.zero_add,Nat.reduceAdd] at hc1 ⊢;go_enter Tryz.func20,Tryz.ntmps20;go_wp2_with fail;refine wp_loop_rounds 1 ?_;rw [rounds_succ];go_wp2_with fail
 go_ret2
 exact ⟨_,rfl,rfl,((Ext.refl w).alloc _).alloc _⟩
theorem qcs {L n:Nat} (hL:L<=35184372088000) (ih:yav L n) {z:Int} (t:Tr) (hsz:(Tm.num z).sz < n+1) (h:vw L (.num z) t) (v:Value) (w:World) (hv:TrV w (fun _=>True) t v):Calls Tryz.prog 20 #[v] w (war L (.num z) w):=by
 have IH:=Lib.hid ih;clear ih;obtain ⟨⟨kind,neg,ds,name,exp,rel,truth,all⟩,ks⟩:=t;obtain ⟨hkind,hks,hz,hlen⟩:=h;simp only [Tr.d] at hz hlen;simp only [Tr.d] at hkind;simp only [Tr.ks] at hks;subst hkind hks;obtain ⟨A0,n0,c0,A,c,rfl,hnat,hc1,hc2,hat⟩:=hv.open_
 change ui w _ [] A 0 at hat
 have HAT:=Lib.hid hat;clear hv hat;unfold ndV;simp only [Tr.d,Tr.ks,List.length_cons,List.length_nil,Nat.zero_add,Nat.reduceAdd] at hc1 ⊢;go_enter Tryz.func20,Tryz.ntmps20;go_wp2_with fail;refine wp_loop_rounds 1 ?_;rw [rounds_succ];go_wp2_with fail;obtain ⟨W,hW⟩:∃ W,(w.alloc (.cells #[.int .i64 1,.bool neg,.slice A0 n0 c0,.string name,.int .i64 exp,.int .i64 rel,.bool truth,.bool all,.slice A 0 c] 29)).alloc (.cells #[.nilIface,.nilIface] 117)=W:=⟨_,rfl⟩;have hWx:Ext w W:=by rw [<- hW]; exact ((Ext.refl w).alloc _).alloc _
 rw [hW];clear hW;have hint:xq W (.agg #[.bool neg,.slice A0 n0 c0]) z L:=⟨neg,_,ds,rfl,hnat.ext hWx,hz,hlen⟩;refine (zak _ z L _ hint (by omega)).mono ?_;rintro e w1 ⟨x1,rfl,m1,y1⟩;have HFIN:Hid (TmV w1 L (.num z) (.iface 120 x1)):=⟨x1,rfl,m1.raw.mono (by rw [hz,qp]; exact Nat.le_trans (yh hnat.digs) hlen)⟩;have HX:=Lib.hid (hWx.trans y1);obtain ⟨b1,A1,n1,c1,rfl⟩:=m1.unpack;clear hint hz hnat hWx m1 y1;go_wp2_with fail
 go_ret2
 exact ⟨_,rfl,HFIN.out,HX.out⟩
theorem ycx (L:Nat) (hL:L<=35184372088000) (n:Nat):yav L n:=by
 induction n with
 | zero=>intro m t h; omega
 | succ n ih =>
   intro m t hsz h v w hv;cases m with
   | num z=>exact qcs hL ih t hsz h v w hv
   | name s=>exact zci ih t hsz h v w hv
   | add a b=>exact vcs ih t hsz h v w hv
   | sub a b=>exact ycs ih t hsz h v w hv
   | mul a b=>exact kcs ih t hsz h v w hv
   | neg a=>exact jcs ih t hsz h v w hv
   | pow a e=>exact xcs ih t hsz h v w hv
theorem jb2 {L:Nat} (hL:L<=35184372088000) (m:Tm) (t:Tr) (h:vw L m t) (v:Value) (w:World) {p:Nat->Prop} (hv:TrV w p t v):Calls Tryz.prog 20 #[v] w (war L m w):=
 ycx L hL (m.sz+1) m t (Nat.lt_succ_self _) h v w (hv.mono fun _ _=>trivial)
end Go.Proofs.YtaedbimbbeploaaGreatDoor

/- Layer 34: formula.Of: the formula of a tree. -/
namespace Go.Proofs.YtaedbimbbeploaaGreatDoor
open Go.RowKit
def wan (L : Nat) : Fm -> Tr -> Prop
 | .truth b,t=>t.d.kind=8/\t.ks=[]/\t.d.truth=b
 | .atom l r k,t=>t.d.kind=9/\t.d.rel=r/\1<=r/\r<=6/\∃ x y,t.ks=[x,y]/\vw L l x/\vw L k y
 | .not f,t=>t.d.kind=10/\∃ x,t.ks=[x]/\wan L f x
 | .and f g,t=>t.d.kind=11/\∃ x y,t.ks=[x,y]/\wan L f x/\wan L g y
 | .or f g,t=>t.d.kind=12/\∃ x y,t.ks=[x,y]/\wan L f x/\wan L g y
 | .imp f g,t=>t.d.kind=13/\∃ x y,t.ks=[x,y]/\wan L f x/\wan L g y
 | .iff f g,t=>t.d.kind=14/\∃ x y,t.ks=[x,y]/\wan L f x/\wan L g y
 | .quant a s f,t=>t.d.kind=15/\t.d.all=a/\t.d.name=s/\∃ x,t.ks=[x]/\wan L f x
theorem ui.kid0 {w:World} {p:Nat->Prop} {l:List Tr} {A:Option Addr} (h:ui w p l A 0) (hk:0 < l.length):∃ ad A0 n0 c0 A1 n1 c1,A=some ad/\ad.block < w.heap.size/\uad w ad l[0].d (.slice A0 n0 c0) (.slice A1 n1 c1)/\TrV w p l[0] (ndV l[0].d (.slice A0 n0 c0) (.slice A1 n1 c1)):=by
 obtain ⟨ad,A0,n0,c0,A1,n1,c1,e,hb,h1,h2⟩:=h.kid 0 hk;exact ⟨ad,A0,n0,c0,A1,n1,c1,e,hb,h1,h2⟩
theorem uad.nine {w:World} {ad:Addr} {d:Nd} {s A:Value} (h:uad w (ad.add (1 * 9)) d s A):w.cell? ⟨ad.block,ad.off+9,none⟩=some (.int .i64 d.kind)/\w.cell? ⟨ad.block,ad.off+9+1,none⟩=some (.bool d.neg)/\w.cell? ⟨ad.block,ad.off+9+2,none⟩=some s/\w.cell? ⟨ad.block,ad.off+9+3,none⟩=some (.string d.name)/\w.cell? ⟨ad.block,ad.off+9+4,none⟩=some (.int .i64 d.exp)/\w.cell? ⟨ad.block,ad.off+9+5,none⟩=some (.int .i64 d.rel)/\w.cell? ⟨ad.block,ad.off+9+6,none⟩=some (.bool d.truth)/\w.cell? ⟨ad.block,ad.off+9+7,none⟩=some (.bool d.all)/\w.cell? ⟨ad.block,ad.off+9+8,none⟩=some A:=h
end Go.Proofs.YtaedbimbbeploaaGreatDoor

/- The nine cells of a tree's box. -/
namespace Go.Proofs.YtaedbimbbeploaaGreatDoor
open Go.RowKit
def ja8 (w:World) (g:Nat) (d:Nd) (s A:Value):Prop:=
 w.cell? ⟨g,0,none⟩=some (.int .i64 d.kind)/\w.cell? ⟨g,1,none⟩=some (.bool d.neg)/\w.cell? ⟨g,2,none⟩=some s/\w.cell? ⟨g,3,none⟩=some (.string d.name)/\w.cell? ⟨g,4,none⟩=some (.int .i64 d.exp)/\w.cell? ⟨g,5,none⟩=some (.int .i64 d.rel)/\w.cell? ⟨g,6,none⟩=some (.bool d.truth)/\w.cell? ⟨g,7,none⟩=some (.bool d.all)/\w.cell? ⟨g,8,none⟩=some A
theorem ja8.ext {w w':World} {g:Nat} {d:Nd} {s A:Value} (h:ja8 w g d s A) (hx:Ext w w') (hg:g < w.heap.size):ja8 w' g d s A:=by
 obtain ⟨h0,h1,h2,h3,h4,h5,h6,h7,h8⟩:=h;have k:∀ i,w'.cell? ⟨g,i,none⟩=w.cell? ⟨g,i,none⟩:=fun i=>hx.cell (p:=⟨g,i,none⟩) hg
 exact ⟨(k _).trans h0,(k _).trans h1,(k _).trans h2,(k _).trans h3,(k _).trans h4,(k _).trans h5,(k _).trans h6,(k _).trans h7,(k _).trans h8⟩
theorem ja8.new (w:World) (d:Nd) (s A:Value) (T:TypeId):ja8 (w.alloc (.cells #[.int .i64 d.kind,.bool d.neg,s,.string d.name,.int .i64 d.exp,.int .i64 d.rel,.bool d.truth,.bool d.all,A] T)) w.heap.size d s A:=by
 refine ⟨?_,?_,?_,?_,?_,?_,?_,?_,?_⟩ <;> simp [go_sem]
end Go.Proofs.YtaedbimbbeploaaGreatDoor

/- Layer 34: formula.PlainTerm, formula.Plain. -/
set_option maxRecDepth 100000
set_option maxHeartbeats 8000000
namespace Go.Proofs.YtaedbimbbeploaaGreatDoor
open Go.RowKit
attribute [local go_sem] yac uz uac wab jac qac zac jw wz xac vac yaf ul kac kw
def nd0:Nd:={ kind:=0,neg:=false,ds:=[],name:=⟨#[]⟩,exp:=0,rel:=0,truth:=false,all:=false }
def Tm.plain : Tm -> Tr
 | .num z=>.mk { nd0 with kind:=1,neg:=decide (z < 0),ds:=dg z.natAbs } []
 | .name s=>.mk { nd0 with kind:=2,name:=s } []
 | .add a b=>.mk { nd0 with kind:=3 } [a.plain,b.plain]
 | .sub a b=>.mk { nd0 with kind:=4 } [a.plain,b.plain]
 | .mul a b=>.mk { nd0 with kind:=5 } [a.plain,b.plain]
 | .neg a=>.mk { nd0 with kind:=6 } [a.plain]
 | .pow a e=>.mk { nd0 with kind:=7,exp:=je e 0 } [a.plain]
def yan (r:Int):Int:=if r < 1\/6 < r then 3 else r
def Fm.plain : Fm -> Tr
 | .truth b=>.mk { nd0 with kind:=8,truth:=b } []
 | .atom l r k=>.mk { nd0 with kind:=9,rel:=yan r } [l.plain,k.plain]
 | .not f=>.mk { nd0 with kind:=10 } [f.plain]
 | .and f g=>.mk { nd0 with kind:=11 } [f.plain,g.plain]
 | .or f g=>.mk { nd0 with kind:=12 } [f.plain,g.plain]
 | .imp f g=>.mk { nd0 with kind:=13 } [f.plain,g.plain]
 | .iff f g=>.mk { nd0 with kind:=14 } [f.plain,g.plain]
 | .quant a s f=>.mk { nd0 with kind:=15,all:=a,name:=s } [f.plain]
def uj (t:Tr) (w:World) (e:Ending) (w':World):Prop:=∃ v,e=.returned v/\TrO w' w.heap.size w'.heap.size t v/\Ext w w'
def uq (w:World) (g:Nat):Prop:=(w.cell? ⟨g,0,none⟩=some (.int .i64 0)/\w.cell? ⟨g,1,none⟩=some (.bool false)/\w.cell? ⟨g,2,none⟩=some (.slice none 0 0)/\w.cell? ⟨g,3,none⟩=some (.string ⟨#[]⟩)/\w.cell? ⟨g,4,none⟩=some (.int .i64 0)/\w.cell? ⟨g,5,none⟩=some (.int .i64 0)/\w.cell? ⟨g,6,none⟩=some (.bool false)/\w.cell? ⟨g,7,none⟩=some (.bool false)/\w.cell? ⟨g,8,none⟩=some (.slice none 0 0))/\∀ i,w.frozen? ⟨g,i,none⟩=false
theorem uq.ext {w w':World} {g:Nat} (h:uq w g) (hx:Ext w w') (hg:g < w.heap.size):uq w' g:=by
 obtain ⟨⟨h0,h1,h2,h3,h4,h5,h6,h7,h8⟩,hf⟩:=h;have k:∀ i,w'.cell? ⟨g,i,none⟩=w.cell? ⟨g,i,none⟩:=fun i=>hx.cell (p:=⟨g,i,none⟩) hg
 exact ⟨⟨(k _).trans h0,(k _).trans h1,(k _).trans h2,(k _).trans h3,(k _).trans h4,(k _).trans h5,(k _).trans h6,(k _).trans h7,(k _).trans h8⟩,fun i=>(hx.frozen (p:=⟨g,i,none⟩) hg).trans (hf i)⟩
theorem qae (w:World) (t:TypeId):uq (w.alloc (.cells #[.int .i64 0,.bool false,.slice none 0 0,.string ⟨#[]⟩,.int .i64 0,.int .i64 0,.bool false,.bool false,.slice none 0 0] t)) w.heap.size:=by
 refine ⟨⟨?_,?_,?_,?_,?_,?_,?_,?_,?_⟩,fun i=>?_⟩ <;> simp [go_sem] <;> rfl
def set9 (W:World) (g:Nat) (u0 u1 u2 u3 u4 u5 u6 u7 u8:Value):World:=
 ((((((((W.setCell ⟨g,0,none⟩ u0).setCell ⟨g,1,none⟩ u1).setCell ⟨g,2,none⟩ u2).setCell ⟨g,3,none⟩ u3).setCell ⟨g,4,none⟩ u4).setCell ⟨g,5,none⟩ u5).setCell ⟨g,6,none⟩ u6).setCell ⟨g,7,none⟩ u7).setCell ⟨g,8,none⟩ u8
theorem zx (W:World) (g:Nat) (u0 u1 u2 u3 u4 u5 u6 u7 u8:Value) (a:Addr) (h:a.block ≠ g):(set9 W g u0 u1 u2 u3 u4 u5 u6 u7 u8).cell? a=W.cell? a:=by
 unfold set9;have k:∀ (W:World) i u,(W.setCell ⟨g,i,none⟩ u).cell? a=W.cell? a:=fun W i u=>World.cell?_setCell_other _ _ _ _ (fun e=>h (by rw [<- e]))
 simp only [k]
theorem gag {w W:World} {g:Nat} (hx:Ext w W) (hg:w.heap.size<=g) (u0 u1 u2 u3 u4 u5 u6 u7 u8:Value):Ext w (set9 W g u0 u1 u2 u3 u4 u5 u6 u7 u8):=by
 unfold set9;exact ((((((((hx.setCell hg _).setCell hg _).setCell hg _).setCell hg _).setCell hg _).setCell hg _).setCell hg _).setCell hg _).setCell hg _
theorem TrO.box {w:World} {t:Tr} {v:Value} {lo hi:Nat} (h:TrO w lo hi t v) {a:Addr} {u:Value} (ha:w.cell? a=some u) (hu:yaa u=false) (hp:¬ (lo<=a.block/\a.block < hi)) (u':Value):TrO (w.setCell a u') lo hi t v:=
 TrO.turn (by simp) (fun _ _ h=>h.box ha hu u') t v lo hi lo hi (Nat.le_refl _) (Nat.le_refl _) (fun i h1 h2 _=>Below.heap_setCell w a u' i (fun e=>hp (by omega))) h
theorem TrO.set9 {W:World} {g lo hi:Nat} {t:Tr} {v:Value} (hz:uq W g) (hp:¬ (lo<=g/\g < hi)) (h:TrO W lo hi t v) (u0 u1 u2 u3 u4 u5 u6 u7 u8:Value):TrO (set9 W g u0 u1 u2 u3 u4 u5 u6 u7 u8) lo hi t v:=by
 obtain ⟨⟨h0,h1,h2,h3,h4,h5,h6,h7,h8⟩,-⟩:=hz;unfold Go.Proofs.YtaedbimbbeploaaGreatDoor.set9;have o:∀ (W:World) (i j:Nat) (u:Value) (x:Option Value),i ≠ j->W.cell? ⟨g,i,none⟩=x->(W.setCell ⟨g,j,none⟩ u).cell? ⟨g,i,none⟩=x:=fun W i j u x hij h=>by
  rw [World.cell?_setCell_other _ _ _ _ (by intro e; injection e; omega)]; exact h
 have k0:=TrO.box h h0 rfl hp u0;have k1:=TrO.box k0 (o _ 1 0 _ _ (by omega) h1) rfl hp u1;have k2:=TrO.box k1 (o _ 2 1 _ _ (by omega) (o _ 2 0 _ _ (by omega) h2)) rfl hp u2;have k3:=TrO.box k2 (o _ 3 2 _ _ (by omega) (o _ 3 1 _ _ (by omega) (o _ 3 0 _ _ (by omega) h3))) rfl hp u3;have k4:=TrO.box k3 (o _ 4 3 _ _ (by omega) (o _ 4 2 _ _ (by omega) (o _ 4 1 _ _ (by omega) (o _ 4 0 _ _ (by omega) h4)))) rfl hp u4;have k5:=TrO.box k4 (o _ 5 4 _ _ (by omega) (o _ 5 3 _ _ (by omega) (o _ 5 2 _ _ (by omega) (o _ 5 1 _ _ (by omega) (o _ 5 0 _ _ (by omega) h5))))) rfl hp u5;have k6:=TrO.box k5 (o _ 6 5 _ _ (by omega) (o _ 6 4 _ _ (by omega) (o _ 6 3 _ _ (by omega) (o _ 6 2 _ _ (by omega) (o _ 6 1 _ _ (by omega) (o _ 6 0 _ _ (by omega) h6)))))) rfl hp u6;have k7:=TrO.box k6 (o _ 7 6 _ _ (by omega) (o _ 7 5 _ _ (by omega) (o _ 7 4 _ _ (by omega) (o _ 7 3 _ _ (by omega) (o _ 7 2 _ _ (by omega) (o _ 7 1 _ _ (by omega) (o _ 7 0 _ _ (by omega) h7))))))) rfl hp u7;have k8:=TrO.box k7 (o _ 8 7 _ _ (by omega) (o _ 8 6 _ _ (by omega) (o _ 8 5 _ _ (by omega) (o _ 8 4 _ _ (by omega) (o _ 8 3 _ _ (by omega) (o _ 8 2 _ _ (by omega) (o _ 8 1 _ _ (by omega) (o _ 8 0 _ _ (by omega) h8)))))))) rfl hp u8;exact k8
theorem yb7 (W:World) (g:Nat) (u0 u1 u2 u3 u4 u5 u6 u7 u8:Value):(set9 W g u0 u1 u2 u3 u4 u5 u6 u7 u8).heap.size=W.heap.size:=by
 unfold set9; simp
theorem yag {w W:World} {g B hi:Nat} {t:Tr} {u0 u1 u2 u3 u4 u5 u6 u7 u8:Value} (hx:Ext w W) (hg:w.heap.size<=g) (hB:g < B) (hh:hi<=W.heap.size) (hz:uq W g) (h:TrO W B hi t (.agg #[u0,u1,u2,u3,u4,u5,u6,u7,u8])) :
 uj t w (.returned (.agg #[u0,u1,u2,u3,u4,u5,u6,u7,u8])) (set9 W g u0 u1 u2 u3 u4 u5 u6 u7 u8):=
 ⟨_,rfl,(TrO.set9 hz (by omega) h _ _ _ _ _ _ _ _ _).mono (by omega) (by rw [yb7]; exact hh),gag hx hg _ _ _ _ _ _ _ _ _⟩
theorem zam (w:World) (lo m:Nat) (T:TypeId) (a b:Tr) (s1 K1 s2 K2:Value) (ha:TrO w lo m a (ndV a.d s1 K1)) (hb:TrO w m w.heap.size b (ndV b.d s2 K2)) (h1:lo<=m) (h2:m<=w.heap.size) :
 ∃ g,(some ⟨w.heap.size,0,none⟩:Option Addr)=some ⟨g,0,none⟩/\lo<=g/\g < w.heap.size+1/\g < (w.alloc (.cells #[.int .i64 a.d.kind,.bool a.d.neg,s1,.string a.d.name,.int .i64 a.d.exp,.int .i64 a.d.rel,.bool a.d.truth,.bool a.d.all,K1,.int .i64 b.d.kind,.bool b.d.neg,s2,.string b.d.name,.int .i64 b.d.exp,.int .i64 b.d.rel,.bool b.d.truth,.bool b.d.all,K2] T)).heap.size/\(∀ o,(w.alloc (.cells #[.int .i64 a.d.kind,.bool a.d.neg,s1,.string a.d.name,.int .i64 a.d.exp,.int .i64 a.d.rel,.bool a.d.truth,.bool a.d.all,K1,.int .i64 b.d.kind,.bool b.d.neg,s2,.string b.d.name,.int .i64 b.d.exp,.int .i64 b.d.rel,.bool b.d.truth,.bool b.d.all,K2] T)).frozen? ⟨g,o,none⟩=false)/\wae (w.alloc (.cells #[.int .i64 a.d.kind,.bool a.d.neg,s1,.string a.d.name,.int .i64 a.d.exp,.int .i64 a.d.rel,.bool a.d.truth,.bool a.d.all,K1,.int .i64 b.d.kind,.bool b.d.neg,s2,.string b.d.name,.int .i64 b.d.exp,.int .i64 b.d.rel,.bool b.d.truth,.bool b.d.all,K2] T)) lo g [a,b] g 0:=by
 have hx:=(Ext.refl w).alloc (.cells #[.int .i64 a.d.kind,.bool a.d.neg,s1,.string a.d.name,.int .i64 a.d.exp,.int .i64 a.d.rel,.bool a.d.truth,.bool a.d.all,K1,.int .i64 b.d.kind,.bool b.d.neg,s2,.string b.d.name,.int .i64 b.d.exp,.int .i64 b.d.rel,.bool b.d.truth,.bool b.d.all,K2] T);refine ⟨w.heap.size,rfl,by omega,by omega,by simp,fun o=>by simp [go_sem] <;> rfl,?_⟩;unfold wae;refine ⟨m,s1,K1,h1,h2,?_,ha.ext hx,?_⟩
 · refine ⟨?_,?_,?_,?_,?_,?_,?_,?_,?_⟩ <;> simp [go_sem]
 · unfold wae;refine ⟨w.heap.size,s2,K2,h2,Nat.le_refl _,?_,hb.ext hx,by unfold wae; trivial⟩;refine ⟨?_,?_,?_,?_,?_,?_,?_,?_,?_⟩ <;> simp [go_sem]
theorem gaz (w:World) (lo:Nat) (T:TypeId) (a:Tr) (s1 K1:Value) (ha:TrO w lo w.heap.size a (ndV a.d s1 K1)) (h1:lo<=w.heap.size) :
 ∃ g,(some ⟨w.heap.size,0,none⟩:Option Addr)=some ⟨g,0,none⟩/\lo<=g/\g < w.heap.size+1/\g < (w.alloc (.cells #[.int .i64 a.d.kind,.bool a.d.neg,s1,.string a.d.name,.int .i64 a.d.exp,.int .i64 a.d.rel,.bool a.d.truth,.bool a.d.all,K1] T)).heap.size/\(∀ o,(w.alloc (.cells #[.int .i64 a.d.kind,.bool a.d.neg,s1,.string a.d.name,.int .i64 a.d.exp,.int .i64 a.d.rel,.bool a.d.truth,.bool a.d.all,K1] T)).frozen? ⟨g,o,none⟩=false)/\wae (w.alloc (.cells #[.int .i64 a.d.kind,.bool a.d.neg,s1,.string a.d.name,.int .i64 a.d.exp,.int .i64 a.d.rel,.bool a.d.truth,.bool a.d.all,K1] T)) lo g [a] g 0:=by
 have hx:=(Ext.refl w).alloc (.cells #[.int .i64 a.d.kind,.bool a.d.neg,s1,.string a.d.name,.int .i64 a.d.exp,.int .i64 a.d.rel,.bool a.d.truth,.bool a.d.all,K1] T);refine ⟨w.heap.size,rfl,by omega,by omega,by simp,fun o=>by simp [go_sem] <;> rfl,?_⟩;unfold wae;refine ⟨w.heap.size,s1,K1,h1,Nat.le_refl _,?_,ha.ext hx,by unfold wae; trivial⟩;refine ⟨?_,?_,?_,?_,?_,?_,?_,?_,?_⟩ <;> simp [go_sem]
theorem zcx {w0 w:World} {L:Nat} {a b:Tm} {v:Value} (h:TmV w0 L (.add a b) v) (hx0:Ext w0 w) (iha:∀ (v:Value) (w:World),Ext w0 w->TmV w0 L a v->Calls Tryz.prog 90 #[v] w (uj a.plain w)) (ihb:∀ (v:Value) (w:World),Ext w0 w->TmV w0 L b v->Calls Tryz.prog 90 #[v] w (uj b.plain w)) :
 Calls Tryz.prog 90 #[v] w (uj (Tm.add a b).plain w):=by
 have IHA:=Lib.hid iha;have IHB:=Lib.hid ihb;obtain ⟨x,y,rfl,hx,hy⟩:=h;have HX:=Lib.hid hx;obtain ⟨T,x,rfl⟩:=hx.iface;have HY:=Lib.hid hy;obtain ⟨U,y,rfl⟩:=hy.iface;clear hx hy iha ihb;go_enter Tryz.func90,Tryz.ntmps90;go_wp2_with fail;obtain ⟨W,hW⟩:∃ W,(w.alloc (.cells #[.int .i64 0,.bool false,.slice none 0 0,.string ⟨#[]⟩,.int .i64 0,.int .i64 0,.bool false,.bool false,.slice none 0 0] 29)).alloc (.cells #[.iface T x,.iface U y] 126)=W:=⟨_,rfl⟩;have hWx:Ext w W:=by rw [<- hW]; exact ((Ext.refl w).alloc _).alloc _
 have hWs:W.heap.size=w.heap.size+1+1:=by rw [<- hW]; simp
 have hZ:uq W w.heap.size:=by rw [<- hW]; exact (qae w _).ext ((Ext.refl _).alloc _) (by simp)
 have HB:Hid (∀ W',Ext W W'->(Ext w W'/\W'.cell? ⟨w.heap.size+1,0,none⟩=some (.iface T x)/\W'.cell? ⟨w.heap.size+1,1,none⟩=some (.iface U y))):=by
  intro W' hx;obtain ⟨hc,hf⟩:=hx.cells;refine ⟨hWx.trans hx,?_,?_⟩ <;> (rw [hc _ _ (by omega),<- hW]; simp [go_sem])
 have HB2:Hid (∀ W',Ext W W'->∀ o u0 u1 u2 u3 u4 u5 u6 u7 u8 W2,W2=set9 (W'.alloc o) w.heap.size u0 u1 u2 u3 u4 u5 u6 u7 u8->(Ext w W2/\W2.cell? ⟨w.heap.size+1,0,none⟩=some (.iface T x)/\W2.cell? ⟨w.heap.size+1,1,none⟩=some (.iface U y))):=by
  intro W' hx o u0 u1 u2 u3 u4 u5 u6 u7 u8 W2 e;obtain ⟨k0,k1,k2⟩:=HB.out _ (hx.alloc o);rw [e];exact ⟨gag k0 (Nat.le_refl _) _ _ _ _ _ _ _ _ _,(zx _ _ _ _ _ _ _ _ _ _ _ _ (by simp)).trans k1,(zx _ _ _ _ _ _ _ _ _ _ _ _ (by simp)).trans k2⟩
 have HZ:=Lib.hid hZ;have HWX:=Lib.hid hWx;have HWS:=Lib.hid hWs;have HX0:=Lib.hid hx0;rw [hW];clear hW hZ hWx hWs hx0;have y0:Ext W W.drew:=(Ext.refl W).drew;have Y0:=Lib.hid y0;clear y0
 go_region_held3 (fun W' => Ext w W' /\ W'.cell? ⟨w.heap.size + 1, 0, none⟩ = some (.iface T x) /\ W'.cell? ⟨w.heap.size + 1, 1, none⟩ = some (.iface U y))
  (first | with_reducible exact HB.out _ Y0.out | with_reducible exact HB.out _ y1 | with_reducible exact HB.out _ y2 | with_reducible exact HB.out _ (y2.alloc _) | exact HB2.out _ y2 _ _ _ _ _ _ _ _ _ _ _ rfl)
  (first
    | (go_at_call_of 90 (Value.iface T x)
       refine (IHA.out _ _ (HX0.out.trans (HWX.out.trans Y0.out)) HX.out).mono ?_;rintro e v1 ⟨z1,rfl,m1,x1⟩;obtain ⟨A0,n0,c0,A1,c1,rfl,-⟩:=m1.open_;unfold ndV
       have y1:Ext W v1:=Ext.trans Y0.out x1)
    | (go_at_call_of 90 (Value.iface U y)
       refine (IHB.out _ _ (HX0.out.trans (HWX.out.trans y1)) HY.out).mono ?_;rintro e v2 ⟨z2,rfl,m2,x2⟩;obtain ⟨B0,k0,d0,B1,d1,rfl,-⟩:=m2.open_;unfold ndV;have y2:Ext W v2:=Ext.trans (y1) x2;have hz2:uq v2 w.heap.size:=HZ.out.ext y2 (by have:=HWS.out; omega);have hza:∀ o,uq (v2.alloc o) w.heap.size:=fun o=>hz2.ext ((Ext.refl v2).alloc o) (by have:=y2.size; have:=HWS.out; omega)
       have r0:=fun o=>(hza o).1.1
       have r1:=fun o=>(hza o).1.2.1
       have r2:=fun o=>(hza o).1.2.2.1
       have r3:=fun o=>(hza o).1.2.2.2.1
       have r4:=fun o=>(hza o).1.2.2.2.2.1
       have r5:=fun o=>(hza o).1.2.2.2.2.2.1
       have r6:=fun o=>(hza o).1.2.2.2.2.2.2.1
       have r7:=fun o=>(hza o).1.2.2.2.2.2.2.2.1
       have r8:=fun o=>(hza o).1.2.2.2.2.2.2.2.2
       have rf:=fun o i=>(hza o).2 i
       have HZA:=Lib.hid hza;clear hz2 hza
       have hv2:w.heap.size+1 < v2.heap.size:=by have:=y2.size; have:=HWS.out; omega))
 have HF:Hid (uj (Tm.add a b).plain w (.returned (ndV { nd0 with kind:=3 } (.slice none 0 0) (.slice (some ⟨v2.heap.size,0,none⟩) 2 2))) (set9 (v2.alloc (.cells #[.int .i64 a.plain.d.kind,.bool a.plain.d.neg,.slice A0 n0 c0,.string a.plain.d.name,.int .i64 a.plain.d.exp,.int .i64 a.plain.d.rel,.bool a.plain.d.truth,.bool a.plain.d.all,.slice A1 a.plain.ks.length c1,.int .i64 b.plain.d.kind,.bool b.plain.d.neg,.slice B0 k0 d0,.string b.plain.d.name,.int .i64 b.plain.d.exp,.int .i64 b.plain.d.rel,.bool b.plain.d.truth,.bool b.plain.d.all,.slice B1 b.plain.ks.length d1] 29)) w.heap.size (.int .i64 (3)) (.bool false) (.slice none 0 0) (.string ⟨#[]⟩) (.int .i64 (0)) (.int .i64 (0)) (.bool false) (.bool false) (.slice (some ⟨v2.heap.size,0,none⟩) 2 2))):=
  yag (B := W.heap.size) ((HWX.out.trans y2).alloc _) (Nat.le_refl _) (by have := HWS.out; omega) (hi := v2.heap.size + 1) (by simp) (HZA.out _)
   (TrO.mk (t := (Tm.add a b).plain) (c := 2) (jb.nil _) (by simp [Tm.plain, Tr.ks]) (by simp)
     (.inr (zam v2 W.heap.size v1.heap.size _ a.plain b.plain _ _ _ _ (m1.ext x2) m2 y1.size x2.size)))
 clear HZ HWX HWS HX0 IHA IHB HX HY m1 x1 y1 m2 x2 y2 HZA HB HB2 Y0;go_wp2_with fail;exact bodyPost_ret (v:=ndV { nd0 with kind:=3 } (.slice none 0 0) (.slice (some ⟨v2.heap.size,0,none⟩) 2 2)) (by simp [results,Tryz.results90,go_sem,r0,r1,r2,r3,r4,r5,r6,r7,r8,ndV,nd0]) rfl HF.out
theorem jcw {w0 w:World} {L:Nat} {a b:Tm} {v:Value} (h:TmV w0 L (.sub a b) v) (hx0:Ext w0 w) (iha:∀ (v:Value) (w:World),Ext w0 w->TmV w0 L a v->Calls Tryz.prog 90 #[v] w (uj a.plain w)) (ihb:∀ (v:Value) (w:World),Ext w0 w->TmV w0 L b v->Calls Tryz.prog 90 #[v] w (uj b.plain w)) :
 Calls Tryz.prog 90 #[v] w (uj (Tm.sub a b).plain w):=by
 have IHA:=Lib.hid iha;have IHB:=Lib.hid ihb;obtain ⟨x,y,rfl,hx,hy⟩:=h;have HX:=Lib.hid hx;obtain ⟨T,x,rfl⟩:=hx.iface;have HY:=Lib.hid hy;obtain ⟨U,y,rfl⟩:=hy.iface;clear hx hy iha ihb;go_enter Tryz.func90,Tryz.ntmps90;go_wp2_with fail;obtain ⟨W,hW⟩:∃ W,(w.alloc (.cells #[.int .i64 0,.bool false,.slice none 0 0,.string ⟨#[]⟩,.int .i64 0,.int .i64 0,.bool false,.bool false,.slice none 0 0] 29)).alloc (.cells #[.iface T x,.iface U y] 127)=W:=⟨_,rfl⟩;have hWx:Ext w W:=by rw [<- hW]; exact ((Ext.refl w).alloc _).alloc _
 have hWs:W.heap.size=w.heap.size+1+1:=by rw [<- hW]; simp
 have hZ:uq W w.heap.size:=by rw [<- hW]; exact (qae w _).ext ((Ext.refl _).alloc _) (by simp)
 have HB:Hid (∀ W',Ext W W'->(Ext w W'/\W'.cell? ⟨w.heap.size+1,0,none⟩=some (.iface T x)/\W'.cell? ⟨w.heap.size+1,1,none⟩=some (.iface U y))):=by
  intro W' hx;obtain ⟨hc,hf⟩:=hx.cells;refine ⟨hWx.trans hx,?_,?_⟩ <;> (rw [hc _ _ (by omega),<- hW]; simp [go_sem])
 have HB2:Hid (∀ W',Ext W W'->∀ o u0 u1 u2 u3 u4 u5 u6 u7 u8 W2,W2=set9 (W'.alloc o) w.heap.size u0 u1 u2 u3 u4 u5 u6 u7 u8->(Ext w W2/\W2.cell? ⟨w.heap.size+1,0,none⟩=some (.iface T x)/\W2.cell? ⟨w.heap.size+1,1,none⟩=some (.iface U y))):=by
  intro W' hx o u0 u1 u2 u3 u4 u5 u6 u7 u8 W2 e;obtain ⟨k0,k1,k2⟩:=HB.out _ (hx.alloc o);rw [e];exact ⟨gag k0 (Nat.le_refl _) _ _ _ _ _ _ _ _ _,(zx _ _ _ _ _ _ _ _ _ _ _ _ (by simp)).trans k1,(zx _ _ _ _ _ _ _ _ _ _ _ _ (by simp)).trans k2⟩
 have HZ:=Lib.hid hZ;have HWX:=Lib.hid hWx;have HWS:=Lib.hid hWs;have HX0:=Lib.hid hx0;rw [hW];clear hW hZ hWx hWs hx0;have y0:Ext W W.drew:=(Ext.refl W).drew;have Y0:=Lib.hid y0;clear y0
 go_region_held3 (fun W' => Ext w W' /\ W'.cell? ⟨w.heap.size + 1, 0, none⟩ = some (.iface T x) /\ W'.cell? ⟨w.heap.size + 1, 1, none⟩ = some (.iface U y))
  (first | with_reducible exact HB.out _ Y0.out | with_reducible exact HB.out _ y1 | with_reducible exact HB.out _ y2 | with_reducible exact HB.out _ (y2.alloc _) | exact HB2.out _ y2 _ _ _ _ _ _ _ _ _ _ _ rfl)
  (first
    | (go_at_call_of 90 (Value.iface T x)
       refine (IHA.out _ _ (HX0.out.trans (HWX.out.trans Y0.out)) HX.out).mono ?_;rintro e v1 ⟨z1,rfl,m1,x1⟩;obtain ⟨A0,n0,c0,A1,c1,rfl,-⟩:=m1.open_;unfold ndV
       have y1:Ext W v1:=Ext.trans Y0.out x1)
    | (go_at_call_of 90 (Value.iface U y)
       refine (IHB.out _ _ (HX0.out.trans (HWX.out.trans y1)) HY.out).mono ?_;rintro e v2 ⟨z2,rfl,m2,x2⟩;obtain ⟨B0,k0,d0,B1,d1,rfl,-⟩:=m2.open_;unfold ndV;have y2:Ext W v2:=Ext.trans (y1) x2;have hz2:uq v2 w.heap.size:=HZ.out.ext y2 (by have:=HWS.out; omega);have hza:∀ o,uq (v2.alloc o) w.heap.size:=fun o=>hz2.ext ((Ext.refl v2).alloc o) (by have:=y2.size; have:=HWS.out; omega)
       have r0:=fun o=>(hza o).1.1
       have r1:=fun o=>(hza o).1.2.1
       have r2:=fun o=>(hza o).1.2.2.1
       have r3:=fun o=>(hza o).1.2.2.2.1
       have r4:=fun o=>(hza o).1.2.2.2.2.1
       have r5:=fun o=>(hza o).1.2.2.2.2.2.1
       have r6:=fun o=>(hza o).1.2.2.2.2.2.2.1
       have r7:=fun o=>(hza o).1.2.2.2.2.2.2.2.1
       have r8:=fun o=>(hza o).1.2.2.2.2.2.2.2.2
       have rf:=fun o i=>(hza o).2 i
       have HZA:=Lib.hid hza;clear hz2 hza
       have hv2:w.heap.size+1 < v2.heap.size:=by have:=y2.size; have:=HWS.out; omega))
 have HF:Hid (uj (Tm.sub a b).plain w (.returned (ndV { nd0 with kind:=4 } (.slice none 0 0) (.slice (some ⟨v2.heap.size,0,none⟩) 2 2))) (set9 (v2.alloc (.cells #[.int .i64 a.plain.d.kind,.bool a.plain.d.neg,.slice A0 n0 c0,.string a.plain.d.name,.int .i64 a.plain.d.exp,.int .i64 a.plain.d.rel,.bool a.plain.d.truth,.bool a.plain.d.all,.slice A1 a.plain.ks.length c1,.int .i64 b.plain.d.kind,.bool b.plain.d.neg,.slice B0 k0 d0,.string b.plain.d.name,.int .i64 b.plain.d.exp,.int .i64 b.plain.d.rel,.bool b.plain.d.truth,.bool b.plain.d.all,.slice B1 b.plain.ks.length d1] 29)) w.heap.size (.int .i64 (4)) (.bool false) (.slice none 0 0) (.string ⟨#[]⟩) (.int .i64 (0)) (.int .i64 (0)) (.bool false) (.bool false) (.slice (some ⟨v2.heap.size,0,none⟩) 2 2))):=
  yag (B := W.heap.size) ((HWX.out.trans y2).alloc _) (Nat.le_refl _) (by have := HWS.out; omega) (hi := v2.heap.size + 1) (by simp) (HZA.out _)
   (TrO.mk (t := (Tm.sub a b).plain) (c := 2) (jb.nil _) (by simp [Tm.plain, Tr.ks]) (by simp)
     (.inr (zam v2 W.heap.size v1.heap.size _ a.plain b.plain _ _ _ _ (m1.ext x2) m2 y1.size x2.size)))
 clear HZ HWX HWS HX0 IHA IHB HX HY m1 x1 y1 m2 x2 y2 HZA HB HB2 Y0;go_wp2_with fail;exact bodyPost_ret (v:=ndV { nd0 with kind:=4 } (.slice none 0 0) (.slice (some ⟨v2.heap.size,0,none⟩) 2 2)) (by simp [results,Tryz.results90,go_sem,r0,r1,r2,r3,r4,r5,r6,r7,r8,ndV,nd0]) rfl HF.out
theorem gcw {w0 w:World} {L:Nat} {a b:Tm} {v:Value} (h:TmV w0 L (.mul a b) v) (hx0:Ext w0 w) (iha:∀ (v:Value) (w:World),Ext w0 w->TmV w0 L a v->Calls Tryz.prog 90 #[v] w (uj a.plain w)) (ihb:∀ (v:Value) (w:World),Ext w0 w->TmV w0 L b v->Calls Tryz.prog 90 #[v] w (uj b.plain w)) :
 Calls Tryz.prog 90 #[v] w (uj (Tm.mul a b).plain w):=by
 have IHA:=Lib.hid iha;have IHB:=Lib.hid ihb;obtain ⟨x,y,rfl,hx,hy⟩:=h;have HX:=Lib.hid hx;obtain ⟨T,x,rfl⟩:=hx.iface;have HY:=Lib.hid hy;obtain ⟨U,y,rfl⟩:=hy.iface;clear hx hy iha ihb;go_enter Tryz.func90,Tryz.ntmps90;go_wp2_with fail;obtain ⟨W,hW⟩:∃ W,(w.alloc (.cells #[.int .i64 0,.bool false,.slice none 0 0,.string ⟨#[]⟩,.int .i64 0,.int .i64 0,.bool false,.bool false,.slice none 0 0] 29)).alloc (.cells #[.iface T x,.iface U y] 128)=W:=⟨_,rfl⟩;have hWx:Ext w W:=by rw [<- hW]; exact ((Ext.refl w).alloc _).alloc _
 have hWs:W.heap.size=w.heap.size+1+1:=by rw [<- hW]; simp
 have hZ:uq W w.heap.size:=by rw [<- hW]; exact (qae w _).ext ((Ext.refl _).alloc _) (by simp)
 have HB:Hid (∀ W',Ext W W'->(Ext w W'/\W'.cell? ⟨w.heap.size+1,0,none⟩=some (.iface T x)/\W'.cell? ⟨w.heap.size+1,1,none⟩=some (.iface U y))):=by
  intro W' hx;obtain ⟨hc,hf⟩:=hx.cells;refine ⟨hWx.trans hx,?_,?_⟩ <;> (rw [hc _ _ (by omega),<- hW]; simp [go_sem])
 have HB2:Hid (∀ W',Ext W W'->∀ o u0 u1 u2 u3 u4 u5 u6 u7 u8 W2,W2=set9 (W'.alloc o) w.heap.size u0 u1 u2 u3 u4 u5 u6 u7 u8->(Ext w W2/\W2.cell? ⟨w.heap.size+1,0,none⟩=some (.iface T x)/\W2.cell? ⟨w.heap.size+1,1,none⟩=some (.iface U y))):=by
  intro W' hx o u0 u1 u2 u3 u4 u5 u6 u7 u8 W2 e;obtain ⟨k0,k1,k2⟩:=HB.out _ (hx.alloc o);rw [e];exact ⟨gag k0 (Nat.le_refl _) _ _ _ _ _ _ _ _ _,(zx _ _ _ _ _ _ _ _ _ _ _ _ (by simp)).trans k1,(zx _ _ _ _ _ _ _ _ _ _ _ _ (by simp)).trans k2⟩
 have HZ:=Lib.hid hZ;have HWX:=Lib.hid hWx;have HWS:=Lib.hid hWs;have HX0:=Lib.hid hx0;rw [hW];clear hW hZ hWx hWs hx0;have y0:Ext W W.drew:=(Ext.refl W).drew;have Y0:=Lib.hid y0;clear y0
 go_region_held3 (fun W' => Ext w W' /\ W'.cell? ⟨w.heap.size + 1, 0, none⟩ = some (.iface T x) /\ W'.cell? ⟨w.heap.size + 1, 1, none⟩ = some (.iface U y))
  (first | with_reducible exact HB.out _ Y0.out | with_reducible exact HB.out _ y1 | with_reducible exact HB.out _ y2 | with_reducible exact HB.out _ (y2.alloc _) | exact HB2.out _ y2 _ _ _ _ _ _ _ _ _ _ _ rfl)
  (first
    | (go_at_call_of 90 (Value.iface T x)
       refine (IHA.out _ _ (HX0.out.trans (HWX.out.trans Y0.out)) HX.out).mono ?_;rintro e v1 ⟨z1,rfl,m1,x1⟩;obtain ⟨A0,n0,c0,A1,c1,rfl,-⟩:=m1.open_;unfold ndV
       have y1:Ext W v1:=Ext.trans Y0.out x1)
    | (go_at_call_of 90 (Value.iface U y)
       refine (IHB.out _ _ (HX0.out.trans (HWX.out.trans y1)) HY.out).mono ?_;rintro e v2 ⟨z2,rfl,m2,x2⟩;obtain ⟨B0,k0,d0,B1,d1,rfl,-⟩:=m2.open_;unfold ndV;have y2:Ext W v2:=Ext.trans (y1) x2;have hz2:uq v2 w.heap.size:=HZ.out.ext y2 (by have:=HWS.out; omega);have hza:∀ o,uq (v2.alloc o) w.heap.size:=fun o=>hz2.ext ((Ext.refl v2).alloc o) (by have:=y2.size; have:=HWS.out; omega)
       have r0:=fun o=>(hza o).1.1
       have r1:=fun o=>(hza o).1.2.1
       have r2:=fun o=>(hza o).1.2.2.1
       have r3:=fun o=>(hza o).1.2.2.2.1
       have r4:=fun o=>(hza o).1.2.2.2.2.1
       have r5:=fun o=>(hza o).1.2.2.2.2.2.1
       have r6:=fun o=>(hza o).1.2.2.2.2.2.2.1
       have r7:=fun o=>(hza o).1.2.2.2.2.2.2.2.1
       have r8:=fun o=>(hza o).1.2.2.2.2.2.2.2.2
       have rf:=fun o i=>(hza o).2 i
       have HZA:=Lib.hid hza;clear hz2 hza
       have hv2:w.heap.size+1 < v2.heap.size:=by have:=y2.size; have:=HWS.out; omega))
 have HF:Hid (uj (Tm.mul a b).plain w (.returned (ndV { nd0 with kind:=5 } (.slice none 0 0) (.slice (some ⟨v2.heap.size,0,none⟩) 2 2))) (set9 (v2.alloc (.cells #[.int .i64 a.plain.d.kind,.bool a.plain.d.neg,.slice A0 n0 c0,.string a.plain.d.name,.int .i64 a.plain.d.exp,.int .i64 a.plain.d.rel,.bool a.plain.d.truth,.bool a.plain.d.all,.slice A1 a.plain.ks.length c1,.int .i64 b.plain.d.kind,.bool b.plain.d.neg,.slice B0 k0 d0,.string b.plain.d.name,.int .i64 b.plain.d.exp,.int .i64 b.plain.d.rel,.bool b.plain.d.truth,.bool b.plain.d.all,.slice B1 b.plain.ks.length d1] 29)) w.heap.size (.int .i64 (5)) (.bool false) (.slice none 0 0) (.string ⟨#[]⟩) (.int .i64 (0)) (.int .i64 (0)) (.bool false) (.bool false) (.slice (some ⟨v2.heap.size,0,none⟩) 2 2))):=
  yag (B := W.heap.size) ((HWX.out.trans y2).alloc _) (Nat.le_refl _) (by have := HWS.out; omega) (hi := v2.heap.size + 1) (by simp) (HZA.out _)
   (TrO.mk (t := (Tm.mul a b).plain) (c := 2) (jb.nil _) (by simp [Tm.plain, Tr.ks]) (by simp)
     (.inr (zam v2 W.heap.size v1.heap.size _ a.plain b.plain _ _ _ _ (m1.ext x2) m2 y1.size x2.size)))
 clear HZ HWX HWS HX0 IHA IHB HX HY m1 x1 y1 m2 x2 y2 HZA HB HB2 Y0;go_wp2_with fail;exact bodyPost_ret (v:=ndV { nd0 with kind:=5 } (.slice none 0 0) (.slice (some ⟨v2.heap.size,0,none⟩) 2 2)) (by simp [results,Tryz.results90,go_sem,r0,r1,r2,r3,r4,r5,r6,r7,r8,ndV,nd0]) rfl HF.out
theorem ucw {w0 w:World} {L:Nat} {a:Tm} {v:Value} (h:TmV w0 L (.neg a) v) (hx0:Ext w0 w) (iha:∀ (v:Value) (w:World),Ext w0 w->TmV w0 L a v->Calls Tryz.prog 90 #[v] w (uj a.plain w)) :
 Calls Tryz.prog 90 #[v] w (uj (Tm.neg a).plain w):=by
 have IHA:=Lib.hid iha;obtain ⟨x,rfl,hx⟩:=h;have HX:=Lib.hid hx;obtain ⟨T,x,rfl⟩:=hx.iface;clear hx iha;go_enter Tryz.func90,Tryz.ntmps90;go_wp2_with fail;obtain ⟨W,hW⟩:∃ W,(w.alloc (.cells #[.int .i64 0,.bool false,.slice none 0 0,.string ⟨#[]⟩,.int .i64 0,.int .i64 0,.bool false,.bool false,.slice none 0 0] 29)).alloc (.cells #[.iface T x] 122)=W:=⟨_,rfl⟩;have hWx:Ext w W:=by rw [<- hW]; exact ((Ext.refl w).alloc _).alloc _
 have hWs:W.heap.size=w.heap.size+1+1:=by rw [<- hW]; simp
 have hZ:uq W w.heap.size:=by rw [<- hW]; exact (qae w _).ext ((Ext.refl _).alloc _) (by simp)
 have HZ:=Lib.hid hZ;have HWX:=Lib.hid hWx;have HWS:=Lib.hid hWs;have HX0:=Lib.hid hx0;rw [hW];have b0:W.cell? ⟨w.heap.size+1,0,none⟩=some (.iface T x):=by rw [<- hW]; simp [go_sem]
 clear hW hZ hWx hWs hx0;go_wp2_with fail;refine (IHA.out _ _ (HX0.out.trans HWX.out) HX.out).mono ?_;rintro e v1 ⟨z1,rfl,m1,x1⟩;obtain ⟨A0,n0,c0,A1,c1,rfl,-⟩:=m1.open_;unfold ndV;have y1:Ext W v1:=Ext.trans (Ext.refl W) x1;have hz2:uq v1 w.heap.size:=HZ.out.ext y1 (by have:=HWS.out; omega);have hza:∀ o,uq (v1.alloc o) w.heap.size:=fun o=>hz2.ext ((Ext.refl v1).alloc o) (by have:=y1.size; have:=HWS.out; omega)
 have r0:=fun o=>(hza o).1.1
 have r1:=fun o=>(hza o).1.2.1
 have r2:=fun o=>(hza o).1.2.2.1
 have r3:=fun o=>(hza o).1.2.2.2.1
 have r4:=fun o=>(hza o).1.2.2.2.2.1
 have r5:=fun o=>(hza o).1.2.2.2.2.2.1
 have r6:=fun o=>(hza o).1.2.2.2.2.2.2.1
 have r7:=fun o=>(hza o).1.2.2.2.2.2.2.2.1
 have r8:=fun o=>(hza o).1.2.2.2.2.2.2.2.2
 have rf:=fun o i=>(hza o).2 i
 have HZA:=Lib.hid hza;clear hz2 hza;have hv2:w.heap.size+1 < v1.heap.size:=by have:=y1.size; have:=HWS.out; omega
 clear b0
 have HF:Hid (uj (Tm.neg a).plain w (.returned (ndV { nd0 with kind:=6 } (.slice none 0 0) (.slice (some ⟨v1.heap.size,0,none⟩) 1 1))) (set9 (v1.alloc (.cells #[.int .i64 a.plain.d.kind,.bool a.plain.d.neg,.slice A0 n0 c0,.string a.plain.d.name,.int .i64 a.plain.d.exp,.int .i64 a.plain.d.rel,.bool a.plain.d.truth,.bool a.plain.d.all,.slice A1 a.plain.ks.length c1] 29)) w.heap.size (.int .i64 (6)) (.bool false) (.slice none 0 0) (.string ⟨#[]⟩) (.int .i64 (0)) (.int .i64 (0)) (.bool false) (.bool false) (.slice (some ⟨v1.heap.size,0,none⟩) 1 1))):=
  yag (B := W.heap.size) ((HWX.out.trans y1).alloc _) (Nat.le_refl _) (by have := HWS.out; omega) (hi := v1.heap.size + 1) (by simp) (HZA.out _)
   (TrO.mk (t := (Tm.neg a).plain) (c := 1) (jb.nil _) (by simp [Tm.plain, Tr.ks]) (by simp)
     (.inr (gaz v1 W.heap.size _ a.plain _ _ m1 y1.size)))
 clear HZ HWX HWS HX0 IHA HX m1 x1 y1 HZA;go_wp2_with fail;exact bodyPost_ret (v:=ndV { nd0 with kind:=6 } (.slice none 0 0) (.slice (some ⟨v1.heap.size,0,none⟩) 1 1)) (by simp [results,Tryz.results90,go_sem,r0,r1,r2,r3,r4,r5,r6,r7,r8,ndV,nd0]) rfl HF.out
theorem kcw {w0 w:World} {L:Nat} {a:Tm} {n:Int} {v:Value} (h:TmV w0 L (.pow a n) v) (hx0:Ext w0 w) (iha:∀ (v:Value) (w:World),Ext w0 w->TmV w0 L a v->Calls Tryz.prog 90 #[v] w (uj a.plain w)) :
 Calls Tryz.prog 90 #[v] w (uj (Tm.pow a n).plain w):=by
 have IHA:=Lib.hid iha;obtain ⟨x,rfl,hx⟩:=h;have HX:=Lib.hid hx;obtain ⟨T,x,rfl⟩:=hx.iface;clear hx iha
 by_cases hlt:n < 0
 · have hm:je n 0=0:=if_pos hlt;have hif:(if n < 0 then (0:Int) else n)=0:=if_pos hlt;have hde:decide (n < 0)=true:=by simpa using hlt
   have hma:max n 0=0:=by omega
   have hpl:(Tm.pow a n).plain=.mk { nd0 with kind:=7,exp:=0 } [a.plain]:=by show Tr.mk { nd0 with kind:=7,exp:=je n 0 } [a.plain]=_; rw [hm]
   rw [hpl];clear hm hpl;go_enter Tryz.func90,Tryz.ntmps90;go_wp2_with fail;obtain ⟨W,hW⟩:∃ W,(w.alloc (.cells #[.int .i64 0,.bool false,.slice none 0 0,.string ⟨#[]⟩,.int .i64 0,.int .i64 0,.bool false,.bool false,.slice none 0 0] 29)).alloc (.cells #[.iface T x,.int .i64 n] 124)=W:=⟨_,rfl⟩;have hWx:Ext w W:=by rw [<- hW]; exact ((Ext.refl w).alloc _).alloc _
   have hWs:W.heap.size=w.heap.size+1+1:=by rw [<- hW]; simp
   have hZ:uq W w.heap.size:=by rw [<- hW]; exact (qae w _).ext ((Ext.refl _).alloc _) (by simp)
   have HB:Hid (∀ W',Ext W W'->(Ext w W'/\W'.cell? ⟨w.heap.size+1,0,none⟩=some (.iface T x)/\W'.cell? ⟨w.heap.size+1,1,none⟩=some (.int .i64 n))):=by
    intro W' hx;obtain ⟨hc,hf⟩:=hx.cells;refine ⟨hWx.trans hx,?_,?_⟩ <;> (rw [hc _ _ (by omega),<- hW]; simp [go_sem])
   have HB2:Hid (∀ W',Ext W W'->∀ o u0 u1 u2 u3 u4 u5 u6 u7 u8 W2,W2=set9 (W'.alloc o) w.heap.size u0 u1 u2 u3 u4 u5 u6 u7 u8->(Ext w W2/\W2.cell? ⟨w.heap.size+1,0,none⟩=some (.iface T x)/\W2.cell? ⟨w.heap.size+1,1,none⟩=some (.int .i64 n))):=by
    intro W' hx o u0 u1 u2 u3 u4 u5 u6 u7 u8 W2 e;obtain ⟨k0,k1,k2⟩:=HB.out _ (hx.alloc o);rw [e];exact ⟨gag k0 (Nat.le_refl _) _ _ _ _ _ _ _ _ _,(zx _ _ _ _ _ _ _ _ _ _ _ _ (by simp)).trans k1,(zx _ _ _ _ _ _ _ _ _ _ _ _ (by simp)).trans k2⟩
   have HZ:=Lib.hid hZ;have HWX:=Lib.hid hWx;have HWS:=Lib.hid hWs;have HX0:=Lib.hid hx0;rw [hW];clear hW hZ hWx hWs hx0;have y0:Ext W W.drew:=(Ext.refl W).drew;have Y0:=Lib.hid y0;clear y0
   go_region_held3 (fun W' => Ext w W' /\ W'.cell? ⟨w.heap.size + 1, 0, none⟩ = some (.iface T x) /\ W'.cell? ⟨w.heap.size + 1, 1, none⟩ = some (.int .i64 n))
    (first | with_reducible exact HB.out _ Y0.out | with_reducible exact HB.out _ y1 | with_reducible exact HB.out _ (y1.alloc _) | exact HB2.out _ y1 _ _ _ _ _ _ _ _ _ _ _ rfl)
    (first
      | (go_at_call_of 90 (Value.iface T x)
         refine (IHA.out _ _ (HX0.out.trans (HWX.out.trans Y0.out)) HX.out).mono ?_;rintro e v1 ⟨z1,rfl,m1,x1⟩;obtain ⟨A0,n0,c0,A1,c1,rfl,-⟩:=m1.open_;unfold ndV;have y1:Ext W v1:=Ext.trans Y0.out x1;have hz2:uq v1 w.heap.size:=HZ.out.ext y1 (by have:=HWS.out; omega);have hza:∀ o,uq (v1.alloc o) w.heap.size:=fun o=>hz2.ext ((Ext.refl v1).alloc o) (by have:=y1.size; have:=HWS.out; omega)
         have r0:=fun o=>(hza o).1.1
         have r1:=fun o=>(hza o).1.2.1
         have r2:=fun o=>(hza o).1.2.2.1
         have r3:=fun o=>(hza o).1.2.2.2.1
         have r4:=fun o=>(hza o).1.2.2.2.2.1
         have r5:=fun o=>(hza o).1.2.2.2.2.2.1
         have r6:=fun o=>(hza o).1.2.2.2.2.2.2.1
         have r7:=fun o=>(hza o).1.2.2.2.2.2.2.2.1
         have r8:=fun o=>(hza o).1.2.2.2.2.2.2.2.2
         have rf:=fun o i=>(hza o).2 i
         have HZA:=Lib.hid hza;clear hz2 hza
         have hv2:w.heap.size+1 < v1.heap.size:=by have:=y1.size; have:=HWS.out; omega))
   all_goals
    have HF:Hid (uj (Tr.mk { nd0 with kind:=7,exp:=0 } [a.plain]) w (.returned (ndV { nd0 with kind:=7,exp:=0 } (.slice none 0 0) (.slice (some ⟨v1.heap.size,0,none⟩) 1 1))) (set9 (v1.alloc (.cells #[.int .i64 a.plain.d.kind,.bool a.plain.d.neg,.slice A0 n0 c0,.string a.plain.d.name,.int .i64 a.plain.d.exp,.int .i64 a.plain.d.rel,.bool a.plain.d.truth,.bool a.plain.d.all,.slice A1 a.plain.ks.length c1] 29)) w.heap.size (.int .i64 (7)) (.bool false) (.slice none 0 0) (.string ⟨#[]⟩) (.int .i64 (0)) (.int .i64 (0)) (.bool false) (.bool false) (.slice (some ⟨v1.heap.size,0,none⟩) 1 1))):=
     yag (B := W.heap.size) ((HWX.out.trans y1).alloc _) (Nat.le_refl _) (by have := HWS.out; omega) (hi := v1.heap.size + 1) (by simp) (HZA.out _)
      (TrO.mk (t := (Tr.mk { nd0 with kind := 7, exp := 0 } [a.plain])) (c := 1) (jb.nil _) (by simp [Tm.plain, Tr.ks]) (by simp)
        (.inr (gaz v1 W.heap.size _ a.plain _ _ m1 y1.size)))
    clear HZ HWX HWS HX0 IHA HX m1 x1 y1 HZA HB HB2 Y0;go_wp2_with fail;exact bodyPost_ret (v:=ndV { nd0 with kind:=7,exp:=0 } (.slice none 0 0) (.slice (some ⟨v1.heap.size,0,none⟩) 1 1)) (by simp [results,Tryz.results90,go_sem,r0,r1,r2,r3,r4,r5,r6,r7,r8,ndV,nd0]) rfl HF.out
 · have hm:je n 0=n:=if_neg hlt;have hge:0<=n:=by omega
   have hif:(if n < 0 then (0:Int) else n)=n:=if_neg hlt;have hde:decide (n < 0)=false:=by simpa using hlt
   have hma:max n 0=n:=by omega
   have hpl:(Tm.pow a n).plain=.mk { nd0 with kind:=7,exp:=n } [a.plain]:=by show Tr.mk { nd0 with kind:=7,exp:=je n 0 } [a.plain]=_; rw [hm]
   rw [hpl];clear hm hlt hpl;go_enter Tryz.func90,Tryz.ntmps90;go_wp2_with fail;obtain ⟨W,hW⟩:∃ W,(w.alloc (.cells #[.int .i64 0,.bool false,.slice none 0 0,.string ⟨#[]⟩,.int .i64 0,.int .i64 0,.bool false,.bool false,.slice none 0 0] 29)).alloc (.cells #[.iface T x,.int .i64 n] 124)=W:=⟨_,rfl⟩;have hWx:Ext w W:=by rw [<- hW]; exact ((Ext.refl w).alloc _).alloc _
   have hWs:W.heap.size=w.heap.size+1+1:=by rw [<- hW]; simp
   have hZ:uq W w.heap.size:=by rw [<- hW]; exact (qae w _).ext ((Ext.refl _).alloc _) (by simp)
   have HB:Hid (∀ W',Ext W W'->(Ext w W'/\W'.cell? ⟨w.heap.size+1,0,none⟩=some (.iface T x)/\W'.cell? ⟨w.heap.size+1,1,none⟩=some (.int .i64 n))):=by
    intro W' hx;obtain ⟨hc,hf⟩:=hx.cells;refine ⟨hWx.trans hx,?_,?_⟩ <;> (rw [hc _ _ (by omega),<- hW]; simp [go_sem])
   have HB2:Hid (∀ W',Ext W W'->∀ o u0 u1 u2 u3 u4 u5 u6 u7 u8 W2,W2=set9 (W'.alloc o) w.heap.size u0 u1 u2 u3 u4 u5 u6 u7 u8->(Ext w W2/\W2.cell? ⟨w.heap.size+1,0,none⟩=some (.iface T x)/\W2.cell? ⟨w.heap.size+1,1,none⟩=some (.int .i64 n))):=by
    intro W' hx o u0 u1 u2 u3 u4 u5 u6 u7 u8 W2 e;obtain ⟨k0,k1,k2⟩:=HB.out _ (hx.alloc o);rw [e];exact ⟨gag k0 (Nat.le_refl _) _ _ _ _ _ _ _ _ _,(zx _ _ _ _ _ _ _ _ _ _ _ _ (by simp)).trans k1,(zx _ _ _ _ _ _ _ _ _ _ _ _ (by simp)).trans k2⟩
   have HZ:=Lib.hid hZ;have HWX:=Lib.hid hWx;have HWS:=Lib.hid hWs;have HX0:=Lib.hid hx0;rw [hW];clear hW hZ hWx hWs hx0;have y0:Ext W W.drew:=(Ext.refl W).drew;have Y0:=Lib.hid y0;clear y0
   go_region_held3 (fun W' => Ext w W' /\ W'.cell? ⟨w.heap.size + 1, 0, none⟩ = some (.iface T x) /\ W'.cell? ⟨w.heap.size + 1, 1, none⟩ = some (.int .i64 n))
    (first | with_reducible exact HB.out _ Y0.out | with_reducible exact HB.out _ y1 | with_reducible exact HB.out _ (y1.alloc _) | exact HB2.out _ y1 _ _ _ _ _ _ _ _ _ _ _ rfl)
    (first
      | (go_at_call_of 90 (Value.iface T x)
         refine (IHA.out _ _ (HX0.out.trans (HWX.out.trans Y0.out)) HX.out).mono ?_;rintro e v1 ⟨z1,rfl,m1,x1⟩;obtain ⟨A0,n0,c0,A1,c1,rfl,-⟩:=m1.open_;unfold ndV;have y1:Ext W v1:=Ext.trans Y0.out x1;have hz2:uq v1 w.heap.size:=HZ.out.ext y1 (by have:=HWS.out; omega);have hza:∀ o,uq (v1.alloc o) w.heap.size:=fun o=>hz2.ext ((Ext.refl v1).alloc o) (by have:=y1.size; have:=HWS.out; omega)
         have r0:=fun o=>(hza o).1.1
         have r1:=fun o=>(hza o).1.2.1
         have r2:=fun o=>(hza o).1.2.2.1
         have r3:=fun o=>(hza o).1.2.2.2.1
         have r4:=fun o=>(hza o).1.2.2.2.2.1
         have r5:=fun o=>(hza o).1.2.2.2.2.2.1
         have r6:=fun o=>(hza o).1.2.2.2.2.2.2.1
         have r7:=fun o=>(hza o).1.2.2.2.2.2.2.2.1
         have r8:=fun o=>(hza o).1.2.2.2.2.2.2.2.2
         have rf:=fun o i=>(hza o).2 i
         have HZA:=Lib.hid hza;clear hz2 hza
         have hv2:w.heap.size+1 < v1.heap.size:=by have:=y1.size; have:=HWS.out; omega))
   all_goals
    have HF:Hid (uj (Tr.mk { nd0 with kind:=7,exp:=n } [a.plain]) w (.returned (ndV { nd0 with kind:=7,exp:=n } (.slice none 0 0) (.slice (some ⟨v1.heap.size,0,none⟩) 1 1))) (set9 (v1.alloc (.cells #[.int .i64 a.plain.d.kind,.bool a.plain.d.neg,.slice A0 n0 c0,.string a.plain.d.name,.int .i64 a.plain.d.exp,.int .i64 a.plain.d.rel,.bool a.plain.d.truth,.bool a.plain.d.all,.slice A1 a.plain.ks.length c1] 29)) w.heap.size (.int .i64 (7)) (.bool false) (.slice none 0 0) (.string ⟨#[]⟩) (.int .i64 (n)) (.int .i64 (0)) (.bool false) (.bool false) (.slice (some ⟨v1.heap.size,0,none⟩) 1 1))):=
     yag (B := W.heap.size) ((HWX.out.trans y1).alloc _) (Nat.le_refl _) (by have := HWS.out; omega) (hi := v1.heap.size + 1) (by simp) (HZA.out _)
      (TrO.mk (t := (Tr.mk { nd0 with kind := 7, exp := n } [a.plain])) (c := 1) (jb.nil _) (by simp [Tm.plain, Tr.ks]) (by simp)
        (.inr (gaz v1 W.heap.size _ a.plain _ _ m1 y1.size)))
    clear HZ HWX HWS HX0 IHA HX m1 x1 y1 HZA HB HB2 Y0;go_wp2_with fail;exact bodyPost_ret (v:=ndV { nd0 with kind:=7,exp:=n } (.slice none 0 0) (.slice (some ⟨v1.heap.size,0,none⟩) 1 1)) (by simp [results,Tryz.results90,go_sem,r0,r1,r2,r3,r4,r5,r6,r7,r8,ndV,nd0]) rfl HF.out
theorem wcw {w0 w:World} {L:Nat} {f g:Fm} {v:Value} (h:FmV w0 L (.and f g) v) (hx0:Ext w0 w) (ihf:∀ (v:Value) (w:World),Ext w0 w->FmV w0 L f v->Calls Tryz.prog 37 #[v] w (uj f.plain w)) (ihg:∀ (v:Value) (w:World),Ext w0 w->FmV w0 L g v->Calls Tryz.prog 37 #[v] w (uj g.plain w)) :
 Calls Tryz.prog 37 #[v] w (uj (Fm.and f g).plain w):=by
 have IHF:=Lib.hid ihf;have IHG:=Lib.hid ihg;obtain ⟨x,y,rfl,hx,hy⟩:=h;have HX:=Lib.hid hx;obtain ⟨T,x,rfl⟩:=hx.iface;have HY:=Lib.hid hy;obtain ⟨U,y,rfl⟩:=hy.iface;clear hx hy ihf ihg;go_enter Tryz.func37,Tryz.ntmps37;go_wp2_with fail;obtain ⟨W,hW⟩:∃ W,(w.alloc (.cells #[.int .i64 0,.bool false,.slice none 0 0,.string ⟨#[]⟩,.int .i64 0,.int .i64 0,.bool false,.bool false,.slice none 0 0] 29)).alloc (.cells #[.iface T x,.iface U y] 158)=W:=⟨_,rfl⟩;have hWx:Ext w W:=by rw [<- hW]; exact ((Ext.refl w).alloc _).alloc _
 have hWs:W.heap.size=w.heap.size+1+1:=by rw [<- hW]; simp
 have hZ:uq W w.heap.size:=by rw [<- hW]; exact (qae w _).ext ((Ext.refl _).alloc _) (by simp)
 have HB:Hid (∀ W',Ext W W'->(Ext w W'/\W'.cell? ⟨w.heap.size+1,0,none⟩=some (.iface T x)/\W'.cell? ⟨w.heap.size+1,1,none⟩=some (.iface U y))):=by
  intro W' hx;obtain ⟨hc,hf⟩:=hx.cells;refine ⟨hWx.trans hx,?_,?_⟩ <;> (rw [hc _ _ (by omega),<- hW]; simp [go_sem])
 have HB2:Hid (∀ W',Ext W W'->∀ o u0 u1 u2 u3 u4 u5 u6 u7 u8 W2,W2=set9 (W'.alloc o) w.heap.size u0 u1 u2 u3 u4 u5 u6 u7 u8->(Ext w W2/\W2.cell? ⟨w.heap.size+1,0,none⟩=some (.iface T x)/\W2.cell? ⟨w.heap.size+1,1,none⟩=some (.iface U y))):=by
  intro W' hx o u0 u1 u2 u3 u4 u5 u6 u7 u8 W2 e;obtain ⟨k0,k1,k2⟩:=HB.out _ (hx.alloc o);rw [e];exact ⟨gag k0 (Nat.le_refl _) _ _ _ _ _ _ _ _ _,(zx _ _ _ _ _ _ _ _ _ _ _ _ (by simp)).trans k1,(zx _ _ _ _ _ _ _ _ _ _ _ _ (by simp)).trans k2⟩
 have HZ:=Lib.hid hZ;have HWX:=Lib.hid hWx;have HWS:=Lib.hid hWs;have HX0:=Lib.hid hx0;rw [hW];clear hW hZ hWx hWs hx0;have y0:Ext W W.drew:=(Ext.refl W).drew;have Y0:=Lib.hid y0;clear y0
 go_region_held3 (fun W' => Ext w W' /\ W'.cell? ⟨w.heap.size + 1, 0, none⟩ = some (.iface T x) /\ W'.cell? ⟨w.heap.size + 1, 1, none⟩ = some (.iface U y))
  (first | with_reducible exact HB.out _ Y0.out | with_reducible exact HB.out _ y1 | with_reducible exact HB.out _ y2 | with_reducible exact HB.out _ (y2.alloc _) | exact HB2.out _ y2 _ _ _ _ _ _ _ _ _ _ _ rfl)
  (first
    | (go_at_call_of 37 (Value.iface T x)
       refine (IHF.out _ _ (HX0.out.trans (HWX.out.trans Y0.out)) HX.out).mono ?_;rintro e v1 ⟨z1,rfl,m1,x1⟩;obtain ⟨A0,n0,c0,A1,c1,rfl,-⟩:=m1.open_;unfold ndV
       have y1:Ext W v1:=Ext.trans Y0.out x1)
    | (go_at_call_of 37 (Value.iface U y)
       refine (IHG.out _ _ (HX0.out.trans (HWX.out.trans y1)) HY.out).mono ?_;rintro e v2 ⟨z2,rfl,m2,x2⟩;obtain ⟨B0,k0,d0,B1,d1,rfl,-⟩:=m2.open_;unfold ndV;have y2:Ext W v2:=Ext.trans (y1) x2;have hz2:uq v2 w.heap.size:=HZ.out.ext y2 (by have:=HWS.out; omega);have hza:∀ o,uq (v2.alloc o) w.heap.size:=fun o=>hz2.ext ((Ext.refl v2).alloc o) (by have:=y2.size; have:=HWS.out; omega)
       have r0:=fun o=>(hza o).1.1
       have r1:=fun o=>(hza o).1.2.1
       have r2:=fun o=>(hza o).1.2.2.1
       have r3:=fun o=>(hza o).1.2.2.2.1
       have r4:=fun o=>(hza o).1.2.2.2.2.1
       have r5:=fun o=>(hza o).1.2.2.2.2.2.1
       have r6:=fun o=>(hza o).1.2.2.2.2.2.2.1
       have r7:=fun o=>(hza o).1.2.2.2.2.2.2.2.1
       have r8:=fun o=>(hza o).1.2.2.2.2.2.2.2.2
       have rf:=fun o i=>(hza o).2 i
       have HZA:=Lib.hid hza;clear hz2 hza
       have hv2:w.heap.size+1 < v2.heap.size:=by have:=y2.size; have:=HWS.out; omega))
 have HF:Hid (uj (Fm.and f g).plain w (.returned (ndV { nd0 with kind:=11 } (.slice none 0 0) (.slice (some ⟨v2.heap.size,0,none⟩) 2 2))) (set9 (v2.alloc (.cells #[.int .i64 f.plain.d.kind,.bool f.plain.d.neg,.slice A0 n0 c0,.string f.plain.d.name,.int .i64 f.plain.d.exp,.int .i64 f.plain.d.rel,.bool f.plain.d.truth,.bool f.plain.d.all,.slice A1 f.plain.ks.length c1,.int .i64 g.plain.d.kind,.bool g.plain.d.neg,.slice B0 k0 d0,.string g.plain.d.name,.int .i64 g.plain.d.exp,.int .i64 g.plain.d.rel,.bool g.plain.d.truth,.bool g.plain.d.all,.slice B1 g.plain.ks.length d1] 29)) w.heap.size (.int .i64 (11)) (.bool false) (.slice none 0 0) (.string ⟨#[]⟩) (.int .i64 (0)) (.int .i64 (0)) (.bool false) (.bool false) (.slice (some ⟨v2.heap.size,0,none⟩) 2 2))):=
  yag (B := W.heap.size) ((HWX.out.trans y2).alloc _) (Nat.le_refl _) (by have := HWS.out; omega) (hi := v2.heap.size + 1) (by simp) (HZA.out _)
   (TrO.mk (t := (Fm.and f g).plain) (c := 2) (jb.nil _) (by simp [Fm.plain, Tr.ks]) (by simp)
     (.inr (zam v2 W.heap.size v1.heap.size _ f.plain g.plain _ _ _ _ (m1.ext x2) m2 y1.size x2.size)))
 clear HZ HWX HWS HX0 IHF IHG HX HY m1 x1 y1 m2 x2 y2 HZA HB HB2 Y0;go_wp2_with fail;exact bodyPost_ret (v:=ndV { nd0 with kind:=11 } (.slice none 0 0) (.slice (some ⟨v2.heap.size,0,none⟩) 2 2)) (by simp [results,Tryz.results37,go_sem,r0,r1,r2,r3,r4,r5,r6,r7,r8,ndV,nd0]) rfl HF.out
theorem vcz {w0 w:World} {L:Nat} {f g:Fm} {v:Value} (h:FmV w0 L (.or f g) v) (hx0:Ext w0 w) (ihf:∀ (v:Value) (w:World),Ext w0 w->FmV w0 L f v->Calls Tryz.prog 37 #[v] w (uj f.plain w)) (ihg:∀ (v:Value) (w:World),Ext w0 w->FmV w0 L g v->Calls Tryz.prog 37 #[v] w (uj g.plain w)) :
 Calls Tryz.prog 37 #[v] w (uj (Fm.or f g).plain w):=by
 have IHF:=Lib.hid ihf;have IHG:=Lib.hid ihg;obtain ⟨x,y,rfl,hx,hy⟩:=h;have HX:=Lib.hid hx;obtain ⟨T,x,rfl⟩:=hx.iface;have HY:=Lib.hid hy;obtain ⟨U,y,rfl⟩:=hy.iface;clear hx hy ihf ihg;go_enter Tryz.func37,Tryz.ntmps37;go_wp2_with fail;obtain ⟨W,hW⟩:∃ W,(w.alloc (.cells #[.int .i64 0,.bool false,.slice none 0 0,.string ⟨#[]⟩,.int .i64 0,.int .i64 0,.bool false,.bool false,.slice none 0 0] 29)).alloc (.cells #[.iface T x,.iface U y] 159)=W:=⟨_,rfl⟩;have hWx:Ext w W:=by rw [<- hW]; exact ((Ext.refl w).alloc _).alloc _
 have hWs:W.heap.size=w.heap.size+1+1:=by rw [<- hW]; simp
 have hZ:uq W w.heap.size:=by rw [<- hW]; exact (qae w _).ext ((Ext.refl _).alloc _) (by simp)
 have HB:Hid (∀ W',Ext W W'->(Ext w W'/\W'.cell? ⟨w.heap.size+1,0,none⟩=some (.iface T x)/\W'.cell? ⟨w.heap.size+1,1,none⟩=some (.iface U y))):=by
  intro W' hx;obtain ⟨hc,hf⟩:=hx.cells;refine ⟨hWx.trans hx,?_,?_⟩ <;> (rw [hc _ _ (by omega),<- hW]; simp [go_sem])
 have HB2:Hid (∀ W',Ext W W'->∀ o u0 u1 u2 u3 u4 u5 u6 u7 u8 W2,W2=set9 (W'.alloc o) w.heap.size u0 u1 u2 u3 u4 u5 u6 u7 u8->(Ext w W2/\W2.cell? ⟨w.heap.size+1,0,none⟩=some (.iface T x)/\W2.cell? ⟨w.heap.size+1,1,none⟩=some (.iface U y))):=by
  intro W' hx o u0 u1 u2 u3 u4 u5 u6 u7 u8 W2 e;obtain ⟨k0,k1,k2⟩:=HB.out _ (hx.alloc o);rw [e];exact ⟨gag k0 (Nat.le_refl _) _ _ _ _ _ _ _ _ _,(zx _ _ _ _ _ _ _ _ _ _ _ _ (by simp)).trans k1,(zx _ _ _ _ _ _ _ _ _ _ _ _ (by simp)).trans k2⟩
 have HZ:=Lib.hid hZ;have HWX:=Lib.hid hWx;have HWS:=Lib.hid hWs;have HX0:=Lib.hid hx0;rw [hW];clear hW hZ hWx hWs hx0;have y0:Ext W W.drew:=(Ext.refl W).drew;have Y0:=Lib.hid y0;clear y0
 go_region_held3 (fun W' => Ext w W' /\ W'.cell? ⟨w.heap.size + 1, 0, none⟩ = some (.iface T x) /\ W'.cell? ⟨w.heap.size + 1, 1, none⟩ = some (.iface U y))
  (first | with_reducible exact HB.out _ Y0.out | with_reducible exact HB.out _ y1 | with_reducible exact HB.out _ y2 | with_reducible exact HB.out _ (y2.alloc _) | exact HB2.out _ y2 _ _ _ _ _ _ _ _ _ _ _ rfl)
  (first
    | (go_at_call_of 37 (Value.iface T x)
       refine (IHF.out _ _ (HX0.out.trans (HWX.out.trans Y0.out)) HX.out).mono ?_;rintro e v1 ⟨z1,rfl,m1,x1⟩;obtain ⟨A0,n0,c0,A1,c1,rfl,-⟩:=m1.open_;unfold ndV
       have y1:Ext W v1:=Ext.trans Y0.out x1)
    | (go_at_call_of 37 (Value.iface U y)
       refine (IHG.out _ _ (HX0.out.trans (HWX.out.trans y1)) HY.out).mono ?_;rintro e v2 ⟨z2,rfl,m2,x2⟩;obtain ⟨B0,k0,d0,B1,d1,rfl,-⟩:=m2.open_;unfold ndV;have y2:Ext W v2:=Ext.trans (y1) x2;have hz2:uq v2 w.heap.size:=HZ.out.ext y2 (by have:=HWS.out; omega);have hza:∀ o,uq (v2.alloc o) w.heap.size:=fun o=>hz2.ext ((Ext.refl v2).alloc o) (by have:=y2.size; have:=HWS.out; omega)
       have r0:=fun o=>(hza o).1.1
       have r1:=fun o=>(hza o).1.2.1
       have r2:=fun o=>(hza o).1.2.2.1
       have r3:=fun o=>(hza o).1.2.2.2.1
       have r4:=fun o=>(hza o).1.2.2.2.2.1
       have r5:=fun o=>(hza o).1.2.2.2.2.2.1
       have r6:=fun o=>(hza o).1.2.2.2.2.2.2.1
       have r7:=fun o=>(hza o).1.2.2.2.2.2.2.2.1
       have r8:=fun o=>(hza o).1.2.2.2.2.2.2.2.2
       have rf:=fun o i=>(hza o).2 i
       have HZA:=Lib.hid hza;clear hz2 hza
       have hv2:w.heap.size+1 < v2.heap.size:=by have:=y2.size; have:=HWS.out; omega))
 have HF:Hid (uj (Fm.or f g).plain w (.returned (ndV { nd0 with kind:=12 } (.slice none 0 0) (.slice (some ⟨v2.heap.size,0,none⟩) 2 2))) (set9 (v2.alloc (.cells #[.int .i64 f.plain.d.kind,.bool f.plain.d.neg,.slice A0 n0 c0,.string f.plain.d.name,.int .i64 f.plain.d.exp,.int .i64 f.plain.d.rel,.bool f.plain.d.truth,.bool f.plain.d.all,.slice A1 f.plain.ks.length c1,.int .i64 g.plain.d.kind,.bool g.plain.d.neg,.slice B0 k0 d0,.string g.plain.d.name,.int .i64 g.plain.d.exp,.int .i64 g.plain.d.rel,.bool g.plain.d.truth,.bool g.plain.d.all,.slice B1 g.plain.ks.length d1] 29)) w.heap.size (.int .i64 (12)) (.bool false) (.slice none 0 0) (.string ⟨#[]⟩) (.int .i64 (0)) (.int .i64 (0)) (.bool false) (.bool false) (.slice (some ⟨v2.heap.size,0,none⟩) 2 2))):=
  yag (B := W.heap.size) ((HWX.out.trans y2).alloc _) (Nat.le_refl _) (by have := HWS.out; omega) (hi := v2.heap.size + 1) (by simp) (HZA.out _)
   (TrO.mk (t := (Fm.or f g).plain) (c := 2) (jb.nil _) (by simp [Fm.plain, Tr.ks]) (by simp)
     (.inr (zam v2 W.heap.size v1.heap.size _ f.plain g.plain _ _ _ _ (m1.ext x2) m2 y1.size x2.size)))
 clear HZ HWX HWS HX0 IHF IHG HX HY m1 x1 y1 m2 x2 y2 HZA HB HB2 Y0;go_wp2_with fail;exact bodyPost_ret (v:=ndV { nd0 with kind:=12 } (.slice none 0 0) (.slice (some ⟨v2.heap.size,0,none⟩) 2 2)) (by simp [results,Tryz.results37,go_sem,r0,r1,r2,r3,r4,r5,r6,r7,r8,ndV,nd0]) rfl HF.out
theorem gbm (r:Int) (w:World):Calls Tryz.prog 89 #[.int .i64 r] w fun e w'=>e=.returned (.int .i64 (yan r))/\w'=w:=by
 by_cases h1:r < 1
 · have hr:yan r=3:=if_pos (.inl h1);rw [hr];have hd:decide (r < 1)=true:=by simpa using h1
   clear hr;go_enter Tryz.func89,Tryz.ntmps89;go_wp2_with fail;go_ret;exact ⟨rfl,rfl⟩
 · have hd:decide (r < 1)=false:=by simpa using h1
   by_cases h2:6 < r
   · have hr:yan r=3:=if_pos (.inr h2);rw [hr];have hd2:decide (6 < r)=true:=by simpa using h2
     clear hr;go_enter Tryz.func89,Tryz.ntmps89;go_wp2_with fail;go_ret;exact ⟨rfl,rfl⟩
   · have hr:yan r=r:=if_neg (by omega);rw [hr];have hd2:decide (6 < r)=false:=by simpa using h2
     clear hr;go_enter Tryz.func89,Tryz.ntmps89;go_wp2_with fail;go_ret;exact ⟨rfl,rfl⟩
theorem gcr {w0 w:World} {L:Nat} {l k:Tm} {rr:Int} {v:Value} (h:FmV w0 L (.atom l rr k) v) (hx0:Ext w0 w) (ihl:∀ (v:Value) (w:World),Ext w0 w->TmV w0 L l v->Calls Tryz.prog 90 #[v] w (uj l.plain w)) (ihk:∀ (v:Value) (w:World),Ext w0 w->TmV w0 L k v->Calls Tryz.prog 90 #[v] w (uj k.plain w)) :
 Calls Tryz.prog 37 #[v] w (uj (Fm.atom l rr k).plain w):=by
 have IHL:=Lib.hid ihl;have IHK:=Lib.hid ihk;obtain ⟨x,y,rfl,hx,hy⟩:=h;have HX:=Lib.hid hx;obtain ⟨T,x,rfl⟩:=hx.iface;have HY:=Lib.hid hy;obtain ⟨U,y,rfl⟩:=hy.iface;clear hx hy ihl ihk;go_enter Tryz.func37,Tryz.ntmps37;go_wp2_with fail;obtain ⟨W,hW⟩:∃ W,(w.alloc (.cells #[.int .i64 0,.bool false,.slice none 0 0,.string ⟨#[]⟩,.int .i64 0,.int .i64 0,.bool false,.bool false,.slice none 0 0] 29)).alloc (.cells #[.iface T x,.int .i64 rr,.iface U y] 93)=W:=⟨_,rfl⟩;have hWx:Ext w W:=by rw [<- hW]; exact ((Ext.refl w).alloc _).alloc _
 have hWs:W.heap.size=w.heap.size+1+1:=by rw [<- hW]; simp
 have hZ:uq W w.heap.size:=by rw [<- hW]; exact (qae w _).ext ((Ext.refl _).alloc _) (by simp)
 have HB:Hid (∀ W',Ext W W'->(Ext w W'/\W'.cell? ⟨w.heap.size+1,0,none⟩=some (.iface T x)/\W'.cell? ⟨w.heap.size+1,1,none⟩=some (.int .i64 rr)/\W'.cell? ⟨w.heap.size+1,2,none⟩=some (.iface U y))):=by
  intro W' hx;obtain ⟨hc,hf⟩:=hx.cells;refine ⟨hWx.trans hx,?_,?_,?_⟩ <;> (rw [hc _ _ (by omega),<- hW]; simp [go_sem])
 have HB2:Hid (∀ W',Ext W W'->∀ o u0 u1 u2 u3 u4 u5 u6 u7 u8 W2,W2=set9 (W'.alloc o) w.heap.size u0 u1 u2 u3 u4 u5 u6 u7 u8->(Ext w W2/\W2.cell? ⟨w.heap.size+1,0,none⟩=some (.iface T x)/\W2.cell? ⟨w.heap.size+1,1,none⟩=some (.int .i64 rr)/\W2.cell? ⟨w.heap.size+1,2,none⟩=some (.iface U y))):=by
  intro W' hx o u0 u1 u2 u3 u4 u5 u6 u7 u8 W2 e;obtain ⟨k0,k1,k2,k3⟩:=HB.out _ (hx.alloc o);rw [e];exact ⟨gag k0 (Nat.le_refl _) _ _ _ _ _ _ _ _ _,(zx _ _ _ _ _ _ _ _ _ _ _ _ (by simp)).trans k1,(zx _ _ _ _ _ _ _ _ _ _ _ _ (by simp)).trans k2,(zx _ _ _ _ _ _ _ _ _ _ _ _ (by simp)).trans k3⟩
 have HZ:=Lib.hid hZ;have HWX:=Lib.hid hWx;have HWS:=Lib.hid hWs;have HX0:=Lib.hid hx0;rw [hW];clear hW hZ hWx hWs hx0;have y0:Ext W W.drew:=(Ext.refl W).drew;have Y0:=Lib.hid y0;clear y0
 go_region_held3 (fun W' => Ext w W' /\ W'.cell? ⟨w.heap.size + 1, 0, none⟩ = some (.iface T x) /\ W'.cell? ⟨w.heap.size + 1, 1, none⟩ = some (.int .i64 rr) /\ W'.cell? ⟨w.heap.size + 1, 2, none⟩ = some (.iface U y))
  (first | with_reducible exact HB.out _ Y0.out | with_reducible exact HB.out _ y1 | with_reducible exact HB.out _ y2 | with_reducible exact HB.out _ (y2.alloc _) | exact HB2.out _ y2 _ _ _ _ _ _ _ _ _ _ _ rfl)
  (first
    | (go_at_call 89
       refine (gbm _ _).mono ?_
       rintro e v0 ⟨rfl,rfl⟩)
    | (go_at_call_of 90 (Value.iface T x)
       refine (IHL.out _ _ (HX0.out.trans (HWX.out.trans Y0.out)) HX.out).mono ?_;rintro e v1 ⟨z1,rfl,m1,x1⟩;obtain ⟨A0,n0,c0,A1,c1,rfl,-⟩:=m1.open_;unfold ndV
       have y1:Ext W v1:=Ext.trans Y0.out x1)
    | (go_at_call_of 90 (Value.iface U y)
       refine (IHK.out _ _ (HX0.out.trans (HWX.out.trans y1)) HY.out).mono ?_;rintro e v2 ⟨z2,rfl,m2,x2⟩;obtain ⟨B0,k0,d0,B1,d1,rfl,-⟩:=m2.open_;unfold ndV;have y2:Ext W v2:=Ext.trans (y1) x2;have hz2:uq v2 w.heap.size:=HZ.out.ext y2 (by have:=HWS.out; omega);have hza:∀ o,uq (v2.alloc o) w.heap.size:=fun o=>hz2.ext ((Ext.refl v2).alloc o) (by have:=y2.size; have:=HWS.out; omega)
       have r0:=fun o=>(hza o).1.1
       have r1:=fun o=>(hza o).1.2.1
       have r2:=fun o=>(hza o).1.2.2.1
       have r3:=fun o=>(hza o).1.2.2.2.1
       have r4:=fun o=>(hza o).1.2.2.2.2.1
       have r5:=fun o=>(hza o).1.2.2.2.2.2.1
       have r6:=fun o=>(hza o).1.2.2.2.2.2.2.1
       have r7:=fun o=>(hza o).1.2.2.2.2.2.2.2.1
       have r8:=fun o=>(hza o).1.2.2.2.2.2.2.2.2
       have rf:=fun o i=>(hza o).2 i
       have HZA:=Lib.hid hza;clear hz2 hza
       have hv2:w.heap.size+1 < v2.heap.size:=by have:=y2.size; have:=HWS.out; omega))
 have HF:Hid (uj (Fm.atom l rr k).plain w (.returned (ndV { nd0 with kind:=9,rel:=yan rr } (.slice none 0 0) (.slice (some ⟨v2.heap.size,0,none⟩) 2 2))) (set9 (v2.alloc (.cells #[.int .i64 l.plain.d.kind,.bool l.plain.d.neg,.slice A0 n0 c0,.string l.plain.d.name,.int .i64 l.plain.d.exp,.int .i64 l.plain.d.rel,.bool l.plain.d.truth,.bool l.plain.d.all,.slice A1 l.plain.ks.length c1,.int .i64 k.plain.d.kind,.bool k.plain.d.neg,.slice B0 k0 d0,.string k.plain.d.name,.int .i64 k.plain.d.exp,.int .i64 k.plain.d.rel,.bool k.plain.d.truth,.bool k.plain.d.all,.slice B1 k.plain.ks.length d1] 29)) w.heap.size (.int .i64 (9)) (.bool false) (.slice none 0 0) (.string ⟨#[]⟩) (.int .i64 (0)) (.int .i64 (yan rr)) (.bool false) (.bool false) (.slice (some ⟨v2.heap.size,0,none⟩) 2 2))):=
  yag (B := W.heap.size) ((HWX.out.trans y2).alloc _) (Nat.le_refl _) (by have := HWS.out; omega) (hi := v2.heap.size + 1) (by simp) (HZA.out _)
   (TrO.mk (t := (Fm.atom l rr k).plain) (c := 2) (jb.nil _) (by simp [Fm.plain, Tr.ks]) (by simp)
     (.inr (zam v2 W.heap.size v1.heap.size _ l.plain k.plain _ _ _ _ (m1.ext x2) m2 y1.size x2.size)))
 clear HZ HWX HWS HX0 IHL IHK HX HY m1 x1 y1 m2 x2 y2 HZA HB HB2 Y0;go_wp2_with fail;exact bodyPost_ret (v:=ndV { nd0 with kind:=9,rel:=yan rr } (.slice none 0 0) (.slice (some ⟨v2.heap.size,0,none⟩) 2 2)) (by simp [results,Tryz.results37,go_sem,r0,r1,r2,r3,r4,r5,r6,r7,r8,ndV,nd0]) rfl HF.out
theorem ucr {w0 w:World} {L:Nat} {s:ByteArray} {v:Value} (h:TmV w0 L (.name s) v) :
 Calls Tryz.prog 90 #[v] w (uj (Tm.name s).plain w):=by
 obtain rfl:=h
 have HF:Hid (uj (Tm.name s).plain w (.returned (ndV { nd0 with kind:=2,name:=s } (.slice none 0 0) (.slice none 0 0))) ((w.alloc (.cells #[.int .i64 (2),.bool false,.slice none 0 0,.string s,.int .i64 (0),.int .i64 (0),.bool false,.bool false,.slice none 0 0] 29)).alloc (.cells #[.string s] 91))):=
  ⟨_,rfl,TrO.mk (t:=(Tm.name s).plain) (c:=0) (A:=none) (jb.nil _) (by simp [Tm.plain,Tr.ks]) (by simp) (.inl rfl),((Ext.refl w).alloc _).alloc _⟩
 go_enter Tryz.func90,Tryz.ntmps90;go_wp2_with fail;exact bodyPost_ret (v:=ndV { nd0 with kind:=2,name:=s } (.slice none 0 0) (.slice none 0 0)) (by simp [results,Tryz.results90,go_sem,ndV,nd0]) rfl (HF.out)
theorem vcw {w0 w:World} {L:Nat} {z:Int} {v:Value} (h:TmV w0 L (.num z) v) (hx0:Ext w0 w) (hL:L<=35184372088000) :
 Calls Tryz.prog 90 #[v] w (uj (Tm.num z).plain w):=by
 obtain ⟨x,rfl,hx⟩:=h;have HX:=Lib.hid (hx.ext hx0);obtain ⟨b,A,n,c,rfl⟩:=hx.unpack;clear hx;go_enter Tryz.func90,Tryz.ntmps90;go_wp2_with fail;obtain ⟨W,hW⟩:∃ W,(w.alloc (.cells #[.int .i64 0,.bool false,.slice none 0 0,.string ⟨#[]⟩,.int .i64 0,.int .i64 0,.bool false,.bool false,.slice none 0 0] 29)).alloc (.cells #[.bool b,.slice A n c] 120)=W:=⟨_,rfl⟩;have hWx:Ext w W:=by rw [<- hW]; exact ((Ext.refl w).alloc _).alloc _
 have hWs:W.heap.size=w.heap.size+1+1:=by rw [<- hW]; simp
 have hZ:uq W w.heap.size:=by rw [<- hW]; exact (qae w _).ext ((Ext.refl _).alloc _) (by simp)
 rw [hW];clear hW;refine (zak _ z L _ (HX.out.ext hWx) (by omega)).mono ?_;rintro e v1 ⟨x1,rfl,m1,y1⟩;have hz1:=hZ.ext y1 (by omega);obtain ⟨s1,rfl,ms⟩:=m1;have HF:=Lib.hid (yag (B:=w.heap.size+1) (hWx.trans y1) (Nat.le_refl _) (by omega) (hi:=v1.heap.size) (Nat.le_refl _) hz1 (TrO.mk (t:=(Tm.num z).plain) (c:=0) (A:=none) ms (by simp [Tm.plain,Tr.ks]) (by simp) (.inl rfl)));obtain ⟨A1,c1,rfl,-⟩:=ms;obtain ⟨⟨r0,r1,r2,r3,r4,r5,r6,r7,r8⟩,rf⟩:=hz1;clear hWx hWs hZ y1;go_wp2_with fail;exact bodyPost_ret (v:=ndV { nd0 with kind:=1,neg:=decide (z < 0),ds:=dg z.natAbs } (.slice A1 (dg z.natAbs).length c1) (.slice none 0 0)) (by simp [results,Tryz.results90,go_sem,r0,r1,r2,r3,r4,r5,r6,r7,r8,ndV,nd0]) rfl HF.out
theorem jch {w0 w:World} {L:Nat} {b:Bool} {v:Value} (h:FmV w0 L (.truth b) v) :
 Calls Tryz.prog 37 #[v] w (uj (Fm.truth b).plain w):=by
 obtain rfl:=h
 have HF:Hid (uj (Fm.truth b).plain w (.returned (ndV { nd0 with kind:=8,truth:=b } (.slice none 0 0) (.slice none 0 0))) ((w.alloc (.cells #[.int .i64 (8),.bool false,.slice none 0 0,.string ⟨#[]⟩,.int .i64 (0),.int .i64 (0),.bool b,.bool false,.slice none 0 0] 29)).alloc (.cells #[.bool b] 100))):=
  ⟨_,rfl,TrO.mk (t:=(Fm.truth b).plain) (c:=0) (A:=none) (jb.nil _) (by simp [Fm.plain,Tr.ks]) (by simp) (.inl rfl),((Ext.refl w).alloc _).alloc _⟩
 go_enter Tryz.func37,Tryz.ntmps37;go_wp2_with fail;exact bodyPost_ret (v:=ndV { nd0 with kind:=8,truth:=b } (.slice none 0 0) (.slice none 0 0)) (by simp [results,Tryz.results37,go_sem,ndV,nd0]) rfl (HF.out)
theorem yaz {w0:World} {L:Nat} (hL:L<=35184372088000) (t:Tm):∀ (v:Value) (w:World),Ext w0 w->TmV w0 L t v->Calls Tryz.prog 90 #[v] w (uj t.plain w):=by
 induction t with
 | num z=>exact fun v w hx h=>vcw h hx hL
 | name s=>exact fun v w hx h=>ucr h
 | add a b iha ihb=>exact fun v w hx h=>zcx h hx iha ihb
 | sub a b iha ihb=>exact fun v w hx h=>jcw h hx iha ihb
 | mul a b iha ihb=>exact fun v w hx h=>gcw h hx iha ihb
 | neg a iha=>exact fun v w hx h=>ucw h hx iha
 | pow a n iha=>exact fun v w hx h=>kcw h hx iha
end Go.Proofs.YtaedbimbbeploaaGreatDoor

/- Layer 34: what a formula counts as; its canonical tree is its tree. -/
namespace Go.Proofs.YtaedbimbbeploaaGreatDoor
def Tm.norm : Tm -> Tm
 | .num z=>.num z
 | .name s=>.name s
 | .add a b=>.add a.norm b.norm
 | .sub a b=>.sub a.norm b.norm
 | .mul a b=>.mul a.norm b.norm
 | .neg a=>.neg a.norm
 | .pow a e=>.pow a.norm (je e 0)
def Fm.norm : Fm -> Fm
 | .truth b=>.truth b
 | .atom l r k=>.atom l.norm (yan r) k.norm
 | .not f=>.not f.norm
 | .and f g=>.and f.norm g.norm
 | .or f g=>.or f.norm g.norm
 | .imp f g=>.imp f.norm g.norm
 | .iff f g=>.iff f.norm g.norm
 | .quant a s f=>.quant a s f.norm
theorem TmV.isTm {w:World} {L:Nat} {t:Tm} {v:Value} (h:TmV w L t v):vw L t.norm t.plain:=by
 induction t generalizing v with
 | num z =>
   obtain ⟨x,e,h⟩:=h;exact ⟨rfl,rfl,by show z=sgn (decide (z < 0)) (val (dg z.natAbs)); rw [zi,ual],h.len⟩
 | name s=>exact ⟨rfl,rfl,rfl⟩
 | add a b iha ihb=>obtain ⟨x,y,e,h,k⟩:=h; exact ⟨rfl,_,_,rfl,iha h,ihb k⟩
 | sub a b iha ihb=>obtain ⟨x,y,e,h,k⟩:=h; exact ⟨rfl,_,_,rfl,iha h,ihb k⟩
 | mul a b iha ihb=>obtain ⟨x,y,e,h,k⟩:=h; exact ⟨rfl,_,_,rfl,iha h,ihb k⟩
 | neg a iha=>obtain ⟨x,e,h⟩:=h; exact ⟨rfl,_,rfl,iha h⟩
 | pow a n iha=>obtain ⟨x,e,h⟩:=h; exact ⟨rfl,rfl,by unfold je; split <;> omega,_,rfl,iha h⟩
theorem FmV.isFm {w:World} {L:Nat} {t:Fm} {v:Value} (h:FmV w L t v):wan L t.norm t.plain:=by
 induction t generalizing v with
 | truth b=>exact ⟨rfl,rfl,rfl⟩
 | atom l r k=>obtain ⟨x,y,e,h,k⟩:=h; exact ⟨rfl,rfl,by unfold yan; split <;> omega,by unfold yan; split <;> omega,_,_,rfl,h.isTm,k.isTm⟩
 | not f ihf=>obtain ⟨x,e,h⟩:=h; exact ⟨rfl,_,rfl,ihf h⟩
 | and f g ihf ihg=>obtain ⟨x,y,e,h,k⟩:=h; exact ⟨rfl,_,_,rfl,ihf h,ihg k⟩
 | or f g ihf ihg=>obtain ⟨x,y,e,h,k⟩:=h; exact ⟨rfl,_,_,rfl,ihf h,ihg k⟩
 | imp f g ihf ihg=>obtain ⟨x,y,e,h,k⟩:=h; exact ⟨rfl,_,_,rfl,ihf h,ihg k⟩
 | iff f g ihf ihg=>obtain ⟨x,y,e,h,k⟩:=h; exact ⟨rfl,_,_,rfl,ihf h,ihg k⟩
 | quant a s f ihf=>obtain ⟨x,e,h⟩:=h; exact ⟨rfl,rfl,rfl,_,rfl,ihf h⟩
end Go.Proofs.YtaedbimbbeploaaGreatDoor
