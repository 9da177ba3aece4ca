/- Layer 34: formula.Of: the formula of a tree. -/
import Derived.Test.YtheefiaoimbeiaaGreatDoorMt15
import Derived.Test.YtheefiaoimbeiaaGreatDoorMt4
import Derived.Test.YtheefiaoimbeiaaGreatDoorMt8
import Derived.RangeFuncNested
import Derived.RangeFuncBound
import Derived.RangeFuncCalls
import Derived.RangeFuncLeaves
import Derived.Shelf.Abstract
import Derived.Shelf.RegionOpen
import Derived.OwnWalkIn
import Derived.TacticsInMore
import Derived.LoopNIn
import Derived.LoopIn
set_option linter.unusedSimpArgs false
set_option linter.unusedVariables false

set_option maxRecDepth 100000
set_option maxHeartbeats 8000000
namespace Go.Proofs.YtheefiaoimbeiaaGreatDoor
open Go.RowKit
def zx (L : Nat) : Fm -> Tr -> Prop
 | .truth b,t=>t.d.kind=8/\t.ks=[]/\t.d.truth=b
 | .atom l r k,t=>t.d.kind=9/\t.d.rel=r/\1<=r/\r<=6/\∃ x y,t.ks=[x,y]/\zy L l x/\zy L k y
 | .not f,t=>t.d.kind=10/\∃ x,t.ks=[x]/\zx L f x
 | .and f g,t=>t.d.kind=11/\∃ x y,t.ks=[x,y]/\zx L f x/\zx L g y
 | .or f g,t=>t.d.kind=12/\∃ x y,t.ks=[x,y]/\zx L f x/\zx L g y
 | .imp f g,t=>t.d.kind=13/\∃ x y,t.ks=[x,y]/\zx L f x/\zx L g y
 | .iff f g,t=>t.d.kind=14/\∃ x y,t.ks=[x,y]/\zx L f x/\zx L g y
 | .quant a s f,t=>t.d.kind=15/\t.d.all=a/\t.d.name=s/\∃ x,t.ks=[x]/\zx L f x
def kaf (L:Nat) (f:Fm) (w:World) (e:Ending) (w':World):Prop:=∃ v,e=.returned (.tuple #[v,.int .i64 0])/\FmV w' L f v/\Ext w w'
def qam (L n:Nat):Prop:=∀ (f:Fm) (t:Tr),f.sz < n->zx L f t->∀ (v:Value) (w:World),TrV w (fun _=>True) t v->Calls Tryz.prog 8 #[v] w (kaf L f w)
theorem ug.kid0 {w:World} {p:Nat->Prop} {l:List Tr} {A:Option Addr} (h:ug w p l A 0) (hk:0 < l.length):∃ ad A0 n0 c0 A1 n1 c1,A=some ad/\ad.block < w.heap.size/\zah w ad l[0].d (.slice A0 n0 c0) (.slice A1 n1 c1)/\TrV w p l[0] (ndV l[0].d (.slice A0 n0 c0) (.slice A1 n1 c1)):=by
 obtain ⟨ad,A0,n0,c0,A1,n1,c1,e,hb,h1,h2⟩:=h.kid 0 hk;exact ⟨ad,A0,n0,c0,A1,n1,c1,e,hb,h1,h2⟩
theorem zah.nine {w:World} {ad:Addr} {d:Nd} {s A:Value} (h:zah w (ad.add (1 * 9)) d s A):w.cell? ⟨ad.block,ad.off+9,none⟩=some (.int .i64 d.kind)/\w.cell? ⟨ad.block,ad.off+9+1,none⟩=some (.bool d.neg)/\w.cell? ⟨ad.block,ad.off+9+2,none⟩=some s/\w.cell? ⟨ad.block,ad.off+9+3,none⟩=some (.string d.name)/\w.cell? ⟨ad.block,ad.off+9+4,none⟩=some (.int .i64 d.exp)/\w.cell? ⟨ad.block,ad.off+9+5,none⟩=some (.int .i64 d.rel)/\w.cell? ⟨ad.block,ad.off+9+6,none⟩=some (.bool d.truth)/\w.cell? ⟨ad.block,ad.off+9+7,none⟩=some (.bool d.all)/\w.cell? ⟨ad.block,ad.off+9+8,none⟩=some A:=h
theorem xcp {L n:Nat} (ih:qam L n) {f g:Fm} (t:Tr) (hsz:(Fm.and f g).sz < n+1) (h:zx L (.and f g) t) (v:Value) (w:World) (hv:TrV w (fun _=>True) t v):Calls Tryz.prog 24 #[v] w (kaf L (.and f g) w):=by
 have IH:=Lib.hid ih;clear ih;obtain ⟨⟨kind,neg,ds,name,exp,rel,truth,all⟩,ks⟩:=t;obtain ⟨hkind,t0,t1,hks,h0,h1⟩:=h;simp only [Tr.d] at hkind;simp only [Tr.ks] at hks;subst hkind hks;simp only [Fm.sz] at hsz;obtain ⟨A0,n0,c0,A,c,rfl,hnat,hc1,hc2,hat⟩:=hv.open_
 change ug w _ [t0,t1] A 0 at hat
 have HAT:=Lib.hid hat;clear hv hat hnat;unfold ndV;simp only [Tr.d,Tr.ks,List.length_cons,List.length_nil,Nat.zero_add,Nat.reduceAdd] at hc1 ⊢;obtain ⟨W,hW⟩:=n_m (w.alloc (.cells #[.int .i64 11,.bool neg,.slice A0 n0 c0,.string name,.int .i64 exp,.int .i64 rel,.bool truth,.bool all,.slice A 2 c] 29));have hWx:Ext w W:=by rw [<- hW]; exact (Ext.refl w).alloc _
 have hbx:W.heap[w.heap.size]?=some (.cells #[.int .i64 11,.bool neg,.slice A0 n0 c0,.string name,.int .i64 exp,.int .i64 rel,.bool truth,.bool all,.slice A 2 c] 29):=by rw [<- hW]; exact heap_alloc_new w _
 have hws:w.heap.size < W.heap.size:=by rw [<- hW]; simp
 have b0W:W.cell? ⟨w.heap.size,0,none⟩=some (.int .i64 11):=by simp [World.cell?,hbx]
 have b3W:W.cell? ⟨w.heap.size,3,none⟩=some (.string name):=by simp [World.cell?,hbx]
 have b5W:W.cell? ⟨w.heap.size,5,none⟩=some (.int .i64 rel):=by simp [World.cell?,hbx]
 have b7W:W.cell? ⟨w.heap.size,7,none⟩=some (.bool all):=by simp [World.cell?,hbx]
 have b8W:W.cell? ⟨w.heap.size,8,none⟩=some (.slice A 2 c):=by simp [World.cell?,hbx]
 obtain ⟨ad,B0,m0,d0,B1,m1,d1',hA,hadb,⟨e0,e1,e2,e3,e4,e5,e6,e7,e8⟩,hkt⟩:=(HAT.out.ext hWx).kid0 (by simp);subst hA;have HKT:=Lib.hid hkt;have HWX:=Lib.hid hWx;have HBX:=Lib.hid hbx;clear hkt hWx hbx;simp only [List.getElem_cons_zero] at e0 e1 e3 e4 e5 e6 e7;go_enter Tryz.func24,Tryz.ntmps24;go_wp2_with fail;refine (IH.out f t0 (by omega) h0 _ _ HKT.out).mono ?_;rintro e w1 ⟨v1,rfl,f1,x1⟩;have F1:=Lib.hid f1;obtain ⟨T1,u1,rfl⟩:=f1.iface;clear f1 b0W b3W b5W b7W b8W e0 e1 e2 e3 e4 e5 e6 e7 e8;have X1:=Lib.hid x1;have hbx_w1:w1.heap[w.heap.size]?=some (.cells #[.int .i64 11,.bool neg,.slice A0 n0 c0,.string name,.int .i64 exp,.int .i64 rel,.bool truth,.bool all,.slice (some ad) 2 c] 29):=(x1.below.block _ hws).trans HBX.out;have b0w1:w1.cell? ⟨w.heap.size,0,none⟩=some (.int .i64 11):=by simp [World.cell?,hbx_w1]
 have b3w1:w1.cell? ⟨w.heap.size,3,none⟩=some (.string name):=by simp [World.cell?,hbx_w1]
 have b5w1:w1.cell? ⟨w.heap.size,5,none⟩=some (.int .i64 rel):=by simp [World.cell?,hbx_w1]
 have b7w1:w1.cell? ⟨w.heap.size,7,none⟩=some (.bool all):=by simp [World.cell?,hbx_w1]
 have b8w1:w1.cell? ⟨w.heap.size,8,none⟩=some (.slice (some ad) 2 c):=by simp [World.cell?,hbx_w1]
 obtain ⟨ad',B0,m0,d0,B1,m1,d1',hA,hadb,hnd,hkt⟩:=(HAT.out.ext (HWX.out.trans X1.out)).kid 1 (by simp);obtain ⟨e0,e1,e2,e3,e4,e5,e6,e7,e8⟩:=hnd.nine;clear hnd;injection hA with hA
 subst hA;have HKT2:=Lib.hid hkt;simp only [List.getElem_cons_succ,List.getElem_cons_zero] at e0 e1 e3 e4 e5 e6 e7;clear hkt x1 hbx_w1;go_wp2_with fail;refine (IH.out g t1 (by omega) h1 _ _ HKT2.out).mono ?_;rintro e w2 ⟨v2,rfl,f2,x2⟩;have F2:=Lib.hid f2;obtain ⟨T2,u2,rfl⟩:=f2.iface;clear f2 b0w1 b3w1 b5w1 b7w1 b8w1 e0 e1 e2 e3 e4 e5 e6 e7 e8;have X2:=Lib.hid (X1.out.trans x2);have hbx_w2:w2.heap[w.heap.size]?=some (.cells #[.int .i64 11,.bool neg,.slice A0 n0 c0,.string name,.int .i64 exp,.int .i64 rel,.bool truth,.bool all,.slice (some ad) 2 c] 29):=(X2.out.below.block _ hws).trans HBX.out;have F1':=Lib.hid (F1.out.ext x2);have b0w2:w2.cell? ⟨w.heap.size,0,none⟩=some (.int .i64 11):=by simp [World.cell?,hbx_w2]
 have b3w2:w2.cell? ⟨w.heap.size,3,none⟩=some (.string name):=by simp [World.cell?,hbx_w2]
 have b5w2:w2.cell? ⟨w.heap.size,5,none⟩=some (.int .i64 rel):=by simp [World.cell?,hbx_w2]
 have b7w2:w2.cell? ⟨w.heap.size,7,none⟩=some (.bool all):=by simp [World.cell?,hbx_w2]
 have b8w2:w2.cell? ⟨w.heap.size,8,none⟩=some (.slice (some ad) 2 c):=by simp [World.cell?,hbx_w2]
 clear x2 hbx_w2;have HFIN:Hid (FmV w2 L (.and f g) (.iface 136 (.agg #[.iface T1 u1,.iface T2 u2]))):=⟨_,_,rfl,F1'.out,F2.out⟩;have HX:=Lib.hid (HWX.out.trans X2.out);go_wp2_with fail
 go_ret2
 exact ⟨_,rfl,HFIN.out,HX.out⟩
theorem gco {L n:Nat} (ih:qam L n) {f g:Fm} (t:Tr) (hsz:(Fm.and f g).sz < n+1) (h:zx L (.and f g) t) (v:Value) (w:World) (hv:TrV w (fun _=>True) t v):Calls Tryz.prog 8 #[v] w (kaf L (.and f g) w):=by
 have H:=Lib.hid (fun w' (hx:Ext w w')=>xcp ih t hsz h v w' (hv.ext hx));have hkind:t.d.kind=11:=h.1;clear h ih hsz;obtain ⟨⟨kind,neg,ds,name,exp,rel,truth,all⟩,ks⟩:=t;simp only [Tr.d] at hkind;subst hkind;obtain ⟨A0,n0,c0,A,c,rfl,hnat,hc1,hc2,hat⟩:=hv.open_;clear hv hat hnat hc1 hc2;unfold ndV at H ⊢;simp only [Tr.d,Tr.ks] at H ⊢;go_enter Tryz.func8,Tryz.ntmps8;go_wp2_with fail;refine (H.out _ ((Ext.refl w).alloc _)).mono ?_;rintro e w1 ⟨v1,rfl,f1,x1⟩;have F1:=Lib.hid f1;have X1:=Lib.hid (((Ext.refl w).alloc _).trans x1);obtain ⟨T1,u1,rfl⟩:=f1.iface;clear f1 x1 H;go_wp2_with fail
 go_ret2
 exact ⟨_,rfl,F1.out,X1.out⟩
theorem ycx {L n:Nat} (ih:qam L n) {f g:Fm} (t:Tr) (hsz:(Fm.or f g).sz < n+1) (h:zx L (.or f g) t) (v:Value) (w:World) (hv:TrV w (fun _=>True) t v):Calls Tryz.prog 24 #[v] w (kaf L (.or f g) w):=by
 have IH:=Lib.hid ih;clear ih;obtain ⟨⟨kind,neg,ds,name,exp,rel,truth,all⟩,ks⟩:=t;obtain ⟨hkind,t0,t1,hks,h0,h1⟩:=h;simp only [Tr.d] at hkind;simp only [Tr.ks] at hks;subst hkind hks;simp only [Fm.sz] at hsz;obtain ⟨A0,n0,c0,A,c,rfl,hnat,hc1,hc2,hat⟩:=hv.open_
 change ug w _ [t0,t1] A 0 at hat
 have HAT:=Lib.hid hat;clear hv hat hnat;unfold ndV;simp only [Tr.d,Tr.ks,List.length_cons,List.length_nil,Nat.zero_add,Nat.reduceAdd] at hc1 ⊢;obtain ⟨W,hW⟩:=n_m (w.alloc (.cells #[.int .i64 12,.bool neg,.slice A0 n0 c0,.string name,.int .i64 exp,.int .i64 rel,.bool truth,.bool all,.slice A 2 c] 29));have hWx:Ext w W:=by rw [<- hW]; exact (Ext.refl w).alloc _
 have hbx:W.heap[w.heap.size]?=some (.cells #[.int .i64 12,.bool neg,.slice A0 n0 c0,.string name,.int .i64 exp,.int .i64 rel,.bool truth,.bool all,.slice A 2 c] 29):=by rw [<- hW]; exact heap_alloc_new w _
 have hws:w.heap.size < W.heap.size:=by rw [<- hW]; simp
 have b0W:W.cell? ⟨w.heap.size,0,none⟩=some (.int .i64 12):=by simp [World.cell?,hbx]
 have b3W:W.cell? ⟨w.heap.size,3,none⟩=some (.string name):=by simp [World.cell?,hbx]
 have b5W:W.cell? ⟨w.heap.size,5,none⟩=some (.int .i64 rel):=by simp [World.cell?,hbx]
 have b7W:W.cell? ⟨w.heap.size,7,none⟩=some (.bool all):=by simp [World.cell?,hbx]
 have b8W:W.cell? ⟨w.heap.size,8,none⟩=some (.slice A 2 c):=by simp [World.cell?,hbx]
 obtain ⟨ad,B0,m0,d0,B1,m1,d1',hA,hadb,⟨e0,e1,e2,e3,e4,e5,e6,e7,e8⟩,hkt⟩:=(HAT.out.ext hWx).kid0 (by simp);subst hA;have HKT:=Lib.hid hkt;have HWX:=Lib.hid hWx;have HBX:=Lib.hid hbx;clear hkt hWx hbx;simp only [List.getElem_cons_zero] at e0 e1 e3 e4 e5 e6 e7;go_enter Tryz.func24,Tryz.ntmps24;go_wp2_with fail;refine (IH.out f t0 (by omega) h0 _ _ HKT.out).mono ?_;rintro e w1 ⟨v1,rfl,f1,x1⟩;have F1:=Lib.hid f1;obtain ⟨T1,u1,rfl⟩:=f1.iface;clear f1 b0W b3W b5W b7W b8W e0 e1 e2 e3 e4 e5 e6 e7 e8;have X1:=Lib.hid x1;have hbx_w1:w1.heap[w.heap.size]?=some (.cells #[.int .i64 12,.bool neg,.slice A0 n0 c0,.string name,.int .i64 exp,.int .i64 rel,.bool truth,.bool all,.slice (some ad) 2 c] 29):=(x1.below.block _ hws).trans HBX.out;have b0w1:w1.cell? ⟨w.heap.size,0,none⟩=some (.int .i64 12):=by simp [World.cell?,hbx_w1]
 have b3w1:w1.cell? ⟨w.heap.size,3,none⟩=some (.string name):=by simp [World.cell?,hbx_w1]
 have b5w1:w1.cell? ⟨w.heap.size,5,none⟩=some (.int .i64 rel):=by simp [World.cell?,hbx_w1]
 have b7w1:w1.cell? ⟨w.heap.size,7,none⟩=some (.bool all):=by simp [World.cell?,hbx_w1]
 have b8w1:w1.cell? ⟨w.heap.size,8,none⟩=some (.slice (some ad) 2 c):=by simp [World.cell?,hbx_w1]
 obtain ⟨ad',B0,m0,d0,B1,m1,d1',hA,hadb,hnd,hkt⟩:=(HAT.out.ext (HWX.out.trans X1.out)).kid 1 (by simp);obtain ⟨e0,e1,e2,e3,e4,e5,e6,e7,e8⟩:=hnd.nine;clear hnd;injection hA with hA
 subst hA;have HKT2:=Lib.hid hkt;simp only [List.getElem_cons_succ,List.getElem_cons_zero] at e0 e1 e3 e4 e5 e6 e7;clear hkt x1 hbx_w1;go_wp2_with fail;refine (IH.out g t1 (by omega) h1 _ _ HKT2.out).mono ?_;rintro e w2 ⟨v2,rfl,f2,x2⟩;have F2:=Lib.hid f2;obtain ⟨T2,u2,rfl⟩:=f2.iface;clear f2 b0w1 b3w1 b5w1 b7w1 b8w1 e0 e1 e2 e3 e4 e5 e6 e7 e8;have X2:=Lib.hid (X1.out.trans x2);have hbx_w2:w2.heap[w.heap.size]?=some (.cells #[.int .i64 12,.bool neg,.slice A0 n0 c0,.string name,.int .i64 exp,.int .i64 rel,.bool truth,.bool all,.slice (some ad) 2 c] 29):=(X2.out.below.block _ hws).trans HBX.out;have F1':=Lib.hid (F1.out.ext x2);have b0w2:w2.cell? ⟨w.heap.size,0,none⟩=some (.int .i64 12):=by simp [World.cell?,hbx_w2]
 have b3w2:w2.cell? ⟨w.heap.size,3,none⟩=some (.string name):=by simp [World.cell?,hbx_w2]
 have b5w2:w2.cell? ⟨w.heap.size,5,none⟩=some (.int .i64 rel):=by simp [World.cell?,hbx_w2]
 have b7w2:w2.cell? ⟨w.heap.size,7,none⟩=some (.bool all):=by simp [World.cell?,hbx_w2]
 have b8w2:w2.cell? ⟨w.heap.size,8,none⟩=some (.slice (some ad) 2 c):=by simp [World.cell?,hbx_w2]
 clear x2 hbx_w2;have HFIN:Hid (FmV w2 L (.or f g) (.iface 137 (.agg #[.iface T1 u1,.iface T2 u2]))):=⟨_,_,rfl,F1'.out,F2.out⟩;have HX:=Lib.hid (HWX.out.trans X2.out);go_wp2_with fail
 go_ret2
 exact ⟨_,rfl,HFIN.out,HX.out⟩
theorem zcx {L n:Nat} (ih:qam L n) {f g:Fm} (t:Tr) (hsz:(Fm.or f g).sz < n+1) (h:zx L (.or f g) t) (v:Value) (w:World) (hv:TrV w (fun _=>True) t v):Calls Tryz.prog 8 #[v] w (kaf L (.or f g) w):=by
 have H:=Lib.hid (fun w' (hx:Ext w w')=>ycx ih t hsz h v w' (hv.ext hx));have hkind:t.d.kind=12:=h.1;clear h ih hsz;obtain ⟨⟨kind,neg,ds,name,exp,rel,truth,all⟩,ks⟩:=t;simp only [Tr.d] at hkind;subst hkind;obtain ⟨A0,n0,c0,A,c,rfl,hnat,hc1,hc2,hat⟩:=hv.open_;clear hv hat hnat hc1 hc2;unfold ndV at H ⊢;simp only [Tr.d,Tr.ks] at H ⊢;go_enter Tryz.func8,Tryz.ntmps8;go_wp2_with fail;refine (H.out _ ((Ext.refl w).alloc _)).mono ?_;rintro e w1 ⟨v1,rfl,f1,x1⟩;have F1:=Lib.hid f1;have X1:=Lib.hid (((Ext.refl w).alloc _).trans x1);obtain ⟨T1,u1,rfl⟩:=f1.iface;clear f1 x1 H;go_wp2_with fail
 go_ret2
 exact ⟨_,rfl,F1.out,X1.out⟩
theorem zcp {L n:Nat} (ih:qam L n) {f g:Fm} (t:Tr) (hsz:(Fm.imp f g).sz < n+1) (h:zx L (.imp f g) t) (v:Value) (w:World) (hv:TrV w (fun _=>True) t v):Calls Tryz.prog 24 #[v] w (kaf L (.imp f g) w):=by
 have IH:=Lib.hid ih;clear ih;obtain ⟨⟨kind,neg,ds,name,exp,rel,truth,all⟩,ks⟩:=t;obtain ⟨hkind,t0,t1,hks,h0,h1⟩:=h;simp only [Tr.d] at hkind;simp only [Tr.ks] at hks;subst hkind hks;simp only [Fm.sz] at hsz;obtain ⟨A0,n0,c0,A,c,rfl,hnat,hc1,hc2,hat⟩:=hv.open_
 change ug w _ [t0,t1] A 0 at hat
 have HAT:=Lib.hid hat;clear hv hat hnat;unfold ndV;simp only [Tr.d,Tr.ks,List.length_cons,List.length_nil,Nat.zero_add,Nat.reduceAdd] at hc1 ⊢;obtain ⟨W,hW⟩:=n_m (w.alloc (.cells #[.int .i64 13,.bool neg,.slice A0 n0 c0,.string name,.int .i64 exp,.int .i64 rel,.bool truth,.bool all,.slice A 2 c] 29));have hWx:Ext w W:=by rw [<- hW]; exact (Ext.refl w).alloc _
 have hbx:W.heap[w.heap.size]?=some (.cells #[.int .i64 13,.bool neg,.slice A0 n0 c0,.string name,.int .i64 exp,.int .i64 rel,.bool truth,.bool all,.slice A 2 c] 29):=by rw [<- hW]; exact heap_alloc_new w _
 have hws:w.heap.size < W.heap.size:=by rw [<- hW]; simp
 have b0W:W.cell? ⟨w.heap.size,0,none⟩=some (.int .i64 13):=by simp [World.cell?,hbx]
 have b3W:W.cell? ⟨w.heap.size,3,none⟩=some (.string name):=by simp [World.cell?,hbx]
 have b5W:W.cell? ⟨w.heap.size,5,none⟩=some (.int .i64 rel):=by simp [World.cell?,hbx]
 have b7W:W.cell? ⟨w.heap.size,7,none⟩=some (.bool all):=by simp [World.cell?,hbx]
 have b8W:W.cell? ⟨w.heap.size,8,none⟩=some (.slice A 2 c):=by simp [World.cell?,hbx]
 obtain ⟨ad,B0,m0,d0,B1,m1,d1',hA,hadb,⟨e0,e1,e2,e3,e4,e5,e6,e7,e8⟩,hkt⟩:=(HAT.out.ext hWx).kid0 (by simp);subst hA;have HKT:=Lib.hid hkt;have HWX:=Lib.hid hWx;have HBX:=Lib.hid hbx;clear hkt hWx hbx;simp only [List.getElem_cons_zero] at e0 e1 e3 e4 e5 e6 e7;go_enter Tryz.func24,Tryz.ntmps24;go_wp2_with fail;refine (IH.out f t0 (by omega) h0 _ _ HKT.out).mono ?_;rintro e w1 ⟨v1,rfl,f1,x1⟩;have F1:=Lib.hid f1;obtain ⟨T1,u1,rfl⟩:=f1.iface;clear f1 b0W b3W b5W b7W b8W e0 e1 e2 e3 e4 e5 e6 e7 e8;have X1:=Lib.hid x1;have hbx_w1:w1.heap[w.heap.size]?=some (.cells #[.int .i64 13,.bool neg,.slice A0 n0 c0,.string name,.int .i64 exp,.int .i64 rel,.bool truth,.bool all,.slice (some ad) 2 c] 29):=(x1.below.block _ hws).trans HBX.out;have b0w1:w1.cell? ⟨w.heap.size,0,none⟩=some (.int .i64 13):=by simp [World.cell?,hbx_w1]
 have b3w1:w1.cell? ⟨w.heap.size,3,none⟩=some (.string name):=by simp [World.cell?,hbx_w1]
 have b5w1:w1.cell? ⟨w.heap.size,5,none⟩=some (.int .i64 rel):=by simp [World.cell?,hbx_w1]
 have b7w1:w1.cell? ⟨w.heap.size,7,none⟩=some (.bool all):=by simp [World.cell?,hbx_w1]
 have b8w1:w1.cell? ⟨w.heap.size,8,none⟩=some (.slice (some ad) 2 c):=by simp [World.cell?,hbx_w1]
 obtain ⟨ad',B0,m0,d0,B1,m1,d1',hA,hadb,hnd,hkt⟩:=(HAT.out.ext (HWX.out.trans X1.out)).kid 1 (by simp);obtain ⟨e0,e1,e2,e3,e4,e5,e6,e7,e8⟩:=hnd.nine;clear hnd;injection hA with hA
 subst hA;have HKT2:=Lib.hid hkt;simp only [List.getElem_cons_succ,List.getElem_cons_zero] at e0 e1 e3 e4 e5 e6 e7;clear hkt x1 hbx_w1;go_wp2_with fail;refine (IH.out g t1 (by omega) h1 _ _ HKT2.out).mono ?_;rintro e w2 ⟨v2,rfl,f2,x2⟩;have F2:=Lib.hid f2;obtain ⟨T2,u2,rfl⟩:=f2.iface;clear f2 b0w1 b3w1 b5w1 b7w1 b8w1 e0 e1 e2 e3 e4 e5 e6 e7 e8;have X2:=Lib.hid (X1.out.trans x2);have hbx_w2:w2.heap[w.heap.size]?=some (.cells #[.int .i64 13,.bool neg,.slice A0 n0 c0,.string name,.int .i64 exp,.int .i64 rel,.bool truth,.bool all,.slice (some ad) 2 c] 29):=(X2.out.below.block _ hws).trans HBX.out;have F1':=Lib.hid (F1.out.ext x2);have b0w2:w2.cell? ⟨w.heap.size,0,none⟩=some (.int .i64 13):=by simp [World.cell?,hbx_w2]
 have b3w2:w2.cell? ⟨w.heap.size,3,none⟩=some (.string name):=by simp [World.cell?,hbx_w2]
 have b5w2:w2.cell? ⟨w.heap.size,5,none⟩=some (.int .i64 rel):=by simp [World.cell?,hbx_w2]
 have b7w2:w2.cell? ⟨w.heap.size,7,none⟩=some (.bool all):=by simp [World.cell?,hbx_w2]
 have b8w2:w2.cell? ⟨w.heap.size,8,none⟩=some (.slice (some ad) 2 c):=by simp [World.cell?,hbx_w2]
 clear x2 hbx_w2;have HFIN:Hid (FmV w2 L (.imp f g) (.iface 138 (.agg #[.iface T1 u1,.iface T2 u2]))):=⟨_,_,rfl,F1'.out,F2.out⟩;have HX:=Lib.hid (HWX.out.trans X2.out);go_wp2_with fail
 go_ret2
 exact ⟨_,rfl,HFIN.out,HX.out⟩
theorem vco {L n:Nat} (ih:qam L n) {f g:Fm} (t:Tr) (hsz:(Fm.imp f g).sz < n+1) (h:zx L (.imp f g) t) (v:Value) (w:World) (hv:TrV w (fun _=>True) t v):Calls Tryz.prog 8 #[v] w (kaf L (.imp f g) w):=by
 have H:=Lib.hid (fun w' (hx:Ext w w')=>zcp ih t hsz h v w' (hv.ext hx));have hkind:t.d.kind=13:=h.1;clear h ih hsz;obtain ⟨⟨kind,neg,ds,name,exp,rel,truth,all⟩,ks⟩:=t;simp only [Tr.d] at hkind;subst hkind;obtain ⟨A0,n0,c0,A,c,rfl,hnat,hc1,hc2,hat⟩:=hv.open_;clear hv hat hnat hc1 hc2;unfold ndV at H ⊢;simp only [Tr.d,Tr.ks] at H ⊢;go_enter Tryz.func8,Tryz.ntmps8;go_wp2_with fail;refine (H.out _ ((Ext.refl w).alloc _)).mono ?_;rintro e w1 ⟨v1,rfl,f1,x1⟩;have F1:=Lib.hid f1;have X1:=Lib.hid (((Ext.refl w).alloc _).trans x1);obtain ⟨T1,u1,rfl⟩:=f1.iface;clear f1 x1 H;go_wp2_with fail
 go_ret2
 exact ⟨_,rfl,F1.out,X1.out⟩
theorem ycp {L n:Nat} (ih:qam L n) {f g:Fm} (t:Tr) (hsz:(Fm.iff f g).sz < n+1) (h:zx L (.iff f g) t) (v:Value) (w:World) (hv:TrV w (fun _=>True) t v):Calls Tryz.prog 24 #[v] w (kaf L (.iff f g) w):=by
 have IH:=Lib.hid ih;clear ih;obtain ⟨⟨kind,neg,ds,name,exp,rel,truth,all⟩,ks⟩:=t;obtain ⟨hkind,t0,t1,hks,h0,h1⟩:=h;simp only [Tr.d] at hkind;simp only [Tr.ks] at hks;subst hkind hks;simp only [Fm.sz] at hsz;obtain ⟨A0,n0,c0,A,c,rfl,hnat,hc1,hc2,hat⟩:=hv.open_
 change ug w _ [t0,t1] A 0 at hat
 have HAT:=Lib.hid hat;clear hv hat hnat;unfold ndV;simp only [Tr.d,Tr.ks,List.length_cons,List.length_nil,Nat.zero_add,Nat.reduceAdd] at hc1 ⊢;obtain ⟨W,hW⟩:=n_m (w.alloc (.cells #[.int .i64 14,.bool neg,.slice A0 n0 c0,.string name,.int .i64 exp,.int .i64 rel,.bool truth,.bool all,.slice A 2 c] 29));have hWx:Ext w W:=by rw [<- hW]; exact (Ext.refl w).alloc _
 have hbx:W.heap[w.heap.size]?=some (.cells #[.int .i64 14,.bool neg,.slice A0 n0 c0,.string name,.int .i64 exp,.int .i64 rel,.bool truth,.bool all,.slice A 2 c] 29):=by rw [<- hW]; exact heap_alloc_new w _
 have hws:w.heap.size < W.heap.size:=by rw [<- hW]; simp
 have b0W:W.cell? ⟨w.heap.size,0,none⟩=some (.int .i64 14):=by simp [World.cell?,hbx]
 have b3W:W.cell? ⟨w.heap.size,3,none⟩=some (.string name):=by simp [World.cell?,hbx]
 have b5W:W.cell? ⟨w.heap.size,5,none⟩=some (.int .i64 rel):=by simp [World.cell?,hbx]
 have b7W:W.cell? ⟨w.heap.size,7,none⟩=some (.bool all):=by simp [World.cell?,hbx]
 have b8W:W.cell? ⟨w.heap.size,8,none⟩=some (.slice A 2 c):=by simp [World.cell?,hbx]
 obtain ⟨ad,B0,m0,d0,B1,m1,d1',hA,hadb,⟨e0,e1,e2,e3,e4,e5,e6,e7,e8⟩,hkt⟩:=(HAT.out.ext hWx).kid0 (by simp);subst hA;have HKT:=Lib.hid hkt;have HWX:=Lib.hid hWx;have HBX:=Lib.hid hbx;clear hkt hWx hbx;simp only [List.getElem_cons_zero] at e0 e1 e3 e4 e5 e6 e7;go_enter Tryz.func24,Tryz.ntmps24;go_wp2_with fail;refine (IH.out f t0 (by omega) h0 _ _ HKT.out).mono ?_;rintro e w1 ⟨v1,rfl,f1,x1⟩;have F1:=Lib.hid f1;obtain ⟨T1,u1,rfl⟩:=f1.iface;clear f1 b0W b3W b5W b7W b8W e0 e1 e2 e3 e4 e5 e6 e7 e8;have X1:=Lib.hid x1;have hbx_w1:w1.heap[w.heap.size]?=some (.cells #[.int .i64 14,.bool neg,.slice A0 n0 c0,.string name,.int .i64 exp,.int .i64 rel,.bool truth,.bool all,.slice (some ad) 2 c] 29):=(x1.below.block _ hws).trans HBX.out;have b0w1:w1.cell? ⟨w.heap.size,0,none⟩=some (.int .i64 14):=by simp [World.cell?,hbx_w1]
 have b3w1:w1.cell? ⟨w.heap.size,3,none⟩=some (.string name):=by simp [World.cell?,hbx_w1]
 have b5w1:w1.cell? ⟨w.heap.size,5,none⟩=some (.int .i64 rel):=by simp [World.cell?,hbx_w1]
 have b7w1:w1.cell? ⟨w.heap.size,7,none⟩=some (.bool all):=by simp [World.cell?,hbx_w1]
 have b8w1:w1.cell? ⟨w.heap.size,8,none⟩=some (.slice (some ad) 2 c):=by simp [World.cell?,hbx_w1]
 obtain ⟨ad',B0,m0,d0,B1,m1,d1',hA,hadb,hnd,hkt⟩:=(HAT.out.ext (HWX.out.trans X1.out)).kid 1 (by simp);obtain ⟨e0,e1,e2,e3,e4,e5,e6,e7,e8⟩:=hnd.nine;clear hnd;injection hA with hA
 subst hA;have HKT2:=Lib.hid hkt;simp only [List.getElem_cons_succ,List.getElem_cons_zero] at e0 e1 e3 e4 e5 e6 e7;clear hkt x1 hbx_w1;go_wp2_with fail;refine (IH.out g t1 (by omega) h1 _ _ HKT2.out).mono ?_;rintro e w2 ⟨v2,rfl,f2,x2⟩;have F2:=Lib.hid f2;obtain ⟨T2,u2,rfl⟩:=f2.iface;clear f2 b0w1 b3w1 b5w1 b7w1 b8w1 e0 e1 e2 e3 e4 e5 e6 e7 e8;have X2:=Lib.hid (X1.out.trans x2);have hbx_w2:w2.heap[w.heap.size]?=some (.cells #[.int .i64 14,.bool neg,.slice A0 n0 c0,.string name,.int .i64 exp,.int .i64 rel,.bool truth,.bool all,.slice (some ad) 2 c] 29):=(X2.out.below.block _ hws).trans HBX.out;have F1':=Lib.hid (F1.out.ext x2);have b0w2:w2.cell? ⟨w.heap.size,0,none⟩=some (.int .i64 14):=by simp [World.cell?,hbx_w2]
 have b3w2:w2.cell? ⟨w.heap.size,3,none⟩=some (.string name):=by simp [World.cell?,hbx_w2]
 have b5w2:w2.cell? ⟨w.heap.size,5,none⟩=some (.int .i64 rel):=by simp [World.cell?,hbx_w2]
 have b7w2:w2.cell? ⟨w.heap.size,7,none⟩=some (.bool all):=by simp [World.cell?,hbx_w2]
 have b8w2:w2.cell? ⟨w.heap.size,8,none⟩=some (.slice (some ad) 2 c):=by simp [World.cell?,hbx_w2]
 clear x2 hbx_w2;have HFIN:Hid (FmV w2 L (.iff f g) (.iface 139 (.agg #[.iface T1 u1,.iface T2 u2]))):=⟨_,_,rfl,F1'.out,F2.out⟩;have HX:=Lib.hid (HWX.out.trans X2.out);go_wp2_with fail
 go_ret2
 exact ⟨_,rfl,HFIN.out,HX.out⟩
theorem uco {L n:Nat} (ih:qam L n) {f g:Fm} (t:Tr) (hsz:(Fm.iff f g).sz < n+1) (h:zx L (.iff f g) t) (v:Value) (w:World) (hv:TrV w (fun _=>True) t v):Calls Tryz.prog 8 #[v] w (kaf L (.iff f g) w):=by
 have H:=Lib.hid (fun w' (hx:Ext w w')=>ycp ih t hsz h v w' (hv.ext hx));have hkind:t.d.kind=14:=h.1;clear h ih hsz;obtain ⟨⟨kind,neg,ds,name,exp,rel,truth,all⟩,ks⟩:=t;simp only [Tr.d] at hkind;subst hkind;obtain ⟨A0,n0,c0,A,c,rfl,hnat,hc1,hc2,hat⟩:=hv.open_;clear hv hat hnat hc1 hc2;unfold ndV at H ⊢;simp only [Tr.d,Tr.ks] at H ⊢;go_enter Tryz.func8,Tryz.ntmps8;go_wp2_with fail;refine (H.out _ ((Ext.refl w).alloc _)).mono ?_;rintro e w1 ⟨v1,rfl,f1,x1⟩;have F1:=Lib.hid f1;have X1:=Lib.hid (((Ext.refl w).alloc _).trans x1);obtain ⟨T1,u1,rfl⟩:=f1.iface;clear f1 x1 H;go_wp2_with fail
 go_ret2
 exact ⟨_,rfl,F1.out,X1.out⟩
theorem wco {L n:Nat} (ih:qam L n) {f:Fm} (t:Tr) (hsz:(Fm.not f).sz < n+1) (h:zx L (.not f) t) (v:Value) (w:World) (hv:TrV w (fun _=>True) t v):Calls Tryz.prog 23 #[v] w (kaf L (.not f) w):=by
 have IH:=Lib.hid ih;clear ih;obtain ⟨⟨kind,neg,ds,name,exp,rel,truth,all⟩,ks⟩:=t;obtain ⟨hkind,t0,hks,h0⟩:=h;simp only [Tr.d] at hkind;simp only [Tr.ks] at hks;subst hkind hks;simp only [Fm.sz] at hsz;obtain ⟨A0,n0,c0,A,c,rfl,hnat,hc1,hc2,hat⟩:=hv.open_
 change ug w _ [t0] A 0 at hat
 have HAT:=Lib.hid hat;clear hv hat hnat;unfold ndV;simp only [Tr.d,Tr.ks,List.length_cons,List.length_nil,Nat.zero_add,Nat.reduceAdd] at hc1 ⊢;obtain ⟨W,hW⟩:=n_m (w.alloc (.cells #[.int .i64 10,.bool neg,.slice A0 n0 c0,.string name,.int .i64 exp,.int .i64 rel,.bool truth,.bool all,.slice A 1 c] 29));have hWx:Ext w W:=by rw [<- hW]; exact (Ext.refl w).alloc _
 have hbx:W.heap[w.heap.size]?=some (.cells #[.int .i64 10,.bool neg,.slice A0 n0 c0,.string name,.int .i64 exp,.int .i64 rel,.bool truth,.bool all,.slice A 1 c] 29):=by rw [<- hW]; exact heap_alloc_new w _
 have hws:w.heap.size < W.heap.size:=by rw [<- hW]; simp
 have b0W:W.cell? ⟨w.heap.size,0,none⟩=some (.int .i64 10):=by simp [World.cell?,hbx]
 have b3W:W.cell? ⟨w.heap.size,3,none⟩=some (.string name):=by simp [World.cell?,hbx]
 have b5W:W.cell? ⟨w.heap.size,5,none⟩=some (.int .i64 rel):=by simp [World.cell?,hbx]
 have b7W:W.cell? ⟨w.heap.size,7,none⟩=some (.bool all):=by simp [World.cell?,hbx]
 have b8W:W.cell? ⟨w.heap.size,8,none⟩=some (.slice A 1 c):=by simp [World.cell?,hbx]
 obtain ⟨ad,B0,m0,d0,B1,m1,d1',hA,hadb,⟨e0,e1,e2,e3,e4,e5,e6,e7,e8⟩,hkt⟩:=(HAT.out.ext hWx).kid0 (by simp);subst hA;have HKT:=Lib.hid hkt;have HWX:=Lib.hid hWx;have HBX:=Lib.hid hbx;clear hkt hWx hbx;simp only [List.getElem_cons_zero] at e0 e1 e3 e4 e5 e6 e7;go_enter Tryz.func23,Tryz.ntmps23;go_wp2_with fail;refine (IH.out f t0 (by omega) h0 _ _ HKT.out).mono ?_;rintro e w1 ⟨v1,rfl,f1,x1⟩;have F1:=Lib.hid f1;obtain ⟨T1,u1,rfl⟩:=f1.iface;clear f1 b0W b3W b5W b7W b8W e0 e1 e2 e3 e4 e5 e6 e7 e8;have X1:=Lib.hid x1;have hbx_w1:w1.heap[w.heap.size]?=some (.cells #[.int .i64 10,.bool neg,.slice A0 n0 c0,.string name,.int .i64 exp,.int .i64 rel,.bool truth,.bool all,.slice (some ad) 1 c] 29):=(x1.below.block _ hws).trans HBX.out;have b0w1:w1.cell? ⟨w.heap.size,0,none⟩=some (.int .i64 10):=by simp [World.cell?,hbx_w1]
 have b3w1:w1.cell? ⟨w.heap.size,3,none⟩=some (.string name):=by simp [World.cell?,hbx_w1]
 have b5w1:w1.cell? ⟨w.heap.size,5,none⟩=some (.int .i64 rel):=by simp [World.cell?,hbx_w1]
 have b7w1:w1.cell? ⟨w.heap.size,7,none⟩=some (.bool all):=by simp [World.cell?,hbx_w1]
 have b8w1:w1.cell? ⟨w.heap.size,8,none⟩=some (.slice (some ad) 1 c):=by simp [World.cell?,hbx_w1]
 clear x1 hbx_w1;have HFIN:Hid (FmV w1 L (.not f) (.iface 134 (.agg #[.iface T1 u1]))):=⟨_,rfl,F1.out⟩;have HX:=Lib.hid (HWX.out.trans X1.out);go_wp2_with fail
 go_ret2
 exact ⟨_,rfl,HFIN.out,HX.out⟩
theorem kco {L n:Nat} (ih:qam L n) {f:Fm} (t:Tr) (hsz:(Fm.not f).sz < n+1) (h:zx L (.not f) t) (v:Value) (w:World) (hv:TrV w (fun _=>True) t v):Calls Tryz.prog 8 #[v] w (kaf L (.not f) w):=by
 have H:=Lib.hid (fun w' (hx:Ext w w')=>wco ih t hsz h v w' (hv.ext hx));have hkind:t.d.kind=10:=h.1;clear h ih hsz;obtain ⟨⟨kind,neg,ds,name,exp,rel,truth,all⟩,ks⟩:=t;simp only [Tr.d] at hkind;subst hkind;obtain ⟨A0,n0,c0,A,c,rfl,hnat,hc1,hc2,hat⟩:=hv.open_;clear hv hat hnat hc1 hc2;unfold ndV at H ⊢;simp only [Tr.d,Tr.ks] at H ⊢;go_enter Tryz.func8,Tryz.ntmps8;go_wp2_with fail;refine (H.out _ ((Ext.refl w).alloc _)).mono ?_;rintro e w1 ⟨v1,rfl,f1,x1⟩;have F1:=Lib.hid f1;have X1:=Lib.hid (((Ext.refl w).alloc _).trans x1);obtain ⟨T1,u1,rfl⟩:=f1.iface;clear f1 x1 H;go_wp2_with fail
 go_ret2
 exact ⟨_,rfl,F1.out,X1.out⟩
theorem qb5 {L n:Nat} (ih:qam L n) {al:Bool} {q:ByteArray} {f:Fm} (t:Tr) (hsz:(Fm.quant al q f).sz < n+1) (h:zx L (.quant al q f) t) (v:Value) (w:World) (hv:TrV w (fun _=>True) t v):Calls Tryz.prog 23 #[v] w (kaf L (.quant al q f) w):=by
 have IH:=Lib.hid ih;clear ih;obtain ⟨⟨kind,neg,ds,name,exp,rel,truth,all⟩,ks⟩:=t;obtain ⟨hkind,hall,hname,t0,hks,h0⟩:=h;simp only [Tr.d] at hall hname;subst hall hname;simp only [Tr.d] at hkind;simp only [Tr.ks] at hks;subst hkind hks;simp only [Fm.sz] at hsz;obtain ⟨A0,n0,c0,A,c,rfl,hnat,hc1,hc2,hat⟩:=hv.open_
 change ug w _ [t0] A 0 at hat
 have HAT:=Lib.hid hat;clear hv hat hnat;unfold ndV;simp only [Tr.d,Tr.ks,List.length_cons,List.length_nil,Nat.zero_add,Nat.reduceAdd] at hc1 ⊢;obtain ⟨W,hW⟩:=n_m (w.alloc (.cells #[.int .i64 15,.bool neg,.slice A0 n0 c0,.string name,.int .i64 exp,.int .i64 rel,.bool truth,.bool all,.slice A 1 c] 29));have hWx:Ext w W:=by rw [<- hW]; exact (Ext.refl w).alloc _
 have hbx:W.heap[w.heap.size]?=some (.cells #[.int .i64 15,.bool neg,.slice A0 n0 c0,.string name,.int .i64 exp,.int .i64 rel,.bool truth,.bool all,.slice A 1 c] 29):=by rw [<- hW]; exact heap_alloc_new w _
 have hws:w.heap.size < W.heap.size:=by rw [<- hW]; simp
 have b0W:W.cell? ⟨w.heap.size,0,none⟩=some (.int .i64 15):=by simp [World.cell?,hbx]
 have b3W:W.cell? ⟨w.heap.size,3,none⟩=some (.string name):=by simp [World.cell?,hbx]
 have b5W:W.cell? ⟨w.heap.size,5,none⟩=some (.int .i64 rel):=by simp [World.cell?,hbx]
 have b7W:W.cell? ⟨w.heap.size,7,none⟩=some (.bool all):=by simp [World.cell?,hbx]
 have b8W:W.cell? ⟨w.heap.size,8,none⟩=some (.slice A 1 c):=by simp [World.cell?,hbx]
 obtain ⟨ad,B0,m0,d0,B1,m1,d1',hA,hadb,⟨e0,e1,e2,e3,e4,e5,e6,e7,e8⟩,hkt⟩:=(HAT.out.ext hWx).kid0 (by simp);subst hA;have HKT:=Lib.hid hkt;have HWX:=Lib.hid hWx;have HBX:=Lib.hid hbx;clear hkt hWx hbx;simp only [List.getElem_cons_zero] at e0 e1 e3 e4 e5 e6 e7;go_enter Tryz.func23,Tryz.ntmps23;go_wp2_with fail;refine (IH.out f t0 (by omega) h0 _ _ HKT.out).mono ?_;rintro e w1 ⟨v1,rfl,f1,x1⟩;have F1:=Lib.hid f1;obtain ⟨T1,u1,rfl⟩:=f1.iface;clear f1 b0W b3W b5W b7W b8W e0 e1 e2 e3 e4 e5 e6 e7 e8;have X1:=Lib.hid x1;have hbx_w1:w1.heap[w.heap.size]?=some (.cells #[.int .i64 15,.bool neg,.slice A0 n0 c0,.string name,.int .i64 exp,.int .i64 rel,.bool truth,.bool all,.slice (some ad) 1 c] 29):=(x1.below.block _ hws).trans HBX.out;have b0w1:w1.cell? ⟨w.heap.size,0,none⟩=some (.int .i64 15):=by simp [World.cell?,hbx_w1]
 have b3w1:w1.cell? ⟨w.heap.size,3,none⟩=some (.string name):=by simp [World.cell?,hbx_w1]
 have b5w1:w1.cell? ⟨w.heap.size,5,none⟩=some (.int .i64 rel):=by simp [World.cell?,hbx_w1]
 have b7w1:w1.cell? ⟨w.heap.size,7,none⟩=some (.bool all):=by simp [World.cell?,hbx_w1]
 have b8w1:w1.cell? ⟨w.heap.size,8,none⟩=some (.slice (some ad) 1 c):=by simp [World.cell?,hbx_w1]
 clear x1 hbx_w1;have HFIN:Hid (FmV w1 L (.quant all name f) (.iface 79 (.agg #[.bool all,.string name,.iface T1 u1]))):=⟨_,rfl,F1.out⟩;have HX:=Lib.hid (HWX.out.trans X1.out);go_wp2_with fail
 go_ret2
 exact ⟨_,rfl,HFIN.out,HX.out⟩
theorem xb5 {L n:Nat} (ih:qam L n) {al:Bool} {q:ByteArray} {f:Fm} (t:Tr) (hsz:(Fm.quant al q f).sz < n+1) (h:zx L (.quant al q f) t) (v:Value) (w:World) (hv:TrV w (fun _=>True) t v):Calls Tryz.prog 8 #[v] w (kaf L (.quant al q f) w):=by
 have H:=Lib.hid (fun w' (hx:Ext w w')=>qb5 ih t hsz h v w' (hv.ext hx));have hkind:t.d.kind=15:=h.1;clear h ih hsz;obtain ⟨⟨kind,neg,ds,name,exp,rel,truth,all⟩,ks⟩:=t;simp only [Tr.d] at hkind;subst hkind;obtain ⟨A0,n0,c0,A,c,rfl,hnat,hc1,hc2,hat⟩:=hv.open_;clear hv hat hnat hc1 hc2;unfold ndV at H ⊢;simp only [Tr.d,Tr.ks] at H ⊢;go_enter Tryz.func8,Tryz.ntmps8;go_wp2_with fail;refine (H.out _ ((Ext.refl w).alloc _)).mono ?_;rintro e w1 ⟨v1,rfl,f1,x1⟩;have F1:=Lib.hid f1;have X1:=Lib.hid (((Ext.refl w).alloc _).trans x1);obtain ⟨T1,u1,rfl⟩:=f1.iface;clear f1 x1 H;go_wp2_with fail
 go_ret2
 exact ⟨_,rfl,F1.out,X1.out⟩
theorem jcf {L n:Nat} (hL:L<=35184372088000) (ih:qam L n) {l k:Tm} {rr:Int} (t:Tr) (hsz:(Fm.atom l rr k).sz < n+1) (h:zx L (.atom l rr k) t) (v:Value) (w:World) (hv:TrV w (fun _=>True) t v):Calls Tryz.prog 22 #[v] w (kaf L (.atom l rr k) w):=by
 have IH:=Lib.hid ih;clear ih;obtain ⟨⟨kind,neg,ds,name,exp,rel,truth,all⟩,ks⟩:=t;obtain ⟨hkind,hrel,hr1,hr6,t0,t1,hks,h0,h1⟩:=h;simp only [Tr.d] at hrel;subst hrel;have d1:decide (rel < 1)=false:=by simp; omega
 have d6:decide (6 < rel)=false:=by simp; omega
 simp only [Tr.d] at hkind;simp only [Tr.ks] at hks;subst hkind hks;simp only [Fm.sz] at hsz;obtain ⟨A0,n0,c0,A,c,rfl,hnat,hc1,hc2,hat⟩:=hv.open_
 change ug w _ [t0,t1] A 0 at hat
 have HAT:=Lib.hid hat;clear hv hat hnat;unfold ndV;simp only [Tr.d,Tr.ks,List.length_cons,List.length_nil,Nat.zero_add,Nat.reduceAdd] at hc1 ⊢;obtain ⟨W,hW⟩:=n_m (w.alloc (.cells #[.int .i64 9,.bool neg,.slice A0 n0 c0,.string name,.int .i64 exp,.int .i64 rel,.bool truth,.bool all,.slice A 2 c] 29));have hWx:Ext w W:=by rw [<- hW]; exact (Ext.refl w).alloc _
 have hbx:W.heap[w.heap.size]?=some (.cells #[.int .i64 9,.bool neg,.slice A0 n0 c0,.string name,.int .i64 exp,.int .i64 rel,.bool truth,.bool all,.slice A 2 c] 29):=by rw [<- hW]; exact heap_alloc_new w _
 have hws:w.heap.size < W.heap.size:=by rw [<- hW]; simp
 have b0W:W.cell? ⟨w.heap.size,0,none⟩=some (.int .i64 9):=by simp [World.cell?,hbx]
 have b3W:W.cell? ⟨w.heap.size,3,none⟩=some (.string name):=by simp [World.cell?,hbx]
 have b5W:W.cell? ⟨w.heap.size,5,none⟩=some (.int .i64 rel):=by simp [World.cell?,hbx]
 have b7W:W.cell? ⟨w.heap.size,7,none⟩=some (.bool all):=by simp [World.cell?,hbx]
 have b8W:W.cell? ⟨w.heap.size,8,none⟩=some (.slice A 2 c):=by simp [World.cell?,hbx]
 obtain ⟨ad,B0,m0,d0,B1,m1,d1',hA,hadb,⟨e0,e1,e2,e3,e4,e5,e6,e7,e8⟩,hkt⟩:=(HAT.out.ext hWx).kid0 (by simp);subst hA;have HKT:=Lib.hid hkt;have HWX:=Lib.hid hWx;have HBX:=Lib.hid hbx;clear hkt hWx hbx;simp only [List.getElem_cons_zero] at e0 e1 e3 e4 e5 e6 e7;go_enter Tryz.func22,Tryz.ntmps22;go_wp2_with fail;refine (za8 hL l t0 h0 _ _ HKT.out).mono ?_;rintro e w1 ⟨v1,rfl,f1,x1⟩;have F1:=Lib.hid f1;obtain ⟨T1,u1,rfl⟩:=f1.iface;clear f1 b0W b3W b5W b7W b8W e0 e1 e2 e3 e4 e5 e6 e7 e8;have X1:=Lib.hid x1;have hbx_w1:w1.heap[w.heap.size]?=some (.cells #[.int .i64 9,.bool neg,.slice A0 n0 c0,.string name,.int .i64 exp,.int .i64 rel,.bool truth,.bool all,.slice (some ad) 2 c] 29):=(x1.below.block _ hws).trans HBX.out;have b0w1:w1.cell? ⟨w.heap.size,0,none⟩=some (.int .i64 9):=by simp [World.cell?,hbx_w1]
 have b3w1:w1.cell? ⟨w.heap.size,3,none⟩=some (.string name):=by simp [World.cell?,hbx_w1]
 have b5w1:w1.cell? ⟨w.heap.size,5,none⟩=some (.int .i64 rel):=by simp [World.cell?,hbx_w1]
 have b7w1:w1.cell? ⟨w.heap.size,7,none⟩=some (.bool all):=by simp [World.cell?,hbx_w1]
 have b8w1:w1.cell? ⟨w.heap.size,8,none⟩=some (.slice (some ad) 2 c):=by simp [World.cell?,hbx_w1]
 obtain ⟨ad',B0,m0,d0,B1,m1,d1',hA,hadb,hnd,hkt⟩:=(HAT.out.ext (HWX.out.trans X1.out)).kid 1 (by simp);obtain ⟨e0,e1,e2,e3,e4,e5,e6,e7,e8⟩:=hnd.nine;clear hnd;injection hA with hA
 subst hA;have HKT2:=Lib.hid hkt;simp only [List.getElem_cons_succ,List.getElem_cons_zero] at e0 e1 e3 e4 e5 e6 e7;clear hkt x1 hbx_w1;go_wp2_with fail;refine (za8 hL k t1 h1 _ _ HKT2.out).mono ?_;rintro e w2 ⟨v2,rfl,f2,x2⟩;have F2:=Lib.hid f2;obtain ⟨T2,u2,rfl⟩:=f2.iface;clear f2 b0w1 b3w1 b5w1 b7w1 b8w1 e0 e1 e2 e3 e4 e5 e6 e7 e8;have X2:=Lib.hid (X1.out.trans x2);have hbx_w2:w2.heap[w.heap.size]?=some (.cells #[.int .i64 9,.bool neg,.slice A0 n0 c0,.string name,.int .i64 exp,.int .i64 rel,.bool truth,.bool all,.slice (some ad) 2 c] 29):=(X2.out.below.block _ hws).trans HBX.out;have F1':=Lib.hid (F1.out.ext x2);have b0w2:w2.cell? ⟨w.heap.size,0,none⟩=some (.int .i64 9):=by simp [World.cell?,hbx_w2]
 have b3w2:w2.cell? ⟨w.heap.size,3,none⟩=some (.string name):=by simp [World.cell?,hbx_w2]
 have b5w2:w2.cell? ⟨w.heap.size,5,none⟩=some (.int .i64 rel):=by simp [World.cell?,hbx_w2]
 have b7w2:w2.cell? ⟨w.heap.size,7,none⟩=some (.bool all):=by simp [World.cell?,hbx_w2]
 have b8w2:w2.cell? ⟨w.heap.size,8,none⟩=some (.slice (some ad) 2 c):=by simp [World.cell?,hbx_w2]
 clear x2 hbx_w2;have HFIN:Hid (FmV w2 L (.atom l rel k) (.iface 77 (.agg #[.iface T1 u1,.int .i64 rel,.iface T2 u2]))):=⟨_,_,rfl,F1'.out,F2.out⟩;have HX:=Lib.hid (HWX.out.trans X2.out);go_wp2_with fail
 go_ret2
 exact ⟨_,rfl,HFIN.out,HX.out⟩
theorem qcf {L n:Nat} (hL:L<=35184372088000) (ih:qam L n) {l k:Tm} {rr:Int} (t:Tr) (hsz:(Fm.atom l rr k).sz < n+1) (h:zx L (.atom l rr k) t) (v:Value) (w:World) (hv:TrV w (fun _=>True) t v):Calls Tryz.prog 8 #[v] w (kaf L (.atom l rr k) w):=by
 have H:=Lib.hid (fun w' (hx:Ext w w')=>jcf hL ih t hsz h v w' (hv.ext hx));have hkind:t.d.kind=9:=h.1;clear h ih hsz;obtain ⟨⟨kind,neg,ds,name,exp,rel,truth,all⟩,ks⟩:=t;simp only [Tr.d] at hkind;subst hkind;obtain ⟨A0,n0,c0,A,c,rfl,hnat,hc1,hc2,hat⟩:=hv.open_;clear hv hat hnat hc1 hc2;unfold ndV at H ⊢;simp only [Tr.d,Tr.ks] at H ⊢;go_enter Tryz.func8,Tryz.ntmps8;go_wp2_with fail;refine (H.out _ ((Ext.refl w).alloc _)).mono ?_;rintro e w1 ⟨v1,rfl,f1,x1⟩;have F1:=Lib.hid f1;have X1:=Lib.hid (((Ext.refl w).alloc _).trans x1);obtain ⟨T1,u1,rfl⟩:=f1.iface;clear f1 x1 H;go_wp2_with fail
 go_ret2
 exact ⟨_,rfl,F1.out,X1.out⟩
theorem yb5 {L:Nat} {b:Bool} (t:Tr) (h:zx L (.truth b) t) (v:Value) (w:World) (hv:TrV w (fun _=>True) t v):Calls Tryz.prog 8 #[v] w (kaf L (.truth b) w):=by
 obtain ⟨⟨kind,neg,ds,name,exp,rel,truth,all⟩,ks⟩:=t;obtain ⟨hkind,hks,ht⟩:=h;simp only [Tr.d] at hkind ht;simp only [Tr.ks] at hks;subst hkind hks ht;obtain ⟨A0,n0,c0,A,c,rfl,hnat,hc1,hc2,hat⟩:=hv.open_;clear hv hat hnat hc1 hc2;unfold ndV;simp only [Tr.d,Tr.ks,List.length_nil];go_enter Tryz.func8,Tryz.ntmps8;go_wp2_with fail
 go_ret2
 exact ⟨_,rfl,rfl,(Ext.refl w).alloc _⟩
theorem vc1 (L:Nat) (hL:L<=35184372088000) (n:Nat):qam L n:=by
 induction n with
 | zero=>intro m t h; omega
 | succ n ih =>
   intro m t hsz h v w hv;cases m with
   | truth b=>exact yb5 t h v w hv
   | atom l r k=>exact qcf hL ih t hsz h v w hv
   | not f=>exact kco ih t hsz h v w hv
   | and f g=>exact gco ih t hsz h v w hv
   | or f g=>exact zcx ih t hsz h v w hv
   | imp f g=>exact vco ih t hsz h v w hv
   | iff f g=>exact uco ih t hsz h v w hv
   | quant a s f=>exact xb5 ih t hsz h v w hv
theorem jcs {L:Nat} (hL:L<=35184372088000) (f:Fm) (t:Tr) (h:zx L f t) (v:Value) (w:World) {p:Nat->Prop} (hv:TrV w p t v):Calls Tryz.prog 8 #[v] w (kaf L f w):=
 vc1 L hL (f.sz+1) f t (Nat.lt_succ_self _) h v w (hv.mono fun _ _=>trivial)
end Go.Proofs.YtheefiaoimbeiaaGreatDoor

/- A tree that passes Is is the tree of a formula; kinds. -/
namespace Go.Proofs.YtheefiaoimbeiaaGreatDoor
open Go.RowKit
theorem qch (L n:Nat):∀ t:Tr,t.sz < n->t.is false=true->(∀ x ∈ t.list,x.d.ds.length<=L)->∃ f,zx L f t/\f.sz=t.sz:=by
 induction n with
 | zero=>intro t h; omega
 | succ n ih =>
   intro t hn h hl;obtain ⟨h1,h2,h3,h4⟩:=Tr.is_open h;have hs:=t.sz_ks;have hk:t.d.kind=8\/t.d.kind=9\/t.d.kind=10\/t.d.kind=11\/t.d.kind=12\/t.d.kind=13\/t.d.kind=14\/t.d.kind=15:=by
    have hnt:¬ (1<=t.d.kind/\t.d.kind<=7):=by
     unfold gad at h2;intro hc;simp [hc.1,hc.2] at h2
    have hge:0<=xab t.d.kind:=by omega
    rcases Int.lt_or_le t.d.kind 1 with hlt | hge1
    · exfalso
      have:xab t.d.kind=-1:=by unfold xab; repeat rw [if_neg (by omega)]
      omega
    · rcases Int.lt_or_le 15 t.d.kind with hgt | hle
      · exfalso
        have:xab t.d.kind=-1:=by unfold xab; repeat rw [if_neg (by omega)]
        omega
      · omega
   have two:t.ks.length=2->(∀ x ∈ t.ks,x.is false=true)->∃ x y a b,t.ks=[x,y]/\zx L a x/\zx L b y/\a.sz+b.sz+1=t.sz:=by
    intro hlen hall;obtain ⟨x,y,hxy⟩:=qbb hlen;rw [hxy] at hs hall;simp only [qw] at hs;obtain ⟨a,ha,ha2⟩:=ih x (by omega) (hall x (by simp)) (fun z hz=>hl z (uaj (by rw [hxy]; simp) hz));obtain ⟨b,hb,hb2⟩:=ih y (by omega) (hall y (by simp)) (fun z hz=>hl z (uaj (by rw [hxy]; simp) hz));exact ⟨x,y,a,b,hxy,ha,hb,by omega⟩
   have one:t.ks.length=1->(∀ x ∈ t.ks,x.is false=true)->∃ x a,t.ks=[x]/\zx L a x/\a.sz+1=t.sz:=by
    intro hlen hall;obtain ⟨x,hx⟩:=len1 hlen;rw [hx] at hs hall;simp only [qw] at hs;obtain ⟨a,ha,ha2⟩:=ih x (by omega) (hall x (by simp)) (fun z hz=>hl z (uaj (by rw [hx]; simp) hz));exact ⟨x,a,hx,ha,by omega⟩
   rcases hk with hk | hk | hk | hk | hk | hk | hk | hk
   · rw [hk] at h1;have hz:=len0 (l:=t.ks) (by simp [xab] at h1; omega);rw [hz] at hs;exact ⟨.truth t.d.truth,⟨hk,hz,rfl⟩,by simpa [qw,Fm.sz] using hs.symm⟩
   · have hr:1<=t.d.rel/\t.d.rel<=6:=by
      unfold Nd.inRange at h3;rw [if_neg (by omega),if_pos hk] at h3;simpa using h3
     rw [hk] at h1 h4;obtain ⟨x,y,hxy⟩:=qbb (l:=t.ks) (by simp [xab] at h1; omega);have h4':∀ z ∈ t.ks,z.is true=true:=by simpa [uag] using h4
     rw [hxy] at hs;simp only [qw] at hs;obtain ⟨a,ha,ha2⟩:=kcl (L:=L) x (h4' x (by rw [hxy]; simp)) (fun z hz=>hl z (uaj (by rw [hxy]; simp) hz));obtain ⟨b,hb,hb2⟩:=kcl (L:=L) y (h4' y (by rw [hxy]; simp)) (fun z hz=>hl z (uaj (by rw [hxy]; simp) hz));exact ⟨.atom a t.d.rel b,⟨hk,rfl,hr.1,hr.2,x,y,hxy,ha,hb⟩,by simp only [Fm.sz]; omega⟩
   · rw [hk] at h1 h4;obtain ⟨x,a,e,ha,hsz⟩:=one (by simp [xab] at h1; omega) (by simpa [uag] using h4);exact ⟨.not a,⟨hk,x,e,ha⟩,hsz⟩
   · rw [hk] at h1 h4;obtain ⟨x,y,a,b,e,ha,hb,hsz⟩:=two (by simp [xab] at h1; omega) (by simpa [uag] using h4);exact ⟨.and a b,⟨hk,x,y,e,ha,hb⟩,hsz⟩
   · rw [hk] at h1 h4;obtain ⟨x,y,a,b,e,ha,hb,hsz⟩:=two (by simp [xab] at h1; omega) (by simpa [uag] using h4);exact ⟨.or a b,⟨hk,x,y,e,ha,hb⟩,hsz⟩
   · rw [hk] at h1 h4;obtain ⟨x,y,a,b,e,ha,hb,hsz⟩:=two (by simp [xab] at h1; omega) (by simpa [uag] using h4);exact ⟨.imp a b,⟨hk,x,y,e,ha,hb⟩,hsz⟩
   · rw [hk] at h1 h4;obtain ⟨x,y,a,b,e,ha,hb,hsz⟩:=two (by simp [xab] at h1; omega) (by simpa [uag] using h4);exact ⟨.iff a b,⟨hk,x,y,e,ha,hb⟩,hsz⟩
   · rw [hk] at h1 h4;obtain ⟨x,a,e,ha,hsz⟩:=one (by simp [xab] at h1; omega) (by simpa [uag] using h4);exact ⟨.quant t.d.all t.d.name a,⟨hk,rfl,rfl,x,e,ha⟩,hsz⟩
theorem wc1 {L:Nat} (t:Tr) (h:t.is false=true) (hl:∀ x ∈ t.list,x.d.ds.length<=L):∃ f,zx L f t/\f.sz=t.sz:=qch L (t.sz+1) t (Nat.lt_succ_self _) h hl
theorem gbx {t x:Tr} (h:t.ks=[x]):t.list=t :: x.list:=by rw [Tr.list_ks,h]; simp [jq]
theorem xa2 {t x y:Tr} (h:t.ks=[x,y]):t.list=t :: (x.list ++ y.list):=by rw [Tr.list_ks,h]; simp [jq]
theorem jcl {t:Tr} (h:t.ks=[]):t.list=[t]:=by rw [Tr.list_ks,h]; simp [jq]
theorem xbh (L:Nat) (m:Tm):∀ t,zy L m t->∀ x ∈ t.list,1<=x.d.kind/\x.d.kind<=7:=by
 have two:∀ t x y:Tr,t.ks=[x,y]->(1<=t.d.kind/\t.d.kind<=7)->(∀ z ∈ x.list,1<=z.d.kind/\z.d.kind<=7)->(∀ z ∈ y.list,1<=z.d.kind/\z.d.kind<=7)->∀ z ∈ t.list,1<=z.d.kind/\z.d.kind<=7:=by
  intro t x y e h0 h1 h2 z hz;rw [xa2 e] at hz;rcases List.mem_cons.1 hz with rfl | hz
  · exact h0
  · rcases List.mem_append.1 hz with hz | hz
    · exact h1 z hz
    · exact h2 z hz
 have one:∀ t x:Tr,t.ks=[x]->(1<=t.d.kind/\t.d.kind<=7)->(∀ z ∈ x.list,1<=z.d.kind/\z.d.kind<=7)->∀ z ∈ t.list,1<=z.d.kind/\z.d.kind<=7:=by
  intro t x e h0 h1 z hz;rw [gbx e] at hz;rcases List.mem_cons.1 hz with rfl | hz
  · exact h0
  · exact h1 z hz
 have zero:∀ t:Tr,t.ks=[]->(1<=t.d.kind/\t.d.kind<=7)->∀ z ∈ t.list,1<=z.d.kind/\z.d.kind<=7:=by
  intro t e h0 z hz;rw [jcl e] at hz;rcases List.mem_cons.1 hz with rfl | hz
  · exact h0
  · cases hz
 induction m with
 | num z=>rintro t ⟨hk,hz,-⟩; exact zero t hz (by omega)
 | name s=>rintro t ⟨hk,hz,-⟩; exact zero t hz (by omega)
 | add a b iha ihb=>rintro t ⟨hk,x,y,e,hx,hy⟩; exact two t x y e (by omega) (iha x hx) (ihb y hy)
 | sub a b iha ihb=>rintro t ⟨hk,x,y,e,hx,hy⟩; exact two t x y e (by omega) (iha x hx) (ihb y hy)
 | mul a b iha ihb=>rintro t ⟨hk,x,y,e,hx,hy⟩; exact two t x y e (by omega) (iha x hx) (ihb y hy)
 | neg a iha=>rintro t ⟨hk,x,e,hx⟩; exact one t x e (by omega) (iha x hx)
 | pow a n iha=>rintro t ⟨hk,-,-,x,e,hx⟩; exact one t x e (by omega) (iha x hx)
theorem ubl (L : Nat) (P : Fm -> Tr -> Prop)
 (h8:∀ b t,t.d.kind=8->t.list=[t]->t.d.truth=b->P (.truth b) t)
 (h9:∀ l r k t x y,t.d.kind=9->1<=r->r<=6->zx L (.atom l r k) t->t.list=t :: (x.list ++ y.list)->zy L l x->zy L k y->P (.atom l r k) t)
 (h10:∀ f t x,t.d.kind=10->t.list=t :: x.list->P f x->P (.not f) t)
 (h11:∀ f g t x y,t.d.kind=11->t.list=t :: (x.list ++ y.list)->P f x->P g y->P (.and f g) t)
 (h12:∀ f g t x y,t.d.kind=12->t.list=t :: (x.list ++ y.list)->P f x->P g y->P (.or f g) t)
 (h13:∀ f g t x y,t.d.kind=13->t.list=t :: (x.list ++ y.list)->P f x->P g y->P (.imp f g) t)
 (h14:∀ f g t x y,t.d.kind=14->t.list=t :: (x.list ++ y.list)->P f x->P g y->P (.iff f g) t)
 (h15:∀ f t x,t.d.kind=15->t.list=t :: x.list->P f x->P (.quant t.d.all t.d.name f) t)
 (f:Fm):∀ t,zx L f t->P f t:=by
 induction f with
 | truth b=>rintro t ⟨hk,hz,hb⟩; exact h8 b t hk (jcl hz) hb
 | atom l r k =>
   intro t h;obtain ⟨hk,hr,hr1,hr2,x,y,e,hx,hy⟩:=id h;exact h9 l r k t x y hk hr1 hr2 h (xa2 e) hx hy
 | not f ih=>rintro t ⟨hk,x,e,hx⟩; exact h10 f t x hk (gbx e) (ih x hx)
 | and f g ihf ihg=>rintro t ⟨hk,x,y,e,hx,hy⟩; exact h11 f g t x y hk (xa2 e) (ihf x hx) (ihg y hy)
 | or f g ihf ihg=>rintro t ⟨hk,x,y,e,hx,hy⟩; exact h12 f g t x y hk (xa2 e) (ihf x hx) (ihg y hy)
 | imp f g ihf ihg=>rintro t ⟨hk,x,y,e,hx,hy⟩; exact h13 f g t x y hk (xa2 e) (ihf x hx) (ihg y hy)
 | iff f g ihf ihg=>rintro t ⟨hk,x,y,e,hx,hy⟩; exact h14 f g t x y hk (xa2 e) (ihf x hx) (ihg y hy)
 | quant a s f ih=>rintro t ⟨hk,ha,hs,x,e,hx⟩; subst ha hs; exact h15 f t x hk (gbx e) (ih x hx)
end Go.Proofs.YtheefiaoimbeiaaGreatDoor

/- Terms that are nil: formula.Free of an atom whose right side is nil. -/
namespace Go.Proofs.YtheefiaoimbeiaaGreatDoor
open Go.RowKit
attribute [local go_sem] xaa xy gaa zaa kaa jaa yaa yt qy qaa uaa yad qm vaa ut
theorem kac {P:Program} {T:TypeId} {z:Value} (h:za2 P T=true) (hz:(P.info? T).map (·.zero)=some (some z)) (xT:TypeId) (w:World) :
 (Instr.typeAssert .nilIface xT T true).run P w=.ok (.tuple #[z,.bool false]) w:=by
 obtain ⟨j,hj,hz'⟩:=Option.map_eq_some_iff.1 hz;unfold za2 at h
 split at h
 · rename_i fs hu;simp [Instr.typeAssert,run_underlying hu,zeroValue,typeInfo,hj,hz']
 · cases h
theorem vcx (xT:TypeId) (w:World):(Instr.typeAssert .nilIface xT 110 true).run Tryz.prog w=.ok (.tuple #[.agg #[.bool false,.slice none 0 0],.bool false]) w:=
 kac (by kernel_rfl) (by kernel_rfl) xT w
theorem jcp (xT:TypeId) (w:World):(Instr.typeAssert .nilIface xT 73 true).run Tryz.prog w=.ok (.tuple #[.agg #[.string ByteArray.empty],.bool false]) w:=
 kac (by kernel_rfl) (by kernel_rfl) xT w
theorem wcx (xT:TypeId) (w:World):(Instr.typeAssert .nilIface xT 175 true).run Tryz.prog w=.ok (.tuple #[.agg #[.nilIface,.nilIface],.bool false]) w:=
 kac (by kernel_rfl) (by kernel_rfl) xT w
theorem jcx (xT:TypeId) (w:World):(Instr.typeAssert .nilIface xT 176 true).run Tryz.prog w=.ok (.tuple #[.agg #[.nilIface,.nilIface],.bool false]) w:=
 kac (by kernel_rfl) (by kernel_rfl) xT w
theorem gcx (xT:TypeId) (w:World):(Instr.typeAssert .nilIface xT 177 true).run Tryz.prog w=.ok (.tuple #[.agg #[.nilIface,.nilIface],.bool false]) w:=
 kac (by kernel_rfl) (by kernel_rfl) xT w
theorem ucx (xT:TypeId) (w:World):(Instr.typeAssert .nilIface xT 171 true).run Tryz.prog w=.ok (.tuple #[.agg #[.nilIface],.bool false]) w:=
 kac (by kernel_rfl) (by kernel_rfl) xT w
theorem kcx (xT:TypeId) (w:World):(Instr.typeAssert .nilIface xT 173 true).run Tryz.prog w=.ok (.tuple #[.agg #[.nilIface,.int .i64 0],.bool false]) w:=
 kac (by kernel_rfl) (by kernel_rfl) xT w
attribute [local go_sem] vcx jcp wcx jcx gcx ucx kcx
section
variable {α:Type} {K:Nat} {caps:Array Value} {Ma:Nat} {J:Nat->World->(Nat->Prop)->α->Prop} {step:(ByteArray->Int)->ByteArray->α->α} {w0:World} {L:Nat}
end
end Go.Proofs.YtheefiaoimbeiaaGreatDoor

/- Layer 34: formula.visit: the subformulas, passed to a function. -/
namespace Go.Proofs.YtheefiaoimbeiaaGreatDoor
open Go.RowKit Go.Shelf
end Go.Proofs.YtheefiaoimbeiaaGreatDoor
