/- Layer 34: formula.Of: the formula of a tree. -/
import Derived.Test.YtopddaabiinboaaGreatMp20
import Derived.Test.YtopddaabiinboaaGreatMp15
import Derived.RangeFuncNested
import Derived.RangeFuncBound
import Derived.RangeFuncCalls
import Derived.RangeFuncLeaves
import Derived.Shelf.Abstract
import Derived.Shelf.RegionOpen
import Derived.OwnWalkIn
import Derived.TacticsInMore
import Derived.LoopNIn
import Derived.LoopIn
set_option linter.unusedSimpArgs false
set_option linter.unusedVariables false
set_option maxRecDepth 100000
set_option maxHeartbeats 8000000
namespace Go.Proofs.YtopddaabiinboaaGreat
open Go.RowKit
def jdb (L : Nat) : Fm -> Tr -> Prop
 | .truth b,t=>t.d.kind=8/\t.ks=[]/\t.d.truth=b
 | .atom l r k,t=>t.d.kind=9/\t.d.rel=r/\1<=r/\r<=6/\∃ x y,t.ks=[x,y]/\vda L l x/\vda L k y
 | .not f,t=>t.d.kind=10/\∃ x,t.ks=[x]/\jdb L f x
 | .and f g,t=>t.d.kind=11/\∃ x y,t.ks=[x,y]/\jdb L f x/\jdb L g y
 | .or f g,t=>t.d.kind=12/\∃ x y,t.ks=[x,y]/\jdb L f x/\jdb L g y
 | .imp f g,t=>t.d.kind=13/\∃ x y,t.ks=[x,y]/\jdb L f x/\jdb L g y
 | .iff f g,t=>t.d.kind=14/\∃ x y,t.ks=[x,y]/\jdb L f x/\jdb L g y
 | .quant a s f,t=>t.d.kind=15/\t.d.all=a/\t.d.name=s/\∃ x,t.ks=[x]/\jdb L f x
def gdf (L:Nat) (f:Fm) (w:World) (e:Ending) (w':World):Prop:=∃ v,e=.returned (.tuple #[v,.int .i64 0])/\FmV w' L f v/\Ext w w'
def vgv (L n:Nat):Prop:=∀ (f:Fm) (t:Tr),f.sz < n->jdb L f t->∀ (v:Value) (w:World),TrV w (fun _=>True) t v->Calls Tryz.prog 115 #[v] w (gdf L f w)
theorem jc6.kid0 {w:World} {p:Nat->Prop} {l:List Tr} {A:Option Addr} (h:jc6 w p l A 0) (hk:0 < l.length):∃ ad A0 n0 c0 A1 n1 c1,A=some ad/\ad.block < w.heap.size/\zgt w ad l[0].d (.slice A0 n0 c0) (.slice A1 n1 c1)/\TrV w p l[0] (ndV l[0].d (.slice A0 n0 c0) (.slice A1 n1 c1)):=by
 obtain ⟨ad,A0,n0,c0,A1,n1,c1,e,hb,h1,h2⟩:=h.kid 0 hk;exact ⟨ad,A0,n0,c0,A1,n1,c1,e,hb,h1,h2⟩
theorem zgt.nine {w:World} {ad:Addr} {d:Nd} {s A:Value} (h:zgt w (ad.add (1 * 9)) d s A):w.cell? ⟨ad.block,ad.off+9,none⟩=some (.int .i64 d.kind)/\w.cell? ⟨ad.block,ad.off+9+1,none⟩=some (.bool d.neg)/\w.cell? ⟨ad.block,ad.off+9+2,none⟩=some s/\w.cell? ⟨ad.block,ad.off+9+3,none⟩=some (.string d.name)/\w.cell? ⟨ad.block,ad.off+9+4,none⟩=some (.int .i64 d.exp)/\w.cell? ⟨ad.block,ad.off+9+5,none⟩=some (.int .i64 d.rel)/\w.cell? ⟨ad.block,ad.off+9+6,none⟩=some (.bool d.truth)/\w.cell? ⟨ad.block,ad.off+9+7,none⟩=some (.bool d.all)/\w.cell? ⟨ad.block,ad.off+9+8,none⟩=some A:=h
theorem qi1 {L n:Nat} (ih:vgv L n) {f g:Fm} (t:Tr) (hsz:(Fm.and f g).sz < n+1) (h:jdb L (.and f g) t) (v:Value) (w:World) (hv:TrV w (fun _=>True) t v):Calls Tryz.prog 161 #[v] w (gdf L (.and f g) w):=by
 have IH:=Lib.hid ih;clear ih;obtain ⟨⟨kind,neg,ds,name,exp,rel,truth,all⟩,ks⟩:=t;obtain ⟨hkind,t0,t1,hks,h0,h1⟩:=h;simp only [Tr.d] at hkind;simp only [Tr.ks] at hks;subst hkind hks;simp only [Fm.sz] at hsz;obtain ⟨A0,n0,c0,A,c,rfl,hnat,hc1,hc2,hat⟩:=hv.open_
 change jc6 w _ [t0,t1] A 0 at hat
 have HAT:=Lib.hid hat;clear hv hat hnat;unfold ndV;simp only [Tr.d,Tr.ks,List.length_cons,List.length_nil,Nat.zero_add,Nat.reduceAdd] at hc1 ⊢;obtain ⟨W,hW⟩:=n_m (w.alloc (.cells #[.int .i64 11,.bool neg,.slice A0 n0 c0,.string name,.int .i64 exp,.int .i64 rel,.bool truth,.bool all,.slice A 2 c] 194));have hWx:Ext w W:=by rw [<- hW]; exact (Ext.refl w).alloc _
 have hbx:W.heap[w.heap.size]?=some (.cells #[.int .i64 11,.bool neg,.slice A0 n0 c0,.string name,.int .i64 exp,.int .i64 rel,.bool truth,.bool all,.slice A 2 c] 194):=by rw [<- hW]; exact heap_alloc_new w _
 have hws:w.heap.size < W.heap.size:=by rw [<- hW]; simp
 have b0W:W.cell? ⟨w.heap.size,0,none⟩=some (.int .i64 11):=by simp [World.cell?,hbx]
 have b3W:W.cell? ⟨w.heap.size,3,none⟩=some (.string name):=by simp [World.cell?,hbx]
 have b5W:W.cell? ⟨w.heap.size,5,none⟩=some (.int .i64 rel):=by simp [World.cell?,hbx]
 have b7W:W.cell? ⟨w.heap.size,7,none⟩=some (.bool all):=by simp [World.cell?,hbx]
 have b8W:W.cell? ⟨w.heap.size,8,none⟩=some (.slice A 2 c):=by simp [World.cell?,hbx]
 obtain ⟨ad,B0,m0,d0,B1,m1,d1',hA,hadb,⟨e0,e1,e2,e3,e4,e5,e6,e7,e8⟩,hkt⟩:=(HAT.out.ext hWx).kid0 (by simp);subst hA;have HKT:=Lib.hid hkt;have HWX:=Lib.hid hWx;have HBX:=Lib.hid hbx;clear hkt hWx hbx;simp only [List.getElem_cons_zero] at e0 e1 e3 e4 e5 e6 e7;go_enter Tryz.func161,Tryz.ntmps161;go_wp2_with fail;refine (IH.out f t0 (by omega) h0 _ _ HKT.out).mono ?_;rintro e w1 ⟨v1,rfl,f1,x1⟩;have F1:=Lib.hid f1;obtain ⟨T1,u1,rfl⟩:=f1.iface;clear f1 b0W b3W b5W b7W b8W e0 e1 e2 e3 e4 e5 e6 e7 e8;have X1:=Lib.hid x1;have hbx_w1:w1.heap[w.heap.size]?=some (.cells #[.int .i64 11,.bool neg,.slice A0 n0 c0,.string name,.int .i64 exp,.int .i64 rel,.bool truth,.bool all,.slice (some ad) 2 c] 194):=(x1.below.block _ hws).trans HBX.out;have b0w1:w1.cell? ⟨w.heap.size,0,none⟩=some (.int .i64 11):=by simp [World.cell?,hbx_w1]
 have b3w1:w1.cell? ⟨w.heap.size,3,none⟩=some (.string name):=by simp [World.cell?,hbx_w1]
 have b5w1:w1.cell? ⟨w.heap.size,5,none⟩=some (.int .i64 rel):=by simp [World.cell?,hbx_w1]
 have b7w1:w1.cell? ⟨w.heap.size,7,none⟩=some (.bool all):=by simp [World.cell?,hbx_w1]
 have b8w1:w1.cell? ⟨w.heap.size,8,none⟩=some (.slice (some ad) 2 c):=by simp [World.cell?,hbx_w1]
 obtain ⟨ad',B0,m0,d0,B1,m1,d1',hA,hadb,hnd,hkt⟩:=(HAT.out.ext (HWX.out.trans X1.out)).kid 1 (by simp);obtain ⟨e0,e1,e2,e3,e4,e5,e6,e7,e8⟩:=hnd.nine;clear hnd;injection hA with hA
 subst hA;have HKT2:=Lib.hid hkt;simp only [List.getElem_cons_succ,List.getElem_cons_zero] at e0 e1 e3 e4 e5 e6 e7;clear hkt x1 hbx_w1;go_wp2_with fail;refine (IH.out g t1 (by omega) h1 _ _ HKT2.out).mono ?_;rintro e w2 ⟨v2,rfl,f2,x2⟩;have F2:=Lib.hid f2;obtain ⟨T2,u2,rfl⟩:=f2.iface;clear f2 b0w1 b3w1 b5w1 b7w1 b8w1 e0 e1 e2 e3 e4 e5 e6 e7 e8;have X2:=Lib.hid (X1.out.trans x2);have hbx_w2:w2.heap[w.heap.size]?=some (.cells #[.int .i64 11,.bool neg,.slice A0 n0 c0,.string name,.int .i64 exp,.int .i64 rel,.bool truth,.bool all,.slice (some ad) 2 c] 194):=(X2.out.below.block _ hws).trans HBX.out;have F1':=Lib.hid (F1.out.ext x2);have b0w2:w2.cell? ⟨w.heap.size,0,none⟩=some (.int .i64 11):=by simp [World.cell?,hbx_w2]
 have b3w2:w2.cell? ⟨w.heap.size,3,none⟩=some (.string name):=by simp [World.cell?,hbx_w2]
 have b5w2:w2.cell? ⟨w.heap.size,5,none⟩=some (.int .i64 rel):=by simp [World.cell?,hbx_w2]
 have b7w2:w2.cell? ⟨w.heap.size,7,none⟩=some (.bool all):=by simp [World.cell?,hbx_w2]
 have b8w2:w2.cell? ⟨w.heap.size,8,none⟩=some (.slice (some ad) 2 c):=by simp [World.cell?,hbx_w2]
 clear x2 hbx_w2;have HFIN:Hid (FmV w2 L (.and f g) (.iface 160 (.agg #[.iface T1 u1,.iface T2 u2]))):=⟨_,_,rfl,F1'.out,F2.out⟩;have HX:=Lib.hid (HWX.out.trans X2.out);go_wp2_with fail
 go_ret2
 exact ⟨_,rfl,HFIN.out,HX.out⟩
theorem wi0 {L n:Nat} (ih:vgv L n) {f g:Fm} (t:Tr) (hsz:(Fm.and f g).sz < n+1) (h:jdb L (.and f g) t) (v:Value) (w:World) (hv:TrV w (fun _=>True) t v):Calls Tryz.prog 115 #[v] w (gdf L (.and f g) w):=by
 have H:=Lib.hid (fun w' (hx:Ext w w')=>qi1 ih t hsz h v w' (hv.ext hx));have hkind:t.d.kind=11:=h.1;clear h ih hsz;obtain ⟨⟨kind,neg,ds,name,exp,rel,truth,all⟩,ks⟩:=t;simp only [Tr.d] at hkind;subst hkind;obtain ⟨A0,n0,c0,A,c,rfl,hnat,hc1,hc2,hat⟩:=hv.open_;clear hv hat hnat hc1 hc2;unfold ndV at H ⊢;simp only [Tr.d,Tr.ks] at H ⊢;go_enter Tryz.func115,Tryz.ntmps115;go_wp2_with fail;refine (H.out _ ((Ext.refl w).alloc _)).mono ?_;rintro e w1 ⟨v1,rfl,f1,x1⟩;have F1:=Lib.hid f1;have X1:=Lib.hid (((Ext.refl w).alloc _).trans x1);obtain ⟨T1,u1,rfl⟩:=f1.iface;clear f1 x1 H;go_wp2_with fail
 go_ret2
 exact ⟨_,rfl,F1.out,X1.out⟩
theorem yi8 {L n:Nat} (ih:vgv L n) {f g:Fm} (t:Tr) (hsz:(Fm.or f g).sz < n+1) (h:jdb L (.or f g) t) (v:Value) (w:World) (hv:TrV w (fun _=>True) t v):Calls Tryz.prog 161 #[v] w (gdf L (.or f g) w):=by
 have IH:=Lib.hid ih;clear ih;obtain ⟨⟨kind,neg,ds,name,exp,rel,truth,all⟩,ks⟩:=t;obtain ⟨hkind,t0,t1,hks,h0,h1⟩:=h;simp only [Tr.d] at hkind;simp only [Tr.ks] at hks;subst hkind hks;simp only [Fm.sz] at hsz;obtain ⟨A0,n0,c0,A,c,rfl,hnat,hc1,hc2,hat⟩:=hv.open_
 change jc6 w _ [t0,t1] A 0 at hat
 have HAT:=Lib.hid hat;clear hv hat hnat;unfold ndV;simp only [Tr.d,Tr.ks,List.length_cons,List.length_nil,Nat.zero_add,Nat.reduceAdd] at hc1 ⊢;obtain ⟨W,hW⟩:=n_m (w.alloc (.cells #[.int .i64 12,.bool neg,.slice A0 n0 c0,.string name,.int .i64 exp,.int .i64 rel,.bool truth,.bool all,.slice A 2 c] 194));have hWx:Ext w W:=by rw [<- hW]; exact (Ext.refl w).alloc _
 have hbx:W.heap[w.heap.size]?=some (.cells #[.int .i64 12,.bool neg,.slice A0 n0 c0,.string name,.int .i64 exp,.int .i64 rel,.bool truth,.bool all,.slice A 2 c] 194):=by rw [<- hW]; exact heap_alloc_new w _
 have hws:w.heap.size < W.heap.size:=by rw [<- hW]; simp
 have b0W:W.cell? ⟨w.heap.size,0,none⟩=some (.int .i64 12):=by simp [World.cell?,hbx]
 have b3W:W.cell? ⟨w.heap.size,3,none⟩=some (.string name):=by simp [World.cell?,hbx]
 have b5W:W.cell? ⟨w.heap.size,5,none⟩=some (.int .i64 rel):=by simp [World.cell?,hbx]
 have b7W:W.cell? ⟨w.heap.size,7,none⟩=some (.bool all):=by simp [World.cell?,hbx]
 have b8W:W.cell? ⟨w.heap.size,8,none⟩=some (.slice A 2 c):=by simp [World.cell?,hbx]
 obtain ⟨ad,B0,m0,d0,B1,m1,d1',hA,hadb,⟨e0,e1,e2,e3,e4,e5,e6,e7,e8⟩,hkt⟩:=(HAT.out.ext hWx).kid0 (by simp);subst hA;have HKT:=Lib.hid hkt;have HWX:=Lib.hid hWx;have HBX:=Lib.hid hbx;clear hkt hWx hbx;simp only [List.getElem_cons_zero] at e0 e1 e3 e4 e5 e6 e7;go_enter Tryz.func161,Tryz.ntmps161;go_wp2_with fail;refine (IH.out f t0 (by omega) h0 _ _ HKT.out).mono ?_;rintro e w1 ⟨v1,rfl,f1,x1⟩;have F1:=Lib.hid f1;obtain ⟨T1,u1,rfl⟩:=f1.iface;clear f1 b0W b3W b5W b7W b8W e0 e1 e2 e3 e4 e5 e6 e7 e8;have X1:=Lib.hid x1;have hbx_w1:w1.heap[w.heap.size]?=some (.cells #[.int .i64 12,.bool neg,.slice A0 n0 c0,.string name,.int .i64 exp,.int .i64 rel,.bool truth,.bool all,.slice (some ad) 2 c] 194):=(x1.below.block _ hws).trans HBX.out;have b0w1:w1.cell? ⟨w.heap.size,0,none⟩=some (.int .i64 12):=by simp [World.cell?,hbx_w1]
 have b3w1:w1.cell? ⟨w.heap.size,3,none⟩=some (.string name):=by simp [World.cell?,hbx_w1]
 have b5w1:w1.cell? ⟨w.heap.size,5,none⟩=some (.int .i64 rel):=by simp [World.cell?,hbx_w1]
 have b7w1:w1.cell? ⟨w.heap.size,7,none⟩=some (.bool all):=by simp [World.cell?,hbx_w1]
 have b8w1:w1.cell? ⟨w.heap.size,8,none⟩=some (.slice (some ad) 2 c):=by simp [World.cell?,hbx_w1]
 obtain ⟨ad',B0,m0,d0,B1,m1,d1',hA,hadb,hnd,hkt⟩:=(HAT.out.ext (HWX.out.trans X1.out)).kid 1 (by simp);obtain ⟨e0,e1,e2,e3,e4,e5,e6,e7,e8⟩:=hnd.nine;clear hnd;injection hA with hA
 subst hA;have HKT2:=Lib.hid hkt;simp only [List.getElem_cons_succ,List.getElem_cons_zero] at e0 e1 e3 e4 e5 e6 e7;clear hkt x1 hbx_w1;go_wp2_with fail;refine (IH.out g t1 (by omega) h1 _ _ HKT2.out).mono ?_;rintro e w2 ⟨v2,rfl,f2,x2⟩;have F2:=Lib.hid f2;obtain ⟨T2,u2,rfl⟩:=f2.iface;clear f2 b0w1 b3w1 b5w1 b7w1 b8w1 e0 e1 e2 e3 e4 e5 e6 e7 e8;have X2:=Lib.hid (X1.out.trans x2);have hbx_w2:w2.heap[w.heap.size]?=some (.cells #[.int .i64 12,.bool neg,.slice A0 n0 c0,.string name,.int .i64 exp,.int .i64 rel,.bool truth,.bool all,.slice (some ad) 2 c] 194):=(X2.out.below.block _ hws).trans HBX.out;have F1':=Lib.hid (F1.out.ext x2);have b0w2:w2.cell? ⟨w.heap.size,0,none⟩=some (.int .i64 12):=by simp [World.cell?,hbx_w2]
 have b3w2:w2.cell? ⟨w.heap.size,3,none⟩=some (.string name):=by simp [World.cell?,hbx_w2]
 have b5w2:w2.cell? ⟨w.heap.size,5,none⟩=some (.int .i64 rel):=by simp [World.cell?,hbx_w2]
 have b7w2:w2.cell? ⟨w.heap.size,7,none⟩=some (.bool all):=by simp [World.cell?,hbx_w2]
 have b8w2:w2.cell? ⟨w.heap.size,8,none⟩=some (.slice (some ad) 2 c):=by simp [World.cell?,hbx_w2]
 clear x2 hbx_w2;have HFIN:Hid (FmV w2 L (.or f g) (.iface 161 (.agg #[.iface T1 u1,.iface T2 u2]))):=⟨_,_,rfl,F1'.out,F2.out⟩;have HX:=Lib.hid (HWX.out.trans X2.out);go_wp2_with fail
 go_ret2
 exact ⟨_,rfl,HFIN.out,HX.out⟩
theorem zi8 {L n:Nat} (ih:vgv L n) {f g:Fm} (t:Tr) (hsz:(Fm.or f g).sz < n+1) (h:jdb L (.or f g) t) (v:Value) (w:World) (hv:TrV w (fun _=>True) t v):Calls Tryz.prog 115 #[v] w (gdf L (.or f g) w):=by
 have H:=Lib.hid (fun w' (hx:Ext w w')=>yi8 ih t hsz h v w' (hv.ext hx));have hkind:t.d.kind=12:=h.1;clear h ih hsz;obtain ⟨⟨kind,neg,ds,name,exp,rel,truth,all⟩,ks⟩:=t;simp only [Tr.d] at hkind;subst hkind;obtain ⟨A0,n0,c0,A,c,rfl,hnat,hc1,hc2,hat⟩:=hv.open_;clear hv hat hnat hc1 hc2;unfold ndV at H ⊢;simp only [Tr.d,Tr.ks] at H ⊢;go_enter Tryz.func115,Tryz.ntmps115;go_wp2_with fail;refine (H.out _ ((Ext.refl w).alloc _)).mono ?_;rintro e w1 ⟨v1,rfl,f1,x1⟩;have F1:=Lib.hid f1;have X1:=Lib.hid (((Ext.refl w).alloc _).trans x1);obtain ⟨T1,u1,rfl⟩:=f1.iface;clear f1 x1 H;go_wp2_with fail
 go_ret2
 exact ⟨_,rfl,F1.out,X1.out⟩
theorem yi1 {L n:Nat} (ih:vgv L n) {f g:Fm} (t:Tr) (hsz:(Fm.imp f g).sz < n+1) (h:jdb L (.imp f g) t) (v:Value) (w:World) (hv:TrV w (fun _=>True) t v):Calls Tryz.prog 161 #[v] w (gdf L (.imp f g) w):=by
 have IH:=Lib.hid ih;clear ih;obtain ⟨⟨kind,neg,ds,name,exp,rel,truth,all⟩,ks⟩:=t;obtain ⟨hkind,t0,t1,hks,h0,h1⟩:=h;simp only [Tr.d] at hkind;simp only [Tr.ks] at hks;subst hkind hks;simp only [Fm.sz] at hsz;obtain ⟨A0,n0,c0,A,c,rfl,hnat,hc1,hc2,hat⟩:=hv.open_
 change jc6 w _ [t0,t1] A 0 at hat
 have HAT:=Lib.hid hat;clear hv hat hnat;unfold ndV;simp only [Tr.d,Tr.ks,List.length_cons,List.length_nil,Nat.zero_add,Nat.reduceAdd] at hc1 ⊢;obtain ⟨W,hW⟩:=n_m (w.alloc (.cells #[.int .i64 13,.bool neg,.slice A0 n0 c0,.string name,.int .i64 exp,.int .i64 rel,.bool truth,.bool all,.slice A 2 c] 194));have hWx:Ext w W:=by rw [<- hW]; exact (Ext.refl w).alloc _
 have hbx:W.heap[w.heap.size]?=some (.cells #[.int .i64 13,.bool neg,.slice A0 n0 c0,.string name,.int .i64 exp,.int .i64 rel,.bool truth,.bool all,.slice A 2 c] 194):=by rw [<- hW]; exact heap_alloc_new w _
 have hws:w.heap.size < W.heap.size:=by rw [<- hW]; simp
 have b0W:W.cell? ⟨w.heap.size,0,none⟩=some (.int .i64 13):=by simp [World.cell?,hbx]
 have b3W:W.cell? ⟨w.heap.size,3,none⟩=some (.string name):=by simp [World.cell?,hbx]
 have b5W:W.cell? ⟨w.heap.size,5,none⟩=some (.int .i64 rel):=by simp [World.cell?,hbx]
 have b7W:W.cell? ⟨w.heap.size,7,none⟩=some (.bool all):=by simp [World.cell?,hbx]
 have b8W:W.cell? ⟨w.heap.size,8,none⟩=some (.slice A 2 c):=by simp [World.cell?,hbx]
 obtain ⟨ad,B0,m0,d0,B1,m1,d1',hA,hadb,⟨e0,e1,e2,e3,e4,e5,e6,e7,e8⟩,hkt⟩:=(HAT.out.ext hWx).kid0 (by simp);subst hA;have HKT:=Lib.hid hkt;have HWX:=Lib.hid hWx;have HBX:=Lib.hid hbx;clear hkt hWx hbx;simp only [List.getElem_cons_zero] at e0 e1 e3 e4 e5 e6 e7;go_enter Tryz.func161,Tryz.ntmps161;go_wp2_with fail;refine (IH.out f t0 (by omega) h0 _ _ HKT.out).mono ?_;rintro e w1 ⟨v1,rfl,f1,x1⟩;have F1:=Lib.hid f1;obtain ⟨T1,u1,rfl⟩:=f1.iface;clear f1 b0W b3W b5W b7W b8W e0 e1 e2 e3 e4 e5 e6 e7 e8;have X1:=Lib.hid x1;have hbx_w1:w1.heap[w.heap.size]?=some (.cells #[.int .i64 13,.bool neg,.slice A0 n0 c0,.string name,.int .i64 exp,.int .i64 rel,.bool truth,.bool all,.slice (some ad) 2 c] 194):=(x1.below.block _ hws).trans HBX.out;have b0w1:w1.cell? ⟨w.heap.size,0,none⟩=some (.int .i64 13):=by simp [World.cell?,hbx_w1]
 have b3w1:w1.cell? ⟨w.heap.size,3,none⟩=some (.string name):=by simp [World.cell?,hbx_w1]
 have b5w1:w1.cell? ⟨w.heap.size,5,none⟩=some (.int .i64 rel):=by simp [World.cell?,hbx_w1]
 have b7w1:w1.cell? ⟨w.heap.size,7,none⟩=some (.bool all):=by simp [World.cell?,hbx_w1]
 have b8w1:w1.cell? ⟨w.heap.size,8,none⟩=some (.slice (some ad) 2 c):=by simp [World.cell?,hbx_w1]
 obtain ⟨ad',B0,m0,d0,B1,m1,d1',hA,hadb,hnd,hkt⟩:=(HAT.out.ext (HWX.out.trans X1.out)).kid 1 (by simp);obtain ⟨e0,e1,e2,e3,e4,e5,e6,e7,e8⟩:=hnd.nine;clear hnd;injection hA with hA
 subst hA;have HKT2:=Lib.hid hkt;simp only [List.getElem_cons_succ,List.getElem_cons_zero] at e0 e1 e3 e4 e5 e6 e7;clear hkt x1 hbx_w1;go_wp2_with fail;refine (IH.out g t1 (by omega) h1 _ _ HKT2.out).mono ?_;rintro e w2 ⟨v2,rfl,f2,x2⟩;have F2:=Lib.hid f2;obtain ⟨T2,u2,rfl⟩:=f2.iface;clear f2 b0w1 b3w1 b5w1 b7w1 b8w1 e0 e1 e2 e3 e4 e5 e6 e7 e8;have X2:=Lib.hid (X1.out.trans x2);have hbx_w2:w2.heap[w.heap.size]?=some (.cells #[.int .i64 13,.bool neg,.slice A0 n0 c0,.string name,.int .i64 exp,.int .i64 rel,.bool truth,.bool all,.slice (some ad) 2 c] 194):=(X2.out.below.block _ hws).trans HBX.out;have F1':=Lib.hid (F1.out.ext x2);have b0w2:w2.cell? ⟨w.heap.size,0,none⟩=some (.int .i64 13):=by simp [World.cell?,hbx_w2]
 have b3w2:w2.cell? ⟨w.heap.size,3,none⟩=some (.string name):=by simp [World.cell?,hbx_w2]
 have b5w2:w2.cell? ⟨w.heap.size,5,none⟩=some (.int .i64 rel):=by simp [World.cell?,hbx_w2]
 have b7w2:w2.cell? ⟨w.heap.size,7,none⟩=some (.bool all):=by simp [World.cell?,hbx_w2]
 have b8w2:w2.cell? ⟨w.heap.size,8,none⟩=some (.slice (some ad) 2 c):=by simp [World.cell?,hbx_w2]
 clear x2 hbx_w2;have HFIN:Hid (FmV w2 L (.imp f g) (.iface 162 (.agg #[.iface T1 u1,.iface T2 u2]))):=⟨_,_,rfl,F1'.out,F2.out⟩;have HX:=Lib.hid (HWX.out.trans X2.out);go_wp2_with fail
 go_ret2
 exact ⟨_,rfl,HFIN.out,HX.out⟩
theorem ui0 {L n:Nat} (ih:vgv L n) {f g:Fm} (t:Tr) (hsz:(Fm.imp f g).sz < n+1) (h:jdb L (.imp f g) t) (v:Value) (w:World) (hv:TrV w (fun _=>True) t v):Calls Tryz.prog 115 #[v] w (gdf L (.imp f g) w):=by
 have H:=Lib.hid (fun w' (hx:Ext w w')=>yi1 ih t hsz h v w' (hv.ext hx));have hkind:t.d.kind=13:=h.1;clear h ih hsz;obtain ⟨⟨kind,neg,ds,name,exp,rel,truth,all⟩,ks⟩:=t;simp only [Tr.d] at hkind;subst hkind;obtain ⟨A0,n0,c0,A,c,rfl,hnat,hc1,hc2,hat⟩:=hv.open_;clear hv hat hnat hc1 hc2;unfold ndV at H ⊢;simp only [Tr.d,Tr.ks] at H ⊢;go_enter Tryz.func115,Tryz.ntmps115;go_wp2_with fail;refine (H.out _ ((Ext.refl w).alloc _)).mono ?_;rintro e w1 ⟨v1,rfl,f1,x1⟩;have F1:=Lib.hid f1;have X1:=Lib.hid (((Ext.refl w).alloc _).trans x1);obtain ⟨T1,u1,rfl⟩:=f1.iface;clear f1 x1 H;go_wp2_with fail
 go_ret2
 exact ⟨_,rfl,F1.out,X1.out⟩
theorem xi1 {L n:Nat} (ih:vgv L n) {f g:Fm} (t:Tr) (hsz:(Fm.iff f g).sz < n+1) (h:jdb L (.iff f g) t) (v:Value) (w:World) (hv:TrV w (fun _=>True) t v):Calls Tryz.prog 161 #[v] w (gdf L (.iff f g) w):=by
 have IH:=Lib.hid ih;clear ih;obtain ⟨⟨kind,neg,ds,name,exp,rel,truth,all⟩,ks⟩:=t;obtain ⟨hkind,t0,t1,hks,h0,h1⟩:=h;simp only [Tr.d] at hkind;simp only [Tr.ks] at hks;subst hkind hks;simp only [Fm.sz] at hsz;obtain ⟨A0,n0,c0,A,c,rfl,hnat,hc1,hc2,hat⟩:=hv.open_
 change jc6 w _ [t0,t1] A 0 at hat
 have HAT:=Lib.hid hat;clear hv hat hnat;unfold ndV;simp only [Tr.d,Tr.ks,List.length_cons,List.length_nil,Nat.zero_add,Nat.reduceAdd] at hc1 ⊢;obtain ⟨W,hW⟩:=n_m (w.alloc (.cells #[.int .i64 14,.bool neg,.slice A0 n0 c0,.string name,.int .i64 exp,.int .i64 rel,.bool truth,.bool all,.slice A 2 c] 194));have hWx:Ext w W:=by rw [<- hW]; exact (Ext.refl w).alloc _
 have hbx:W.heap[w.heap.size]?=some (.cells #[.int .i64 14,.bool neg,.slice A0 n0 c0,.string name,.int .i64 exp,.int .i64 rel,.bool truth,.bool all,.slice A 2 c] 194):=by rw [<- hW]; exact heap_alloc_new w _
 have hws:w.heap.size < W.heap.size:=by rw [<- hW]; simp
 have b0W:W.cell? ⟨w.heap.size,0,none⟩=some (.int .i64 14):=by simp [World.cell?,hbx]
 have b3W:W.cell? ⟨w.heap.size,3,none⟩=some (.string name):=by simp [World.cell?,hbx]
 have b5W:W.cell? ⟨w.heap.size,5,none⟩=some (.int .i64 rel):=by simp [World.cell?,hbx]
 have b7W:W.cell? ⟨w.heap.size,7,none⟩=some (.bool all):=by simp [World.cell?,hbx]
 have b8W:W.cell? ⟨w.heap.size,8,none⟩=some (.slice A 2 c):=by simp [World.cell?,hbx]
 obtain ⟨ad,B0,m0,d0,B1,m1,d1',hA,hadb,⟨e0,e1,e2,e3,e4,e5,e6,e7,e8⟩,hkt⟩:=(HAT.out.ext hWx).kid0 (by simp);subst hA;have HKT:=Lib.hid hkt;have HWX:=Lib.hid hWx;have HBX:=Lib.hid hbx;clear hkt hWx hbx;simp only [List.getElem_cons_zero] at e0 e1 e3 e4 e5 e6 e7;go_enter Tryz.func161,Tryz.ntmps161;go_wp2_with fail;refine (IH.out f t0 (by omega) h0 _ _ HKT.out).mono ?_;rintro e w1 ⟨v1,rfl,f1,x1⟩;have F1:=Lib.hid f1;obtain ⟨T1,u1,rfl⟩:=f1.iface;clear f1 b0W b3W b5W b7W b8W e0 e1 e2 e3 e4 e5 e6 e7 e8;have X1:=Lib.hid x1;have hbx_w1:w1.heap[w.heap.size]?=some (.cells #[.int .i64 14,.bool neg,.slice A0 n0 c0,.string name,.int .i64 exp,.int .i64 rel,.bool truth,.bool all,.slice (some ad) 2 c] 194):=(x1.below.block _ hws).trans HBX.out;have b0w1:w1.cell? ⟨w.heap.size,0,none⟩=some (.int .i64 14):=by simp [World.cell?,hbx_w1]
 have b3w1:w1.cell? ⟨w.heap.size,3,none⟩=some (.string name):=by simp [World.cell?,hbx_w1]
 have b5w1:w1.cell? ⟨w.heap.size,5,none⟩=some (.int .i64 rel):=by simp [World.cell?,hbx_w1]
 have b7w1:w1.cell? ⟨w.heap.size,7,none⟩=some (.bool all):=by simp [World.cell?,hbx_w1]
 have b8w1:w1.cell? ⟨w.heap.size,8,none⟩=some (.slice (some ad) 2 c):=by simp [World.cell?,hbx_w1]
 obtain ⟨ad',B0,m0,d0,B1,m1,d1',hA,hadb,hnd,hkt⟩:=(HAT.out.ext (HWX.out.trans X1.out)).kid 1 (by simp);obtain ⟨e0,e1,e2,e3,e4,e5,e6,e7,e8⟩:=hnd.nine;clear hnd;injection hA with hA
 subst hA;have HKT2:=Lib.hid hkt;simp only [List.getElem_cons_succ,List.getElem_cons_zero] at e0 e1 e3 e4 e5 e6 e7;clear hkt x1 hbx_w1;go_wp2_with fail;refine (IH.out g t1 (by omega) h1 _ _ HKT2.out).mono ?_;rintro e w2 ⟨v2,rfl,f2,x2⟩;have F2:=Lib.hid f2;obtain ⟨T2,u2,rfl⟩:=f2.iface;clear f2 b0w1 b3w1 b5w1 b7w1 b8w1 e0 e1 e2 e3 e4 e5 e6 e7 e8;have X2:=Lib.hid (X1.out.trans x2);have hbx_w2:w2.heap[w.heap.size]?=some (.cells #[.int .i64 14,.bool neg,.slice A0 n0 c0,.string name,.int .i64 exp,.int .i64 rel,.bool truth,.bool all,.slice (some ad) 2 c] 194):=(X2.out.below.block _ hws).trans HBX.out;have F1':=Lib.hid (F1.out.ext x2);have b0w2:w2.cell? ⟨w.heap.size,0,none⟩=some (.int .i64 14):=by simp [World.cell?,hbx_w2]
 have b3w2:w2.cell? ⟨w.heap.size,3,none⟩=some (.string name):=by simp [World.cell?,hbx_w2]
 have b5w2:w2.cell? ⟨w.heap.size,5,none⟩=some (.int .i64 rel):=by simp [World.cell?,hbx_w2]
 have b7w2:w2.cell? ⟨w.heap.size,7,none⟩=some (.bool all):=by simp [World.cell?,hbx_w2]
 have b8w2:w2.cell? ⟨w.heap.size,8,none⟩=some (.slice (some ad) 2 c):=by simp [World.cell?,hbx_w2]
 clear x2 hbx_w2;have HFIN:Hid (FmV w2 L (.iff f g) (.iface 163 (.agg #[.iface T1 u1,.iface T2 u2]))):=⟨_,_,rfl,F1'.out,F2.out⟩;have HX:=Lib.hid (HWX.out.trans X2.out);go_wp2_with fail
 go_ret2
 exact ⟨_,rfl,HFIN.out,HX.out⟩
theorem gi0 {L n:Nat} (ih:vgv L n) {f g:Fm} (t:Tr) (hsz:(Fm.iff f g).sz < n+1) (h:jdb L (.iff f g) t) (v:Value) (w:World) (hv:TrV w (fun _=>True) t v):Calls Tryz.prog 115 #[v] w (gdf L (.iff f g) w):=by
 have H:=Lib.hid (fun w' (hx:Ext w w')=>xi1 ih t hsz h v w' (hv.ext hx));have hkind:t.d.kind=14:=h.1;clear h ih hsz;obtain ⟨⟨kind,neg,ds,name,exp,rel,truth,all⟩,ks⟩:=t;simp only [Tr.d] at hkind;subst hkind;obtain ⟨A0,n0,c0,A,c,rfl,hnat,hc1,hc2,hat⟩:=hv.open_;clear hv hat hnat hc1 hc2;unfold ndV at H ⊢;simp only [Tr.d,Tr.ks] at H ⊢;go_enter Tryz.func115,Tryz.ntmps115;go_wp2_with fail;refine (H.out _ ((Ext.refl w).alloc _)).mono ?_;rintro e w1 ⟨v1,rfl,f1,x1⟩;have F1:=Lib.hid f1;have X1:=Lib.hid (((Ext.refl w).alloc _).trans x1);obtain ⟨T1,u1,rfl⟩:=f1.iface;clear f1 x1 H;go_wp2_with fail
 go_ret2
 exact ⟨_,rfl,F1.out,X1.out⟩
theorem zi1 {L n:Nat} (ih:vgv L n) {f:Fm} (t:Tr) (hsz:(Fm.not f).sz < n+1) (h:jdb L (.not f) t) (v:Value) (w:World) (hv:TrV w (fun _=>True) t v):Calls Tryz.prog 160 #[v] w (gdf L (.not f) w):=by
 have IH:=Lib.hid ih;clear ih;obtain ⟨⟨kind,neg,ds,name,exp,rel,truth,all⟩,ks⟩:=t;obtain ⟨hkind,t0,hks,h0⟩:=h;simp only [Tr.d] at hkind;simp only [Tr.ks] at hks;subst hkind hks;simp only [Fm.sz] at hsz;obtain ⟨A0,n0,c0,A,c,rfl,hnat,hc1,hc2,hat⟩:=hv.open_
 change jc6 w _ [t0] A 0 at hat
 have HAT:=Lib.hid hat;clear hv hat hnat;unfold ndV;simp only [Tr.d,Tr.ks,List.length_cons,List.length_nil,Nat.zero_add,Nat.reduceAdd] at hc1 ⊢;obtain ⟨W,hW⟩:=n_m (w.alloc (.cells #[.int .i64 10,.bool neg,.slice A0 n0 c0,.string name,.int .i64 exp,.int .i64 rel,.bool truth,.bool all,.slice A 1 c] 194));have hWx:Ext w W:=by rw [<- hW]; exact (Ext.refl w).alloc _
 have hbx:W.heap[w.heap.size]?=some (.cells #[.int .i64 10,.bool neg,.slice A0 n0 c0,.string name,.int .i64 exp,.int .i64 rel,.bool truth,.bool all,.slice A 1 c] 194):=by rw [<- hW]; exact heap_alloc_new w _
 have hws:w.heap.size < W.heap.size:=by rw [<- hW]; simp
 have b0W:W.cell? ⟨w.heap.size,0,none⟩=some (.int .i64 10):=by simp [World.cell?,hbx]
 have b3W:W.cell? ⟨w.heap.size,3,none⟩=some (.string name):=by simp [World.cell?,hbx]
 have b5W:W.cell? ⟨w.heap.size,5,none⟩=some (.int .i64 rel):=by simp [World.cell?,hbx]
 have b7W:W.cell? ⟨w.heap.size,7,none⟩=some (.bool all):=by simp [World.cell?,hbx]
 have b8W:W.cell? ⟨w.heap.size,8,none⟩=some (.slice A 1 c):=by simp [World.cell?,hbx]
 obtain ⟨ad,B0,m0,d0,B1,m1,d1',hA,hadb,⟨e0,e1,e2,e3,e4,e5,e6,e7,e8⟩,hkt⟩:=(HAT.out.ext hWx).kid0 (by simp);subst hA;have HKT:=Lib.hid hkt;have HWX:=Lib.hid hWx;have HBX:=Lib.hid hbx;clear hkt hWx hbx;simp only [List.getElem_cons_zero] at e0 e1 e3 e4 e5 e6 e7;go_enter Tryz.func160,Tryz.ntmps160;go_wp2_with fail;refine (IH.out f t0 (by omega) h0 _ _ HKT.out).mono ?_;rintro e w1 ⟨v1,rfl,f1,x1⟩;have F1:=Lib.hid f1;obtain ⟨T1,u1,rfl⟩:=f1.iface;clear f1 b0W b3W b5W b7W b8W e0 e1 e2 e3 e4 e5 e6 e7 e8;have X1:=Lib.hid x1;have hbx_w1:w1.heap[w.heap.size]?=some (.cells #[.int .i64 10,.bool neg,.slice A0 n0 c0,.string name,.int .i64 exp,.int .i64 rel,.bool truth,.bool all,.slice (some ad) 1 c] 194):=(x1.below.block _ hws).trans HBX.out;have b0w1:w1.cell? ⟨w.heap.size,0,none⟩=some (.int .i64 10):=by simp [World.cell?,hbx_w1]
 have b3w1:w1.cell? ⟨w.heap.size,3,none⟩=some (.string name):=by simp [World.cell?,hbx_w1]
 have b5w1:w1.cell? ⟨w.heap.size,5,none⟩=some (.int .i64 rel):=by simp [World.cell?,hbx_w1]
 have b7w1:w1.cell? ⟨w.heap.size,7,none⟩=some (.bool all):=by simp [World.cell?,hbx_w1]
 have b8w1:w1.cell? ⟨w.heap.size,8,none⟩=some (.slice (some ad) 1 c):=by simp [World.cell?,hbx_w1]
 clear x1 hbx_w1;have HFIN:Hid (FmV w1 L (.not f) (.iface 158 (.agg #[.iface T1 u1]))):=⟨_,rfl,F1.out⟩;have HX:=Lib.hid (HWX.out.trans X1.out);go_wp2_with fail
 go_ret2
 exact ⟨_,rfl,HFIN.out,HX.out⟩
theorem vi0 {L n:Nat} (ih:vgv L n) {f:Fm} (t:Tr) (hsz:(Fm.not f).sz < n+1) (h:jdb L (.not f) t) (v:Value) (w:World) (hv:TrV w (fun _=>True) t v):Calls Tryz.prog 115 #[v] w (gdf L (.not f) w):=by
 have H:=Lib.hid (fun w' (hx:Ext w w')=>zi1 ih t hsz h v w' (hv.ext hx));have hkind:t.d.kind=10:=h.1;clear h ih hsz;obtain ⟨⟨kind,neg,ds,name,exp,rel,truth,all⟩,ks⟩:=t;simp only [Tr.d] at hkind;subst hkind;obtain ⟨A0,n0,c0,A,c,rfl,hnat,hc1,hc2,hat⟩:=hv.open_;clear hv hat hnat hc1 hc2;unfold ndV at H ⊢;simp only [Tr.d,Tr.ks] at H ⊢;go_enter Tryz.func115,Tryz.ntmps115;go_wp2_with fail;refine (H.out _ ((Ext.refl w).alloc _)).mono ?_;rintro e w1 ⟨v1,rfl,f1,x1⟩;have F1:=Lib.hid f1;have X1:=Lib.hid (((Ext.refl w).alloc _).trans x1);obtain ⟨T1,u1,rfl⟩:=f1.iface;clear f1 x1 H;go_wp2_with fail
 go_ret2
 exact ⟨_,rfl,F1.out,X1.out⟩
theorem uii {L n:Nat} (ih:vgv L n) {al:Bool} {q:ByteArray} {f:Fm} (t:Tr) (hsz:(Fm.quant al q f).sz < n+1) (h:jdb L (.quant al q f) t) (v:Value) (w:World) (hv:TrV w (fun _=>True) t v):Calls Tryz.prog 160 #[v] w (gdf L (.quant al q f) w):=by
 have IH:=Lib.hid ih;clear ih;obtain ⟨⟨kind,neg,ds,name,exp,rel,truth,all⟩,ks⟩:=t;obtain ⟨hkind,hall,hname,t0,hks,h0⟩:=h;simp only [Tr.d] at hall hname;subst hall hname;simp only [Tr.d] at hkind;simp only [Tr.ks] at hks;subst hkind hks;simp only [Fm.sz] at hsz;obtain ⟨A0,n0,c0,A,c,rfl,hnat,hc1,hc2,hat⟩:=hv.open_
 change jc6 w _ [t0] A 0 at hat
 have HAT:=Lib.hid hat;clear hv hat hnat;unfold ndV;simp only [Tr.d,Tr.ks,List.length_cons,List.length_nil,Nat.zero_add,Nat.reduceAdd] at hc1 ⊢;obtain ⟨W,hW⟩:=n_m (w.alloc (.cells #[.int .i64 15,.bool neg,.slice A0 n0 c0,.string name,.int .i64 exp,.int .i64 rel,.bool truth,.bool all,.slice A 1 c] 194));have hWx:Ext w W:=by rw [<- hW]; exact (Ext.refl w).alloc _
 have hbx:W.heap[w.heap.size]?=some (.cells #[.int .i64 15,.bool neg,.slice A0 n0 c0,.string name,.int .i64 exp,.int .i64 rel,.bool truth,.bool all,.slice A 1 c] 194):=by rw [<- hW]; exact heap_alloc_new w _
 have hws:w.heap.size < W.heap.size:=by rw [<- hW]; simp
 have b0W:W.cell? ⟨w.heap.size,0,none⟩=some (.int .i64 15):=by simp [World.cell?,hbx]
 have b3W:W.cell? ⟨w.heap.size,3,none⟩=some (.string name):=by simp [World.cell?,hbx]
 have b5W:W.cell? ⟨w.heap.size,5,none⟩=some (.int .i64 rel):=by simp [World.cell?,hbx]
 have b7W:W.cell? ⟨w.heap.size,7,none⟩=some (.bool all):=by simp [World.cell?,hbx]
 have b8W:W.cell? ⟨w.heap.size,8,none⟩=some (.slice A 1 c):=by simp [World.cell?,hbx]
 obtain ⟨ad,B0,m0,d0,B1,m1,d1',hA,hadb,⟨e0,e1,e2,e3,e4,e5,e6,e7,e8⟩,hkt⟩:=(HAT.out.ext hWx).kid0 (by simp);subst hA;have HKT:=Lib.hid hkt;have HWX:=Lib.hid hWx;have HBX:=Lib.hid hbx;clear hkt hWx hbx;simp only [List.getElem_cons_zero] at e0 e1 e3 e4 e5 e6 e7;go_enter Tryz.func160,Tryz.ntmps160;go_wp2_with fail;refine (IH.out f t0 (by omega) h0 _ _ HKT.out).mono ?_;rintro e w1 ⟨v1,rfl,f1,x1⟩;have F1:=Lib.hid f1;obtain ⟨T1,u1,rfl⟩:=f1.iface;clear f1 b0W b3W b5W b7W b8W e0 e1 e2 e3 e4 e5 e6 e7 e8;have X1:=Lib.hid x1;have hbx_w1:w1.heap[w.heap.size]?=some (.cells #[.int .i64 15,.bool neg,.slice A0 n0 c0,.string name,.int .i64 exp,.int .i64 rel,.bool truth,.bool all,.slice (some ad) 1 c] 194):=(x1.below.block _ hws).trans HBX.out;have b0w1:w1.cell? ⟨w.heap.size,0,none⟩=some (.int .i64 15):=by simp [World.cell?,hbx_w1]
 have b3w1:w1.cell? ⟨w.heap.size,3,none⟩=some (.string name):=by simp [World.cell?,hbx_w1]
 have b5w1:w1.cell? ⟨w.heap.size,5,none⟩=some (.int .i64 rel):=by simp [World.cell?,hbx_w1]
 have b7w1:w1.cell? ⟨w.heap.size,7,none⟩=some (.bool all):=by simp [World.cell?,hbx_w1]
 have b8w1:w1.cell? ⟨w.heap.size,8,none⟩=some (.slice (some ad) 1 c):=by simp [World.cell?,hbx_w1]
 clear x1 hbx_w1;have HFIN:Hid (FmV w1 L (.quant all name f) (.iface 185 (.agg #[.bool all,.string name,.iface T1 u1]))):=⟨_,rfl,F1.out⟩;have HX:=Lib.hid (HWX.out.trans X1.out);go_wp2_with fail
 go_ret2
 exact ⟨_,rfl,HFIN.out,HX.out⟩
theorem kii {L n:Nat} (ih:vgv L n) {al:Bool} {q:ByteArray} {f:Fm} (t:Tr) (hsz:(Fm.quant al q f).sz < n+1) (h:jdb L (.quant al q f) t) (v:Value) (w:World) (hv:TrV w (fun _=>True) t v):Calls Tryz.prog 115 #[v] w (gdf L (.quant al q f) w):=by
 have H:=Lib.hid (fun w' (hx:Ext w w')=>uii ih t hsz h v w' (hv.ext hx));have hkind:t.d.kind=15:=h.1;clear h ih hsz;obtain ⟨⟨kind,neg,ds,name,exp,rel,truth,all⟩,ks⟩:=t;simp only [Tr.d] at hkind;subst hkind;obtain ⟨A0,n0,c0,A,c,rfl,hnat,hc1,hc2,hat⟩:=hv.open_;clear hv hat hnat hc1 hc2;unfold ndV at H ⊢;simp only [Tr.d,Tr.ks] at H ⊢;go_enter Tryz.func115,Tryz.ntmps115;go_wp2_with fail;refine (H.out _ ((Ext.refl w).alloc _)).mono ?_;rintro e w1 ⟨v1,rfl,f1,x1⟩;have F1:=Lib.hid f1;have X1:=Lib.hid (((Ext.refl w).alloc _).trans x1);obtain ⟨T1,u1,rfl⟩:=f1.iface;clear f1 x1 H;go_wp2_with fail
 go_ret2
 exact ⟨_,rfl,F1.out,X1.out⟩
theorem zir {L n:Nat} (hL:L<=35184372088000) (ih:vgv L n) {l k:Tm} {rr:Int} (t:Tr) (hsz:(Fm.atom l rr k).sz < n+1) (h:jdb L (.atom l rr k) t) (v:Value) (w:World) (hv:TrV w (fun _=>True) t v):Calls Tryz.prog 159 #[v] w (gdf L (.atom l rr k) w):=by
 have IH:=Lib.hid ih;clear ih;obtain ⟨⟨kind,neg,ds,name,exp,rel,truth,all⟩,ks⟩:=t;obtain ⟨hkind,hrel,hr1,hr6,t0,t1,hks,h0,h1⟩:=h;simp only [Tr.d] at hrel;subst hrel;have d1:decide (rel < 1)=false:=by simp; omega
 have d6:decide (6 < rel)=false:=by simp; omega
 simp only [Tr.d] at hkind;simp only [Tr.ks] at hks;subst hkind hks;simp only [Fm.sz] at hsz;obtain ⟨A0,n0,c0,A,c,rfl,hnat,hc1,hc2,hat⟩:=hv.open_
 change jc6 w _ [t0,t1] A 0 at hat
 have HAT:=Lib.hid hat;clear hv hat hnat;unfold ndV;simp only [Tr.d,Tr.ks,List.length_cons,List.length_nil,Nat.zero_add,Nat.reduceAdd] at hc1 ⊢;obtain ⟨W,hW⟩:=n_m (w.alloc (.cells #[.int .i64 9,.bool neg,.slice A0 n0 c0,.string name,.int .i64 exp,.int .i64 rel,.bool truth,.bool all,.slice A 2 c] 194));have hWx:Ext w W:=by rw [<- hW]; exact (Ext.refl w).alloc _
 have hbx:W.heap[w.heap.size]?=some (.cells #[.int .i64 9,.bool neg,.slice A0 n0 c0,.string name,.int .i64 exp,.int .i64 rel,.bool truth,.bool all,.slice A 2 c] 194):=by rw [<- hW]; exact heap_alloc_new w _
 have hws:w.heap.size < W.heap.size:=by rw [<- hW]; simp
 have b0W:W.cell? ⟨w.heap.size,0,none⟩=some (.int .i64 9):=by simp [World.cell?,hbx]
 have b3W:W.cell? ⟨w.heap.size,3,none⟩=some (.string name):=by simp [World.cell?,hbx]
 have b5W:W.cell? ⟨w.heap.size,5,none⟩=some (.int .i64 rel):=by simp [World.cell?,hbx]
 have b7W:W.cell? ⟨w.heap.size,7,none⟩=some (.bool all):=by simp [World.cell?,hbx]
 have b8W:W.cell? ⟨w.heap.size,8,none⟩=some (.slice A 2 c):=by simp [World.cell?,hbx]
 obtain ⟨ad,B0,m0,d0,B1,m1,d1',hA,hadb,⟨e0,e1,e2,e3,e4,e5,e6,e7,e8⟩,hkt⟩:=(HAT.out.ext hWx).kid0 (by simp);subst hA;have HKT:=Lib.hid hkt;have HWX:=Lib.hid hWx;have HBX:=Lib.hid hbx;clear hkt hWx hbx;simp only [List.getElem_cons_zero] at e0 e1 e3 e4 e5 e6 e7;go_enter Tryz.func159,Tryz.ntmps159;go_wp2_with fail;refine (ghi hL l t0 h0 _ _ HKT.out).mono ?_;rintro e w1 ⟨v1,rfl,f1,x1⟩;have F1:=Lib.hid f1;obtain ⟨T1,u1,rfl⟩:=f1.iface;clear f1 b0W b3W b5W b7W b8W e0 e1 e2 e3 e4 e5 e6 e7 e8;have X1:=Lib.hid x1;have hbx_w1:w1.heap[w.heap.size]?=some (.cells #[.int .i64 9,.bool neg,.slice A0 n0 c0,.string name,.int .i64 exp,.int .i64 rel,.bool truth,.bool all,.slice (some ad) 2 c] 194):=(x1.below.block _ hws).trans HBX.out;have b0w1:w1.cell? ⟨w.heap.size,0,none⟩=some (.int .i64 9):=by simp [World.cell?,hbx_w1]
 have b3w1:w1.cell? ⟨w.heap.size,3,none⟩=some (.string name):=by simp [World.cell?,hbx_w1]
 have b5w1:w1.cell? ⟨w.heap.size,5,none⟩=some (.int .i64 rel):=by simp [World.cell?,hbx_w1]
 have b7w1:w1.cell? ⟨w.heap.size,7,none⟩=some (.bool all):=by simp [World.cell?,hbx_w1]
 have b8w1:w1.cell? ⟨w.heap.size,8,none⟩=some (.slice (some ad) 2 c):=by simp [World.cell?,hbx_w1]
 obtain ⟨ad',B0,m0,d0,B1,m1,d1',hA,hadb,hnd,hkt⟩:=(HAT.out.ext (HWX.out.trans X1.out)).kid 1 (by simp);obtain ⟨e0,e1,e2,e3,e4,e5,e6,e7,e8⟩:=hnd.nine;clear hnd;injection hA with hA
 subst hA;have HKT2:=Lib.hid hkt;simp only [List.getElem_cons_succ,List.getElem_cons_zero] at e0 e1 e3 e4 e5 e6 e7;clear hkt x1 hbx_w1;go_wp2_with fail;refine (ghi hL k t1 h1 _ _ HKT2.out).mono ?_;rintro e w2 ⟨v2,rfl,f2,x2⟩;have F2:=Lib.hid f2;obtain ⟨T2,u2,rfl⟩:=f2.iface;clear f2 b0w1 b3w1 b5w1 b7w1 b8w1 e0 e1 e2 e3 e4 e5 e6 e7 e8;have X2:=Lib.hid (X1.out.trans x2);have hbx_w2:w2.heap[w.heap.size]?=some (.cells #[.int .i64 9,.bool neg,.slice A0 n0 c0,.string name,.int .i64 exp,.int .i64 rel,.bool truth,.bool all,.slice (some ad) 2 c] 194):=(X2.out.below.block _ hws).trans HBX.out;have F1':=Lib.hid (F1.out.ext x2);have b0w2:w2.cell? ⟨w.heap.size,0,none⟩=some (.int .i64 9):=by simp [World.cell?,hbx_w2]
 have b3w2:w2.cell? ⟨w.heap.size,3,none⟩=some (.string name):=by simp [World.cell?,hbx_w2]
 have b5w2:w2.cell? ⟨w.heap.size,5,none⟩=some (.int .i64 rel):=by simp [World.cell?,hbx_w2]
 have b7w2:w2.cell? ⟨w.heap.size,7,none⟩=some (.bool all):=by simp [World.cell?,hbx_w2]
 have b8w2:w2.cell? ⟨w.heap.size,8,none⟩=some (.slice (some ad) 2 c):=by simp [World.cell?,hbx_w2]
 clear x2 hbx_w2;have HFIN:Hid (FmV w2 L (.atom l rel k) (.iface 67 (.agg #[.iface T1 u1,.int .i64 rel,.iface T2 u2]))):=⟨_,_,rfl,F1'.out,F2.out⟩;have HX:=Lib.hid (HWX.out.trans X2.out);go_wp2_with fail
 go_ret2
 exact ⟨_,rfl,HFIN.out,HX.out⟩
theorem wiq {L n:Nat} (hL:L<=35184372088000) (ih:vgv L n) {l k:Tm} {rr:Int} (t:Tr) (hsz:(Fm.atom l rr k).sz < n+1) (h:jdb L (.atom l rr k) t) (v:Value) (w:World) (hv:TrV w (fun _=>True) t v):Calls Tryz.prog 115 #[v] w (gdf L (.atom l rr k) w):=by
 have H:=Lib.hid (fun w' (hx:Ext w w')=>zir hL ih t hsz h v w' (hv.ext hx));have hkind:t.d.kind=9:=h.1;clear h ih hsz;obtain ⟨⟨kind,neg,ds,name,exp,rel,truth,all⟩,ks⟩:=t;simp only [Tr.d] at hkind;subst hkind;obtain ⟨A0,n0,c0,A,c,rfl,hnat,hc1,hc2,hat⟩:=hv.open_;clear hv hat hnat hc1 hc2;unfold ndV at H ⊢;simp only [Tr.d,Tr.ks] at H ⊢;go_enter Tryz.func115,Tryz.ntmps115;go_wp2_with fail;refine (H.out _ ((Ext.refl w).alloc _)).mono ?_;rintro e w1 ⟨v1,rfl,f1,x1⟩;have F1:=Lib.hid f1;have X1:=Lib.hid (((Ext.refl w).alloc _).trans x1);obtain ⟨T1,u1,rfl⟩:=f1.iface;clear f1 x1 H;go_wp2_with fail
 go_ret2
 exact ⟨_,rfl,F1.out,X1.out⟩
theorem jii {L:Nat} {b:Bool} (t:Tr) (h:jdb L (.truth b) t) (v:Value) (w:World) (hv:TrV w (fun _=>True) t v):Calls Tryz.prog 115 #[v] w (gdf L (.truth b) w):=by
 obtain ⟨⟨kind,neg,ds,name,exp,rel,truth,all⟩,ks⟩:=t;obtain ⟨hkind,hks,ht⟩:=h;simp only [Tr.d] at hkind ht;simp only [Tr.ks] at hks;subst hkind hks ht;obtain ⟨A0,n0,c0,A,c,rfl,hnat,hc1,hc2,hat⟩:=hv.open_;clear hv hat hnat hc1 hc2;unfold ndV;simp only [Tr.d,Tr.ks,List.length_nil];go_enter Tryz.func115,Tryz.ntmps115;go_wp2_with fail
 go_ret2
 exact ⟨_,rfl,rfl,(Ext.refl w).alloc _⟩
theorem uja (L:Nat) (hL:L<=35184372088000) (n:Nat):vgv L n:=by
 induction n with
 | zero=>intro m t h; omega
 | succ n ih =>
   intro m t hsz h v w hv;cases m with
   | truth b=>exact jii t h v w hv
   | atom l r k=>exact wiq hL ih t hsz h v w hv
   | not f=>exact vi0 ih t hsz h v w hv
   | and f g=>exact wi0 ih t hsz h v w hv
   | or f g=>exact zi8 ih t hsz h v w hv
   | imp f g=>exact ui0 ih t hsz h v w hv
   | iff f g=>exact gi0 ih t hsz h v w hv
   | quant a s f=>exact kii ih t hsz h v w hv
theorem zi3 {L:Nat} (hL:L<=35184372088000) (f:Fm) (t:Tr) (h:jdb L f t) (v:Value) (w:World) {p:Nat->Prop} (hv:TrV w p t v):Calls Tryz.prog 115 #[v] w (gdf L f w):=
 uja L hL (f.sz+1) f t (Nat.lt_succ_self _) h v w (hv.mono fun _ _=>trivial)
/- Layer 34: formula.visit: the subformulas, passed to a function. -/
set_option maxRecDepth 100000
set_option maxHeartbeats 8000000
open Go.Shelf
theorem room_of_none {F:Fence} (hd:F.depth=none) (k:Nat):F.room k:=fun d h=>by rw [hd] at h; cases h
theorem RoundIn.anyDepth {F : Fence} (hd : F.depth = none) {m m' : Nat} {P : Program} {l : Nat} {f : FuncId} {tmps : Array Value} {assign body : Code} {w : World} {R : Ending -> World -> Prop}
 (h:RoundIn F m P l f tmps assign body w R):RoundIn F m' P l f tmps assign body w R:=⟨h.1,fun c cs _=>h.2 c cs (room_of_none hd _)⟩
theorem YieldAt.anyDepth {F:Fence} (hd:F.depth=none) {m:Nat} (m':Nat) {P:Program} {l:Nat} {args:Array Value} {W:World} {R:Ending->World->Prop} (h:YieldAt F m P l args W R):YieldAt F m' P l args W R:=by
 obtain ⟨fn,tmps,assign,body,hy,hR⟩:=h;exact ⟨fn,tmps,assign,body,hy,RoundIn.anyDepth hd hR⟩
def xc5 (W W':World):Prop:=W.heap.size<=W'.heap.size/\∀ (i:Nat) (o:Obj),W.heap[i]?=some o->o.isCells=true->W'.heap[i]?=some o
theorem xc5.refl (W:World):xc5 W W:=⟨Nat.le_refl _,fun _ _ h _=>h⟩
theorem xc5.trans {A B C:World} (h:xc5 A B) (k:xc5 B C):xc5 A C:=⟨Nat.le_trans h.1 k.1,fun i o hi ho=>k.2 i o (h.2 i o hi ho) ho⟩
theorem xc5.of_ext {A B:World} (h:Ext A B):xc5 A B:=⟨h.size,fun i o hi _=>(h.below.block i (Array.getElem?_eq_some_iff.1 hi).1).trans hi⟩
theorem xc5.putObj (W:World) (l:Nat) (o o':Obj) (h:W.heap[l]?=some o) (ho:o.isCells=false):xc5 W (W.putObj l o'):=by
 refine ⟨by simp [World.putObj],fun i x hi hx=>?_⟩;have hne:i ≠ l:=fun e=>by subst e; rw [h] at hi; injection hi with hi; subst hi; rw [ho] at hx; cases hx
 rw [World.putObj_heap_other hne]; exact hi
theorem xc5.cell {A B:World} (h:xc5 A B) {a:Addr} {v:Value} (hc:A.cell? a=some v):B.cell? a=some v:=by
 obtain ⟨o,ho,hoc⟩:=cells_of_cell hc;rw [World.cell?_of_block ((h.2 _ _ ho hoc).trans ho.symm)]; exact hc
theorem SlR.keepsCells {α:Type} {P:α->Value->Prop} {w w':World} {v:Value} {l:List α} (h:SlR (fun _=>P) w v l) (k:xc5 w w'):SlR (fun _=>P) w' v l:=by
 obtain ⟨A,c,e,h1,h2,h3⟩:=h;refine ⟨A,c,e,h1,h2,fun j hj=>?_⟩;obtain ⟨ad,x,rfl,hb,hc,hp⟩:=h3 j hj;exact ⟨ad,x,rfl,Nat.lt_of_lt_of_le hb k.1,k.cell hc,hp⟩
structure It (w0 : World) (L : Nat) where
 depth:Int
 f:Fm
 v:Value
 h:FmV w0 L f v
def It.enc {w0:World} {L:Nat} (x:It w0 L):Array Value:=#[.int .i64 x.depth,x.v]
def Fm.pre : Fm -> List Fm
 | .truth b=>[.truth b]
 | .atom l r k=>[.atom l r k]
 | .not f=>.not f :: f.pre
 | .and f g=>.and f g :: (f.pre ++ g.pre)
 | .or f g=>.or f g :: (f.pre ++ g.pre)
 | .imp f g=>.imp f g :: (f.pre ++ g.pre)
 | .iff f g=>.iff f g :: (f.pre ++ g.pre)
 | .quant a s f=>.quant a s f :: f.pre
def wdc (l:List Fm):List Fm:=l.flatMap Fm.pre
theorem Fm.pre_kids (f:Fm):f.pre=f :: wdc f.kids:=by cases f <;> simp [Fm.pre,Fm.kids,wdc]
theorem jh3 (l:List Fm) (k:Nat) (h:k < l.length):wdc (l.take (k+1))=wdc (l.take k) ++ (l[k]).pre:=by
 unfold wdc;rw [List.take_succ_eq_append_getElem h,List.flatMap_append,List.flatMap_singleton]
theorem khb (l:List Fm) (k:Nat):wdc l=wdc (l.take k) ++ wdc (l.drop k):=by
 unfold wdc;rw [<- List.flatMap_append,List.take_append_drop]
theorem khf (l:List Fm) (k:Nat) (h:k < l.length):wdc (l.drop k)=(l[k]).pre ++ wdc (l.drop (k+1)):=by
 unfold wdc;rw [List.drop_eq_getElem_cons h,List.flatMap_cons]
def gil {w0:World} {L:Nat} (J Jx:List (It w0 L)->World->Prop) (pre:List (It w0 L)) (l:List Fm) (W:World) (e:Ending) (W':World):Prop:=
 (e=.returned (.bool true)/\∃ q,q.map It.f=l/\J (pre ++ q) W'/\xc5 W W')\/(e=.returned (.bool false)/\∃ q,q.map It.f <+: l/\Jx (pre ++ q) W')
theorem qim {w0 : World} {L : Nat} (l N : Nat) (J Jx : List (It w0 L) -> World -> Prop) (hJ : ∀ pre W W', J pre W -> Ext W W' -> J pre W')
 (hY:∀ m pre x W,J pre W->pre.length < N->YieldAt Fence.wide m Tryz.prog l x.enc W fun e W'=>(e=.returned (.bool true)/\J (pre ++ [x]) W'/\xc5 W W')\/(e=.returned (.bool false)/\Jx (pre ++ [x]) W')) (n:Nat) :
 ∀ (f:Fm) (v:Value) (m:Nat) (dep:Int) (pre:List (It w0 L)) (W:World),f.sz < n->FmV w0 L f v->J pre W->pre.length+f.pre.length<=N->0<=dep->dep+f.sz<=4611686018427387904 ->
   CallsIn Fence.wide m Tryz.prog 84 #[v,.int .i64 dep,.func (.yield l) #[] #[]] W (gil J Jx pre f.pre W):=by
 induction n with
 | zero=>intro f v m dep pre W h; omega
 | succ n ih =>
 intro f v m dep pre W hsz h hJ0 hN hd1 hd2;have IH:=Lib.hid ih;have HJ:=Lib.hid hJ;have HY:=Lib.hid hY;have H:=Lib.hid h;clear ih hJ hY;obtain ⟨T,x,rfl⟩:=h.iface;clear h;have hdd:∀ k:Nat,(Fence.wide.depth.isSome=true->1<=k):=fun k h=>by cases h
 obtain ⟨fn,tmps,assign,body,hy,hR⟩:=HY.out (m - 1) pre ⟨dep,f,.iface T x,H.out⟩ W hJ0 (by rw [Fm.pre_kids] at hN; simp at hN; omega);have HR:=Lib.hid hR;clear hR;dsimp only [It.enc] at hy;refine callsIn_of_wp Tryz.func84 rfl trivial ?_ rfl;simp only [Tryz.ntmps84,List.size_toArray,List.length_cons,List.length_nil,Nat.reduceAdd,Nat.reduceSub,Array.replicate_succ,Array.replicate_zero,List.push_toArray,List.append_toArray,List.nil_append,List.cons_append]
 gi_wp2_with fail
 refine ⟨hdd _,?_⟩;refine HR.out.mono ?_;rintro e W1 (⟨rfl,hJ1,hk1⟩ | ⟨rfl,hjx⟩)
 · have HJ1:=Lib.hid hJ1;have HK1:=Lib.hid hk1;clear hJ1 hk1 HR hy hJ0
   gi_wp2_with fail
   refine ⟨trivial,hdd _,?_⟩;refine (callsIn_wide.2 (wgv f H.out)).mono ?_;rintro e w2 ⟨s,rfl,hs,hf,hx⟩;obtain ⟨A,c,rfl⟩:=hs.len;have hlen:=f.kids_len;have HS:=Lib.hid hs;have HX:=Lib.hid hx;clear hs hf hx
   gi_wp2_with fail
   gi_loopw [17] (fun iv wr=>∃ k:Nat,k<=f.kids.length/\iv=.int .i64 k/\Hid (∃ q,q.map It.f=f :: wdc (f.kids.take k)/\J (pre ++ q) wr/\xc5 w2 wr)) (fun iv _=>f.kids.length - (intOf iv).toNat)
   case atStart =>
    exact ⟨0,Nat.zero_le _,rfl,⟨[⟨dep,f,_,H.out⟩],by simp [wdc],HJ.out _ _ _ HJ1.out HX.out,xc5.refl _⟩⟩
   case round =>
    obtain ⟨k,hk,rfl,⟨q,hq,hJk,hkk⟩⟩:=hrel;have HQ:=Lib.hid hq;have HJK:=Lib.hid hJk;have HKK:=Lib.hid hkk;clear hq hJk hkk
    by_cases hlt:k < f.kids.length
    · obtain ⟨ad,y,rfl,hc,hp⟩:=SlR.get_ (SlR.keepsCells HS.out HKK.out) k hlt;have HP:=Lib.hid hp;obtain ⟨U,y,rfl⟩:=hp.iface;clear hp;have hkl:=f.kids_lt _ (List.getElem_mem hlt);have HLEN:Hid ((pre ++ q).length+(f.kids[k]).pre.length<=N):=by
       have h1:q.length=(f :: wdc (f.kids.take k)).length:=by rw [<- HQ.out,List.length_map]
       rw [Fm.pre_kids,khb f.kids k,khf _ _ hlt] at hN;simp only [List.length_cons,List.length_append] at hN h1;have:(pre ++ q).length+(f.kids[k]).pre.length<=N:=by rw [List.length_append]; omega
       exact this
      gi_wp2_with fail
      refine ⟨trivial,hdd _,?_⟩;refine (IH.out (f.kids[k]) _ _ (dep+1) (pre ++ q) _ (by omega) HP.out HJK.out HLEN.out (by omega) (by omega)).mono ?_;rintro e w3 (⟨rfl,q2,hq2,hJ2,hk2⟩ | ⟨rfl,q2,hq2,hx2⟩)
      · have HQ2:=Lib.hid hq2;have HJ2:=Lib.hid hJ2;have HK2:=Lib.hid hk2;clear hq2 hJ2 hk2 hc
        gi_wp2_with fail
        go_roundw
        case rel=>exact ⟨k+1,by omega,by go_num,⟨q ++ q2,by rw [List.map_append,HQ.out,HQ2.out,jh3 _ _ hlt]; rfl,by rw [<- List.append_assoc]; exact HJ2.out,HKK.out.trans HK2.out⟩⟩
        case measure=>simp [intOf]; omega
      · have HQ2:=Lib.hid hq2;have HX2:=Lib.hid hx2;clear hq2 hx2 hc
        gi_wp2_with fail
        go_ret;refine .inr ⟨rfl,q ++ q2,?_,by rw [<- List.append_assoc]; exact HX2.out⟩;obtain ⟨r,hr⟩:=HQ2.out;refine ⟨r ++ wdc (f.kids.drop (k+1)),?_⟩;rw [List.map_append,HQ.out,Fm.pre_kids,khb f.kids k,khf _ _ hlt,<- hr];simp
    · have hke:k=f.kids.length:=by omega
      have HD:Hid (q.map It.f=f.pre):=by
       have:=HQ.out;rw [hke,List.take_length,<- Fm.pre_kids] at this;exact this
      clear hke
      gi_wp2_with fail
      go_ret;exact .inl ⟨rfl,q,HD.out,HJK.out,(HK1.out.trans (xc5.of_ext HX.out)).trans HKK.out⟩
 · have HX1:=Lib.hid hjx;clear hjx HR hy hJ0
   gi_wp2_with fail
   go_ret;refine .inr ⟨rfl,[⟨dep,f,_,H.out⟩],?_,HX1.out⟩;rw [Fm.pre_kids];exact ⟨wdc f.kids,rfl⟩
end Go.Proofs.YtopddaabiinboaaGreat
