/- Layer 34: formula.Of: the formula of a tree. -/
import Derived.Test.YtheefiaoimbeiaaGreatDoorMp38
set_option linter.unusedSimpArgs false
set_option linter.unusedVariables false

set_option maxRecDepth 100000
set_option maxHeartbeats 8000000
namespace Go.Proofs.YtheefiaoimbeiaaGreatDoor
open Lib (hid)
open Go.RowKit
def vdq (L : Nat) : Fm -> Tr -> Prop
 | .truth b,t=>t.d.kind=8/\t.ks=[]/\t.d.truth=b
 | .atom l r k,t=>t.d.kind=9/\t.d.rel=r/\1<=r/\r<=6/\∃ x y,t.ks=[x,y]/\wdq L l x/\wdq L k y
 | .not f,t=>t.d.kind=10/\∃ x,t.ks=[x]/\vdq L f x
 | .and f g,t=>t.d.kind=11/\∃ x y,t.ks=[x,y]/\vdq L f x/\vdq L g y
 | .or f g,t=>t.d.kind=12/\∃ x y,t.ks=[x,y]/\vdq L f x/\vdq L g y
 | .imp f g,t=>t.d.kind=13/\∃ x y,t.ks=[x,y]/\vdq L f x/\vdq L g y
 | .iff f g,t=>t.d.kind=14/\∃ x y,t.ks=[x,y]/\vdq L f x/\vdq L g y
 | .quant a s f,t=>t.d.kind=15/\t.d.all=a/\t.d.name=s/\∃ x,t.ks=[x]/\vdq L f x
def ydy (L:Nat) (f:Fm) (w:World) (e:Ending) (w':World):Prop:=∃ v,e=.returned (.tuple #[v,.int .i64 0])/\FmV w' L f v/\Ext w w'
def wd5 (L n:Nat):Prop:=∀ (f:Fm) (t:Tr),f.sz < n->vdq L f t->∀ (v:Value) (w:World),TrV w (fun _=>True) t v->Calls Tryz.prog 8 #[v] w (ydy L f w)
theorem xdl.zF {w:World} {p:Nat->Prop} {l:List Tr} {A:Option Addr} (h:xdl w p l A 0) (hk:0 < l.length):∃ ad A0 n0 c0 A1 n1 c1,A=some ad/\ad.block < w.heap.size/\udx w ad l[0].d (.slice A0 n0 c0) (.slice A1 n1 c1)/\TrV w p l[0] (ndV l[0].d (.slice A0 n0 c0) (.slice A1 n1 c1)):=by
 obtain ⟨ad,A0,n0,c0,A1,n1,c1,e,hb,h1,h2⟩:=h.kid 0 hk;exact ⟨ad,A0,n0,c0,A1,n1,c1,e,hb,h1,h2⟩
theorem udx.nine {w:World} {ad:Addr} {d:Nd} {s A:Value} (h:udx w (ad.add (1 * 9)) d s A):w.cell? ⟨ad.block,ad.off+9,none⟩=some (.int .i64 d.kind)/\w.cell? ⟨ad.block,ad.off+9+1,none⟩=some (.bool d.neg)/\w.cell? ⟨ad.block,ad.off+9+2,none⟩=some s/\w.cell? ⟨ad.block,ad.off+9+3,none⟩=some (.string d.name)/\w.cell? ⟨ad.block,ad.off+9+4,none⟩=some (.int .i64 d.exp)/\w.cell? ⟨ad.block,ad.off+9+5,none⟩=some (.int .i64 d.rel)/\w.cell? ⟨ad.block,ad.off+9+6,none⟩=some (.bool d.truth)/\w.cell? ⟨ad.block,ad.off+9+7,none⟩=some (.bool d.all)/\w.cell? ⟨ad.block,ad.off+9+8,none⟩=some A:=h
theorem kgc {L n:Nat} (ih:wd5 L n) {f g:Fm} (t:Tr) (hsz:(Fm.and f g).sz < n+1) (h:vdq L (.and f g) t) (v:Value) (w:World) (hv:TrV w (fun _=>True) t v):Calls Tryz.prog 24 #[v] w (ydy L (.and f g) w):=by
 have IH:=hid ih;clear ih;obtain ⟨⟨kind,neg,ds,name,exp,rel,truth,all⟩,ks⟩:=t;obtain ⟨abJ,t0,t1,hks,h0,h1⟩:=h;simp only [Tr.d] at abJ;simp only [Tr.ks] at hks;subst abJ hks;simp only [Fm.sz] at hsz;obtain ⟨A0,n0,c0,A,c,rfl,abM,hc1,hc2,hat⟩:=hv.open_
 change xdl w _ [t0,t1] A 0 at hat
 have HAT:=hid hat;clear hv hat abM;unfold ndV;simp only [Tr.d,Tr.ks,py,pQ,pH,Nat.reduceAdd] at hc1 ⊢;obtain ⟨W,hW⟩:=n_m (w.alloc (.cells #[.int .i64 11,.bool neg,.slice A0 n0 c0,.string name,.int .i64 exp,.int .i64 rel,.bool truth,.bool all,.slice A 2 c] 29));have hWx:Ext w W:=by rw [<- hW]; exact (Ext.refl w).alloc _
 have hbx:W.heap[w.heap.size]?=some (.cells #[.int .i64 11,.bool neg,.slice A0 n0 c0,.string name,.int .i64 exp,.int .i64 rel,.bool truth,.bool all,.slice A 2 c] 29):=by rw [<- hW]; exact heap_alloc_new w _
 have hws:w.heap.size < W.heap.size:=by rw [<- hW]; simp
 have b0W:W.cell? ⟨w.heap.size,0,none⟩=some (.int .i64 11):=by simp [World.cell?,hbx]
 have b3W:W.cell? ⟨w.heap.size,3,none⟩=some (.string name):=by simp [World.cell?,hbx]
 have b5W:W.cell? ⟨w.heap.size,5,none⟩=some (.int .i64 rel):=by simp [World.cell?,hbx]
 have b7W:W.cell? ⟨w.heap.size,7,none⟩=some (.bool all):=by simp [World.cell?,hbx]
 have b8W:W.cell? ⟨w.heap.size,8,none⟩=some (.slice A 2 c):=by simp [World.cell?,hbx]
 obtain ⟨ad,B0,m0,d0,B1,m1,d1',hA,abW,⟨e0,e1,e2,e3,e4,e5,e6,e7,e8⟩,hkt⟩:=(HAT.out.ext hWx).zF (by simp);subst hA;have HKT:=hid hkt;have HWX:=hid hWx;have HBX:=hid hbx;clear hkt hWx hbx;simp only [pR] at e0 e1 e3 e4 e5 e6 e7;go_enter Tryz.func24,Tryz.ntmps24;go_wp2_with fail;refine (IH.out f t0 (by omega) h0 _ _ HKT.out).mono ?_;rintro e w1 ⟨v1,rfl,f1,x1⟩;have F1:=hid f1;obtain ⟨T1,u1,rfl⟩:=f1.iface;clear f1 b0W b3W b5W b7W b8W e0 e1 e2 e3 e4 e5 e6 e7 e8;have X1:=hid x1;have abL:w1.heap[w.heap.size]?=some (.cells #[.int .i64 11,.bool neg,.slice A0 n0 c0,.string name,.int .i64 exp,.int .i64 rel,.bool truth,.bool all,.slice (some ad) 2 c] 29):=(x1.below.block _ hws).trans HBX.out;have agK:w1.cell? ⟨w.heap.size,0,none⟩=some (.int .i64 11):=by simp [World.cell?,abL]
 have agJ:w1.cell? ⟨w.heap.size,3,none⟩=some (.string name):=by simp [World.cell?,abL]
 have agI:w1.cell? ⟨w.heap.size,5,none⟩=some (.int .i64 rel):=by simp [World.cell?,abL]
 have agH:w1.cell? ⟨w.heap.size,7,none⟩=some (.bool all):=by simp [World.cell?,abL]
 have agG:w1.cell? ⟨w.heap.size,8,none⟩=some (.slice (some ad) 2 c):=by simp [World.cell?,abL]
 obtain ⟨ad',B0,m0,d0,B1,m1,d1',hA,abW,hnd,hkt⟩:=(HAT.out.ext (HWX.out.trans X1.out)).kid 1 (by simp);obtain ⟨e0,e1,e2,e3,e4,e5,e6,e7,e8⟩:=hnd.nine;clear hnd;injection hA with hA
 subst hA;have ahh:=hid hkt;simp only [rW,pR] at e0 e1 e3 e4 e5 e6 e7;clear hkt x1 abL;go_wp2_with fail;refine (IH.out g t1 (by omega) h1 _ _ ahh.out).mono ?_;rintro e w2 ⟨v2,rfl,f2,x2⟩;have F2:=hid f2;obtain ⟨T2,u2,rfl⟩:=f2.iface;clear f2 agK agJ agI agH agG e0 e1 e2 e3 e4 e5 e6 e7 e8;have X2:=hid (X1.out.trans x2);have abT:w2.heap[w.heap.size]?=some (.cells #[.int .i64 11,.bool neg,.slice A0 n0 c0,.string name,.int .i64 exp,.int .i64 rel,.bool truth,.bool all,.slice (some ad) 2 c] 29):=(X2.out.below.block _ hws).trans HBX.out;have F1':=hid (F1.out.ext x2);have ane:w2.cell? ⟨w.heap.size,0,none⟩=some (.int .i64 11):=by simp [World.cell?,abT]
 have anc:w2.cell? ⟨w.heap.size,3,none⟩=some (.string name):=by simp [World.cell?,abT]
 have anb:w2.cell? ⟨w.heap.size,5,none⟩=some (.int .i64 rel):=by simp [World.cell?,abT]
 have ana:w2.cell? ⟨w.heap.size,7,none⟩=some (.bool all):=by simp [World.cell?,abT]
 have am9:w2.cell? ⟨w.heap.size,8,none⟩=some (.slice (some ad) 2 c):=by simp [World.cell?,abT]
 clear x2 abT;have ach:Hid (FmV w2 L (.and f g) (.iface 136 (.agg #[.iface T1 u1,.iface T2 u2]))):=⟨_,_,rfl,F1'.out,F2.out⟩;have HX:=hid (HWX.out.trans X2.out);go_wp2_with fail
 go_ret2
 exact ⟨_,rfl,ach.out,HX.out⟩
theorem ygc {L n:Nat} (ih:wd5 L n) {f g:Fm} (t:Tr) (hsz:(Fm.and f g).sz < n+1) (h:vdq L (.and f g) t) (v:Value) (w:World) (hv:TrV w (fun _=>True) t v):Calls Tryz.prog 8 #[v] w (ydy L (.and f g) w):=by
 have H:=hid (fun w' (hx:Ext w w')=>kgc ih t hsz h v w' (hv.ext hx));have abJ:t.d.kind=11:=h.1;clear h ih hsz;obtain ⟨⟨kind,neg,ds,name,exp,rel,truth,all⟩,ks⟩:=t;simp only [Tr.d] at abJ;subst abJ;obtain ⟨A0,n0,c0,A,c,rfl,abM,hc1,hc2,hat⟩:=hv.open_;clear hv hat abM hc1 hc2;unfold ndV at H ⊢;simp only [Tr.d,Tr.ks] at H ⊢;go_enter uS,uA;go_wp2_with fail;refine (H.out _ ((Ext.refl w).alloc _)).mono ?_;rintro e w1 ⟨v1,rfl,f1,x1⟩;have F1:=hid f1;have X1:=hid (((Ext.refl w).alloc _).trans x1);obtain ⟨T1,u1,rfl⟩:=f1.iface;clear f1 x1 H;go_wp2_with fail
 go_ret2
 exact ⟨_,rfl,F1.out,X1.out⟩
theorem qgm {L n:Nat} (ih:wd5 L n) {f g:Fm} (t:Tr) (hsz:(Fm.or f g).sz < n+1) (h:vdq L (.or f g) t) (v:Value) (w:World) (hv:TrV w (fun _=>True) t v):Calls Tryz.prog 24 #[v] w (ydy L (.or f g) w):=by
 have IH:=hid ih;clear ih;obtain ⟨⟨kind,neg,ds,name,exp,rel,truth,all⟩,ks⟩:=t;obtain ⟨abJ,t0,t1,hks,h0,h1⟩:=h;simp only [Tr.d] at abJ;simp only [Tr.ks] at hks;subst abJ hks;simp only [Fm.sz] at hsz;obtain ⟨A0,n0,c0,A,c,rfl,abM,hc1,hc2,hat⟩:=hv.open_
 change xdl w _ [t0,t1] A 0 at hat
 have HAT:=hid hat;clear hv hat abM;unfold ndV;simp only [Tr.d,Tr.ks,py,pQ,pH,Nat.reduceAdd] at hc1 ⊢;obtain ⟨W,hW⟩:=n_m (w.alloc (.cells #[.int .i64 12,.bool neg,.slice A0 n0 c0,.string name,.int .i64 exp,.int .i64 rel,.bool truth,.bool all,.slice A 2 c] 29));have hWx:Ext w W:=by rw [<- hW]; exact (Ext.refl w).alloc _
 have hbx:W.heap[w.heap.size]?=some (.cells #[.int .i64 12,.bool neg,.slice A0 n0 c0,.string name,.int .i64 exp,.int .i64 rel,.bool truth,.bool all,.slice A 2 c] 29):=by rw [<- hW]; exact heap_alloc_new w _
 have hws:w.heap.size < W.heap.size:=by rw [<- hW]; simp
 have b0W:W.cell? ⟨w.heap.size,0,none⟩=some (.int .i64 12):=by simp [World.cell?,hbx]
 have b3W:W.cell? ⟨w.heap.size,3,none⟩=some (.string name):=by simp [World.cell?,hbx]
 have b5W:W.cell? ⟨w.heap.size,5,none⟩=some (.int .i64 rel):=by simp [World.cell?,hbx]
 have b7W:W.cell? ⟨w.heap.size,7,none⟩=some (.bool all):=by simp [World.cell?,hbx]
 have b8W:W.cell? ⟨w.heap.size,8,none⟩=some (.slice A 2 c):=by simp [World.cell?,hbx]
 obtain ⟨ad,B0,m0,d0,B1,m1,d1',hA,abW,⟨e0,e1,e2,e3,e4,e5,e6,e7,e8⟩,hkt⟩:=(HAT.out.ext hWx).zF (by simp);subst hA;have HKT:=hid hkt;have HWX:=hid hWx;have HBX:=hid hbx;clear hkt hWx hbx;simp only [pR] at e0 e1 e3 e4 e5 e6 e7;go_enter Tryz.func24,Tryz.ntmps24;go_wp2_with fail;refine (IH.out f t0 (by omega) h0 _ _ HKT.out).mono ?_;rintro e w1 ⟨v1,rfl,f1,x1⟩;have F1:=hid f1;obtain ⟨T1,u1,rfl⟩:=f1.iface;clear f1 b0W b3W b5W b7W b8W e0 e1 e2 e3 e4 e5 e6 e7 e8;have X1:=hid x1;have abL:w1.heap[w.heap.size]?=some (.cells #[.int .i64 12,.bool neg,.slice A0 n0 c0,.string name,.int .i64 exp,.int .i64 rel,.bool truth,.bool all,.slice (some ad) 2 c] 29):=(x1.below.block _ hws).trans HBX.out;have agK:w1.cell? ⟨w.heap.size,0,none⟩=some (.int .i64 12):=by simp [World.cell?,abL]
 have agJ:w1.cell? ⟨w.heap.size,3,none⟩=some (.string name):=by simp [World.cell?,abL]
 have agI:w1.cell? ⟨w.heap.size,5,none⟩=some (.int .i64 rel):=by simp [World.cell?,abL]
 have agH:w1.cell? ⟨w.heap.size,7,none⟩=some (.bool all):=by simp [World.cell?,abL]
 have agG:w1.cell? ⟨w.heap.size,8,none⟩=some (.slice (some ad) 2 c):=by simp [World.cell?,abL]
 obtain ⟨ad',B0,m0,d0,B1,m1,d1',hA,abW,hnd,hkt⟩:=(HAT.out.ext (HWX.out.trans X1.out)).kid 1 (by simp);obtain ⟨e0,e1,e2,e3,e4,e5,e6,e7,e8⟩:=hnd.nine;clear hnd;injection hA with hA
 subst hA;have ahh:=hid hkt;simp only [rW,pR] at e0 e1 e3 e4 e5 e6 e7;clear hkt x1 abL;go_wp2_with fail;refine (IH.out g t1 (by omega) h1 _ _ ahh.out).mono ?_;rintro e w2 ⟨v2,rfl,f2,x2⟩;have F2:=hid f2;obtain ⟨T2,u2,rfl⟩:=f2.iface;clear f2 agK agJ agI agH agG e0 e1 e2 e3 e4 e5 e6 e7 e8;have X2:=hid (X1.out.trans x2);have abT:w2.heap[w.heap.size]?=some (.cells #[.int .i64 12,.bool neg,.slice A0 n0 c0,.string name,.int .i64 exp,.int .i64 rel,.bool truth,.bool all,.slice (some ad) 2 c] 29):=(X2.out.below.block _ hws).trans HBX.out;have F1':=hid (F1.out.ext x2);have ane:w2.cell? ⟨w.heap.size,0,none⟩=some (.int .i64 12):=by simp [World.cell?,abT]
 have anc:w2.cell? ⟨w.heap.size,3,none⟩=some (.string name):=by simp [World.cell?,abT]
 have anb:w2.cell? ⟨w.heap.size,5,none⟩=some (.int .i64 rel):=by simp [World.cell?,abT]
 have ana:w2.cell? ⟨w.heap.size,7,none⟩=some (.bool all):=by simp [World.cell?,abT]
 have am9:w2.cell? ⟨w.heap.size,8,none⟩=some (.slice (some ad) 2 c):=by simp [World.cell?,abT]
 clear x2 abT;have ach:Hid (FmV w2 L (.or f g) (.iface 137 (.agg #[.iface T1 u1,.iface T2 u2]))):=⟨_,_,rfl,F1'.out,F2.out⟩;have HX:=hid (HWX.out.trans X2.out);go_wp2_with fail
 go_ret2
 exact ⟨_,rfl,ach.out,HX.out⟩
theorem xgm {L n:Nat} (ih:wd5 L n) {f g:Fm} (t:Tr) (hsz:(Fm.or f g).sz < n+1) (h:vdq L (.or f g) t) (v:Value) (w:World) (hv:TrV w (fun _=>True) t v):Calls Tryz.prog 8 #[v] w (ydy L (.or f g) w):=by
 have H:=hid (fun w' (hx:Ext w w')=>qgm ih t hsz h v w' (hv.ext hx));have abJ:t.d.kind=12:=h.1;clear h ih hsz;obtain ⟨⟨kind,neg,ds,name,exp,rel,truth,all⟩,ks⟩:=t;simp only [Tr.d] at abJ;subst abJ;obtain ⟨A0,n0,c0,A,c,rfl,abM,hc1,hc2,hat⟩:=hv.open_;clear hv hat abM hc1 hc2;unfold ndV at H ⊢;simp only [Tr.d,Tr.ks] at H ⊢;go_enter uS,uA;go_wp2_with fail;refine (H.out _ ((Ext.refl w).alloc _)).mono ?_;rintro e w1 ⟨v1,rfl,f1,x1⟩;have F1:=hid f1;have X1:=hid (((Ext.refl w).alloc _).trans x1);obtain ⟨T1,u1,rfl⟩:=f1.iface;clear f1 x1 H;go_wp2_with fail
 go_ret2
 exact ⟨_,rfl,F1.out,X1.out⟩
theorem qgc {L n:Nat} (ih:wd5 L n) {f g:Fm} (t:Tr) (hsz:(Fm.imp f g).sz < n+1) (h:vdq L (.imp f g) t) (v:Value) (w:World) (hv:TrV w (fun _=>True) t v):Calls Tryz.prog 24 #[v] w (ydy L (.imp f g) w):=by
 have IH:=hid ih;clear ih;obtain ⟨⟨kind,neg,ds,name,exp,rel,truth,all⟩,ks⟩:=t;obtain ⟨abJ,t0,t1,hks,h0,h1⟩:=h;simp only [Tr.d] at abJ;simp only [Tr.ks] at hks;subst abJ hks;simp only [Fm.sz] at hsz;obtain ⟨A0,n0,c0,A,c,rfl,abM,hc1,hc2,hat⟩:=hv.open_
 change xdl w _ [t0,t1] A 0 at hat
 have HAT:=hid hat;clear hv hat abM;unfold ndV;simp only [Tr.d,Tr.ks,py,pQ,pH,Nat.reduceAdd] at hc1 ⊢;obtain ⟨W,hW⟩:=n_m (w.alloc (.cells #[.int .i64 13,.bool neg,.slice A0 n0 c0,.string name,.int .i64 exp,.int .i64 rel,.bool truth,.bool all,.slice A 2 c] 29));have hWx:Ext w W:=by rw [<- hW]; exact (Ext.refl w).alloc _
 have hbx:W.heap[w.heap.size]?=some (.cells #[.int .i64 13,.bool neg,.slice A0 n0 c0,.string name,.int .i64 exp,.int .i64 rel,.bool truth,.bool all,.slice A 2 c] 29):=by rw [<- hW]; exact heap_alloc_new w _
 have hws:w.heap.size < W.heap.size:=by rw [<- hW]; simp
 have b0W:W.cell? ⟨w.heap.size,0,none⟩=some (.int .i64 13):=by simp [World.cell?,hbx]
 have b3W:W.cell? ⟨w.heap.size,3,none⟩=some (.string name):=by simp [World.cell?,hbx]
 have b5W:W.cell? ⟨w.heap.size,5,none⟩=some (.int .i64 rel):=by simp [World.cell?,hbx]
 have b7W:W.cell? ⟨w.heap.size,7,none⟩=some (.bool all):=by simp [World.cell?,hbx]
 have b8W:W.cell? ⟨w.heap.size,8,none⟩=some (.slice A 2 c):=by simp [World.cell?,hbx]
 obtain ⟨ad,B0,m0,d0,B1,m1,d1',hA,abW,⟨e0,e1,e2,e3,e4,e5,e6,e7,e8⟩,hkt⟩:=(HAT.out.ext hWx).zF (by simp);subst hA;have HKT:=hid hkt;have HWX:=hid hWx;have HBX:=hid hbx;clear hkt hWx hbx;simp only [pR] at e0 e1 e3 e4 e5 e6 e7;go_enter Tryz.func24,Tryz.ntmps24;go_wp2_with fail;refine (IH.out f t0 (by omega) h0 _ _ HKT.out).mono ?_;rintro e w1 ⟨v1,rfl,f1,x1⟩;have F1:=hid f1;obtain ⟨T1,u1,rfl⟩:=f1.iface;clear f1 b0W b3W b5W b7W b8W e0 e1 e2 e3 e4 e5 e6 e7 e8;have X1:=hid x1;have abL:w1.heap[w.heap.size]?=some (.cells #[.int .i64 13,.bool neg,.slice A0 n0 c0,.string name,.int .i64 exp,.int .i64 rel,.bool truth,.bool all,.slice (some ad) 2 c] 29):=(x1.below.block _ hws).trans HBX.out;have agK:w1.cell? ⟨w.heap.size,0,none⟩=some (.int .i64 13):=by simp [World.cell?,abL]
 have agJ:w1.cell? ⟨w.heap.size,3,none⟩=some (.string name):=by simp [World.cell?,abL]
 have agI:w1.cell? ⟨w.heap.size,5,none⟩=some (.int .i64 rel):=by simp [World.cell?,abL]
 have agH:w1.cell? ⟨w.heap.size,7,none⟩=some (.bool all):=by simp [World.cell?,abL]
 have agG:w1.cell? ⟨w.heap.size,8,none⟩=some (.slice (some ad) 2 c):=by simp [World.cell?,abL]
 obtain ⟨ad',B0,m0,d0,B1,m1,d1',hA,abW,hnd,hkt⟩:=(HAT.out.ext (HWX.out.trans X1.out)).kid 1 (by simp);obtain ⟨e0,e1,e2,e3,e4,e5,e6,e7,e8⟩:=hnd.nine;clear hnd;injection hA with hA
 subst hA;have ahh:=hid hkt;simp only [rW,pR] at e0 e1 e3 e4 e5 e6 e7;clear hkt x1 abL;go_wp2_with fail;refine (IH.out g t1 (by omega) h1 _ _ ahh.out).mono ?_;rintro e w2 ⟨v2,rfl,f2,x2⟩;have F2:=hid f2;obtain ⟨T2,u2,rfl⟩:=f2.iface;clear f2 agK agJ agI agH agG e0 e1 e2 e3 e4 e5 e6 e7 e8;have X2:=hid (X1.out.trans x2);have abT:w2.heap[w.heap.size]?=some (.cells #[.int .i64 13,.bool neg,.slice A0 n0 c0,.string name,.int .i64 exp,.int .i64 rel,.bool truth,.bool all,.slice (some ad) 2 c] 29):=(X2.out.below.block _ hws).trans HBX.out;have F1':=hid (F1.out.ext x2);have ane:w2.cell? ⟨w.heap.size,0,none⟩=some (.int .i64 13):=by simp [World.cell?,abT]
 have anc:w2.cell? ⟨w.heap.size,3,none⟩=some (.string name):=by simp [World.cell?,abT]
 have anb:w2.cell? ⟨w.heap.size,5,none⟩=some (.int .i64 rel):=by simp [World.cell?,abT]
 have ana:w2.cell? ⟨w.heap.size,7,none⟩=some (.bool all):=by simp [World.cell?,abT]
 have am9:w2.cell? ⟨w.heap.size,8,none⟩=some (.slice (some ad) 2 c):=by simp [World.cell?,abT]
 clear x2 abT;have ach:Hid (FmV w2 L (.imp f g) (.iface 138 (.agg #[.iface T1 u1,.iface T2 u2]))):=⟨_,_,rfl,F1'.out,F2.out⟩;have HX:=hid (HWX.out.trans X2.out);go_wp2_with fail
 go_ret2
 exact ⟨_,rfl,ach.out,HX.out⟩
theorem wgb {L n:Nat} (ih:wd5 L n) {f g:Fm} (t:Tr) (hsz:(Fm.imp f g).sz < n+1) (h:vdq L (.imp f g) t) (v:Value) (w:World) (hv:TrV w (fun _=>True) t v):Calls Tryz.prog 8 #[v] w (ydy L (.imp f g) w):=by
 have H:=hid (fun w' (hx:Ext w w')=>qgc ih t hsz h v w' (hv.ext hx));have abJ:t.d.kind=13:=h.1;clear h ih hsz;obtain ⟨⟨kind,neg,ds,name,exp,rel,truth,all⟩,ks⟩:=t;simp only [Tr.d] at abJ;subst abJ;obtain ⟨A0,n0,c0,A,c,rfl,abM,hc1,hc2,hat⟩:=hv.open_;clear hv hat abM hc1 hc2;unfold ndV at H ⊢;simp only [Tr.d,Tr.ks] at H ⊢;go_enter uS,uA;go_wp2_with fail;refine (H.out _ ((Ext.refl w).alloc _)).mono ?_;rintro e w1 ⟨v1,rfl,f1,x1⟩;have F1:=hid f1;have X1:=hid (((Ext.refl w).alloc _).trans x1);obtain ⟨T1,u1,rfl⟩:=f1.iface;clear f1 x1 H;go_wp2_with fail
 go_ret2
 exact ⟨_,rfl,F1.out,X1.out⟩
theorem jgc {L n:Nat} (ih:wd5 L n) {f g:Fm} (t:Tr) (hsz:(Fm.iff f g).sz < n+1) (h:vdq L (.iff f g) t) (v:Value) (w:World) (hv:TrV w (fun _=>True) t v):Calls Tryz.prog 24 #[v] w (ydy L (.iff f g) w):=by
 have IH:=hid ih;clear ih;obtain ⟨⟨kind,neg,ds,name,exp,rel,truth,all⟩,ks⟩:=t;obtain ⟨abJ,t0,t1,hks,h0,h1⟩:=h;simp only [Tr.d] at abJ;simp only [Tr.ks] at hks;subst abJ hks;simp only [Fm.sz] at hsz;obtain ⟨A0,n0,c0,A,c,rfl,abM,hc1,hc2,hat⟩:=hv.open_
 change xdl w _ [t0,t1] A 0 at hat
 have HAT:=hid hat;clear hv hat abM;unfold ndV;simp only [Tr.d,Tr.ks,py,pQ,pH,Nat.reduceAdd] at hc1 ⊢;obtain ⟨W,hW⟩:=n_m (w.alloc (.cells #[.int .i64 14,.bool neg,.slice A0 n0 c0,.string name,.int .i64 exp,.int .i64 rel,.bool truth,.bool all,.slice A 2 c] 29));have hWx:Ext w W:=by rw [<- hW]; exact (Ext.refl w).alloc _
 have hbx:W.heap[w.heap.size]?=some (.cells #[.int .i64 14,.bool neg,.slice A0 n0 c0,.string name,.int .i64 exp,.int .i64 rel,.bool truth,.bool all,.slice A 2 c] 29):=by rw [<- hW]; exact heap_alloc_new w _
 have hws:w.heap.size < W.heap.size:=by rw [<- hW]; simp
 have b0W:W.cell? ⟨w.heap.size,0,none⟩=some (.int .i64 14):=by simp [World.cell?,hbx]
 have b3W:W.cell? ⟨w.heap.size,3,none⟩=some (.string name):=by simp [World.cell?,hbx]
 have b5W:W.cell? ⟨w.heap.size,5,none⟩=some (.int .i64 rel):=by simp [World.cell?,hbx]
 have b7W:W.cell? ⟨w.heap.size,7,none⟩=some (.bool all):=by simp [World.cell?,hbx]
 have b8W:W.cell? ⟨w.heap.size,8,none⟩=some (.slice A 2 c):=by simp [World.cell?,hbx]
 obtain ⟨ad,B0,m0,d0,B1,m1,d1',hA,abW,⟨e0,e1,e2,e3,e4,e5,e6,e7,e8⟩,hkt⟩:=(HAT.out.ext hWx).zF (by simp);subst hA;have HKT:=hid hkt;have HWX:=hid hWx;have HBX:=hid hbx;clear hkt hWx hbx;simp only [pR] at e0 e1 e3 e4 e5 e6 e7;go_enter Tryz.func24,Tryz.ntmps24;go_wp2_with fail;refine (IH.out f t0 (by omega) h0 _ _ HKT.out).mono ?_;rintro e w1 ⟨v1,rfl,f1,x1⟩;have F1:=hid f1;obtain ⟨T1,u1,rfl⟩:=f1.iface;clear f1 b0W b3W b5W b7W b8W e0 e1 e2 e3 e4 e5 e6 e7 e8;have X1:=hid x1;have abL:w1.heap[w.heap.size]?=some (.cells #[.int .i64 14,.bool neg,.slice A0 n0 c0,.string name,.int .i64 exp,.int .i64 rel,.bool truth,.bool all,.slice (some ad) 2 c] 29):=(x1.below.block _ hws).trans HBX.out;have agK:w1.cell? ⟨w.heap.size,0,none⟩=some (.int .i64 14):=by simp [World.cell?,abL]
 have agJ:w1.cell? ⟨w.heap.size,3,none⟩=some (.string name):=by simp [World.cell?,abL]
 have agI:w1.cell? ⟨w.heap.size,5,none⟩=some (.int .i64 rel):=by simp [World.cell?,abL]
 have agH:w1.cell? ⟨w.heap.size,7,none⟩=some (.bool all):=by simp [World.cell?,abL]
 have agG:w1.cell? ⟨w.heap.size,8,none⟩=some (.slice (some ad) 2 c):=by simp [World.cell?,abL]
 obtain ⟨ad',B0,m0,d0,B1,m1,d1',hA,abW,hnd,hkt⟩:=(HAT.out.ext (HWX.out.trans X1.out)).kid 1 (by simp);obtain ⟨e0,e1,e2,e3,e4,e5,e6,e7,e8⟩:=hnd.nine;clear hnd;injection hA with hA
 subst hA;have ahh:=hid hkt;simp only [rW,pR] at e0 e1 e3 e4 e5 e6 e7;clear hkt x1 abL;go_wp2_with fail;refine (IH.out g t1 (by omega) h1 _ _ ahh.out).mono ?_;rintro e w2 ⟨v2,rfl,f2,x2⟩;have F2:=hid f2;obtain ⟨T2,u2,rfl⟩:=f2.iface;clear f2 agK agJ agI agH agG e0 e1 e2 e3 e4 e5 e6 e7 e8;have X2:=hid (X1.out.trans x2);have abT:w2.heap[w.heap.size]?=some (.cells #[.int .i64 14,.bool neg,.slice A0 n0 c0,.string name,.int .i64 exp,.int .i64 rel,.bool truth,.bool all,.slice (some ad) 2 c] 29):=(X2.out.below.block _ hws).trans HBX.out;have F1':=hid (F1.out.ext x2);have ane:w2.cell? ⟨w.heap.size,0,none⟩=some (.int .i64 14):=by simp [World.cell?,abT]
 have anc:w2.cell? ⟨w.heap.size,3,none⟩=some (.string name):=by simp [World.cell?,abT]
 have anb:w2.cell? ⟨w.heap.size,5,none⟩=some (.int .i64 rel):=by simp [World.cell?,abT]
 have ana:w2.cell? ⟨w.heap.size,7,none⟩=some (.bool all):=by simp [World.cell?,abT]
 have am9:w2.cell? ⟨w.heap.size,8,none⟩=some (.slice (some ad) 2 c):=by simp [World.cell?,abT]
 clear x2 abT;have ach:Hid (FmV w2 L (.iff f g) (.iface 139 (.agg #[.iface T1 u1,.iface T2 u2]))):=⟨_,_,rfl,F1'.out,F2.out⟩;have HX:=hid (HWX.out.trans X2.out);go_wp2_with fail
 go_ret2
 exact ⟨_,rfl,ach.out,HX.out⟩
theorem zgc {L n:Nat} (ih:wd5 L n) {f g:Fm} (t:Tr) (hsz:(Fm.iff f g).sz < n+1) (h:vdq L (.iff f g) t) (v:Value) (w:World) (hv:TrV w (fun _=>True) t v):Calls Tryz.prog 8 #[v] w (ydy L (.iff f g) w):=by
 have H:=hid (fun w' (hx:Ext w w')=>jgc ih t hsz h v w' (hv.ext hx));have abJ:t.d.kind=14:=h.1;clear h ih hsz;obtain ⟨⟨kind,neg,ds,name,exp,rel,truth,all⟩,ks⟩:=t;simp only [Tr.d] at abJ;subst abJ;obtain ⟨A0,n0,c0,A,c,rfl,abM,hc1,hc2,hat⟩:=hv.open_;clear hv hat abM hc1 hc2;unfold ndV at H ⊢;simp only [Tr.d,Tr.ks] at H ⊢;go_enter uS,uA;go_wp2_with fail;refine (H.out _ ((Ext.refl w).alloc _)).mono ?_;rintro e w1 ⟨v1,rfl,f1,x1⟩;have F1:=hid f1;have X1:=hid (((Ext.refl w).alloc _).trans x1);obtain ⟨T1,u1,rfl⟩:=f1.iface;clear f1 x1 H;go_wp2_with fail
 go_ret2
 exact ⟨_,rfl,F1.out,X1.out⟩
theorem xgc {L n:Nat} (ih:wd5 L n) {f:Fm} (t:Tr) (hsz:(Fm.not f).sz < n+1) (h:vdq L (.not f) t) (v:Value) (w:World) (hv:TrV w (fun _=>True) t v):Calls Tryz.prog 23 #[v] w (ydy L (.not f) w):=by
 have IH:=hid ih;clear ih;obtain ⟨⟨kind,neg,ds,name,exp,rel,truth,all⟩,ks⟩:=t;obtain ⟨abJ,t0,hks,h0⟩:=h;simp only [Tr.d] at abJ;simp only [Tr.ks] at hks;subst abJ hks;simp only [Fm.sz] at hsz;obtain ⟨A0,n0,c0,A,c,rfl,abM,hc1,hc2,hat⟩:=hv.open_
 change xdl w _ [t0] A 0 at hat
 have HAT:=hid hat;clear hv hat abM;unfold ndV;simp only [Tr.d,Tr.ks,py,pQ,pH,Nat.reduceAdd] at hc1 ⊢;obtain ⟨W,hW⟩:=n_m (w.alloc (.cells #[.int .i64 10,.bool neg,.slice A0 n0 c0,.string name,.int .i64 exp,.int .i64 rel,.bool truth,.bool all,.slice A 1 c] 29));have hWx:Ext w W:=by rw [<- hW]; exact (Ext.refl w).alloc _
 have hbx:W.heap[w.heap.size]?=some (.cells #[.int .i64 10,.bool neg,.slice A0 n0 c0,.string name,.int .i64 exp,.int .i64 rel,.bool truth,.bool all,.slice A 1 c] 29):=by rw [<- hW]; exact heap_alloc_new w _
 have hws:w.heap.size < W.heap.size:=by rw [<- hW]; simp
 have b0W:W.cell? ⟨w.heap.size,0,none⟩=some (.int .i64 10):=by simp [World.cell?,hbx]
 have b3W:W.cell? ⟨w.heap.size,3,none⟩=some (.string name):=by simp [World.cell?,hbx]
 have b5W:W.cell? ⟨w.heap.size,5,none⟩=some (.int .i64 rel):=by simp [World.cell?,hbx]
 have b7W:W.cell? ⟨w.heap.size,7,none⟩=some (.bool all):=by simp [World.cell?,hbx]
 have b8W:W.cell? ⟨w.heap.size,8,none⟩=some (.slice A 1 c):=by simp [World.cell?,hbx]
 obtain ⟨ad,B0,m0,d0,B1,m1,d1',hA,abW,⟨e0,e1,e2,e3,e4,e5,e6,e7,e8⟩,hkt⟩:=(HAT.out.ext hWx).zF (by simp);subst hA;have HKT:=hid hkt;have HWX:=hid hWx;have HBX:=hid hbx;clear hkt hWx hbx;simp only [pR] at e0 e1 e3 e4 e5 e6 e7;go_enter Tryz.func23,Tryz.ntmps23;go_wp2_with fail;refine (IH.out f t0 (by omega) h0 _ _ HKT.out).mono ?_;rintro e w1 ⟨v1,rfl,f1,x1⟩;have F1:=hid f1;obtain ⟨T1,u1,rfl⟩:=f1.iface;clear f1 b0W b3W b5W b7W b8W e0 e1 e2 e3 e4 e5 e6 e7 e8;have X1:=hid x1;have abL:w1.heap[w.heap.size]?=some (.cells #[.int .i64 10,.bool neg,.slice A0 n0 c0,.string name,.int .i64 exp,.int .i64 rel,.bool truth,.bool all,.slice (some ad) 1 c] 29):=(x1.below.block _ hws).trans HBX.out;have agK:w1.cell? ⟨w.heap.size,0,none⟩=some (.int .i64 10):=by simp [World.cell?,abL]
 have agJ:w1.cell? ⟨w.heap.size,3,none⟩=some (.string name):=by simp [World.cell?,abL]
 have agI:w1.cell? ⟨w.heap.size,5,none⟩=some (.int .i64 rel):=by simp [World.cell?,abL]
 have agH:w1.cell? ⟨w.heap.size,7,none⟩=some (.bool all):=by simp [World.cell?,abL]
 have agG:w1.cell? ⟨w.heap.size,8,none⟩=some (.slice (some ad) 1 c):=by simp [World.cell?,abL]
 clear x1 abL;have ach:Hid (FmV w1 L (.not f) (.iface 134 (.agg #[.iface T1 u1]))):=⟨_,rfl,F1.out⟩;have HX:=hid (HWX.out.trans X1.out);go_wp2_with fail
 go_ret2
 exact ⟨_,rfl,ach.out,HX.out⟩
theorem ggb {L n:Nat} (ih:wd5 L n) {f:Fm} (t:Tr) (hsz:(Fm.not f).sz < n+1) (h:vdq L (.not f) t) (v:Value) (w:World) (hv:TrV w (fun _=>True) t v):Calls Tryz.prog 8 #[v] w (ydy L (.not f) w):=by
 have H:=hid (fun w' (hx:Ext w w')=>xgc ih t hsz h v w' (hv.ext hx));have abJ:t.d.kind=10:=h.1;clear h ih hsz;obtain ⟨⟨kind,neg,ds,name,exp,rel,truth,all⟩,ks⟩:=t;simp only [Tr.d] at abJ;subst abJ;obtain ⟨A0,n0,c0,A,c,rfl,abM,hc1,hc2,hat⟩:=hv.open_;clear hv hat abM hc1 hc2;unfold ndV at H ⊢;simp only [Tr.d,Tr.ks] at H ⊢;go_enter uS,uA;go_wp2_with fail;refine (H.out _ ((Ext.refl w).alloc _)).mono ?_;rintro e w1 ⟨v1,rfl,f1,x1⟩;have F1:=hid f1;have X1:=hid (((Ext.refl w).alloc _).trans x1);obtain ⟨T1,u1,rfl⟩:=f1.iface;clear f1 x1 H;go_wp2_with fail
 go_ret2
 exact ⟨_,rfl,F1.out,X1.out⟩
theorem kfq {L n:Nat} (ih:wd5 L n) {al:Bool} {q:ByteArray} {f:Fm} (t:Tr) (hsz:(Fm.quant al q f).sz < n+1) (h:vdq L (.quant al q f) t) (v:Value) (w:World) (hv:TrV w (fun _=>True) t v):Calls Tryz.prog 23 #[v] w (ydy L (.quant al q f) w):=by
 have IH:=hid ih;clear ih;obtain ⟨⟨kind,neg,ds,name,exp,rel,truth,all⟩,ks⟩:=t;obtain ⟨abJ,acl,ahy,t0,hks,h0⟩:=h;simp only [Tr.d] at acl ahy;subst acl ahy;simp only [Tr.d] at abJ;simp only [Tr.ks] at hks;subst abJ hks;simp only [Fm.sz] at hsz;obtain ⟨A0,n0,c0,A,c,rfl,abM,hc1,hc2,hat⟩:=hv.open_
 change xdl w _ [t0] A 0 at hat
 have HAT:=hid hat;clear hv hat abM;unfold ndV;simp only [Tr.d,Tr.ks,py,pQ,pH,Nat.reduceAdd] at hc1 ⊢;obtain ⟨W,hW⟩:=n_m (w.alloc (.cells #[.int .i64 15,.bool neg,.slice A0 n0 c0,.string name,.int .i64 exp,.int .i64 rel,.bool truth,.bool all,.slice A 1 c] 29));have hWx:Ext w W:=by rw [<- hW]; exact (Ext.refl w).alloc _
 have hbx:W.heap[w.heap.size]?=some (.cells #[.int .i64 15,.bool neg,.slice A0 n0 c0,.string name,.int .i64 exp,.int .i64 rel,.bool truth,.bool all,.slice A 1 c] 29):=by rw [<- hW]; exact heap_alloc_new w _
 have hws:w.heap.size < W.heap.size:=by rw [<- hW]; simp
 have b0W:W.cell? ⟨w.heap.size,0,none⟩=some (.int .i64 15):=by simp [World.cell?,hbx]
 have b3W:W.cell? ⟨w.heap.size,3,none⟩=some (.string name):=by simp [World.cell?,hbx]
 have b5W:W.cell? ⟨w.heap.size,5,none⟩=some (.int .i64 rel):=by simp [World.cell?,hbx]
 have b7W:W.cell? ⟨w.heap.size,7,none⟩=some (.bool all):=by simp [World.cell?,hbx]
 have b8W:W.cell? ⟨w.heap.size,8,none⟩=some (.slice A 1 c):=by simp [World.cell?,hbx]
 obtain ⟨ad,B0,m0,d0,B1,m1,d1',hA,abW,⟨e0,e1,e2,e3,e4,e5,e6,e7,e8⟩,hkt⟩:=(HAT.out.ext hWx).zF (by simp);subst hA;have HKT:=hid hkt;have HWX:=hid hWx;have HBX:=hid hbx;clear hkt hWx hbx;simp only [pR] at e0 e1 e3 e4 e5 e6 e7;go_enter Tryz.func23,Tryz.ntmps23;go_wp2_with fail;refine (IH.out f t0 (by omega) h0 _ _ HKT.out).mono ?_;rintro e w1 ⟨v1,rfl,f1,x1⟩;have F1:=hid f1;obtain ⟨T1,u1,rfl⟩:=f1.iface;clear f1 b0W b3W b5W b7W b8W e0 e1 e2 e3 e4 e5 e6 e7 e8;have X1:=hid x1;have abL:w1.heap[w.heap.size]?=some (.cells #[.int .i64 15,.bool neg,.slice A0 n0 c0,.string name,.int .i64 exp,.int .i64 rel,.bool truth,.bool all,.slice (some ad) 1 c] 29):=(x1.below.block _ hws).trans HBX.out;have agK:w1.cell? ⟨w.heap.size,0,none⟩=some (.int .i64 15):=by simp [World.cell?,abL]
 have agJ:w1.cell? ⟨w.heap.size,3,none⟩=some (.string name):=by simp [World.cell?,abL]
 have agI:w1.cell? ⟨w.heap.size,5,none⟩=some (.int .i64 rel):=by simp [World.cell?,abL]
 have agH:w1.cell? ⟨w.heap.size,7,none⟩=some (.bool all):=by simp [World.cell?,abL]
 have agG:w1.cell? ⟨w.heap.size,8,none⟩=some (.slice (some ad) 1 c):=by simp [World.cell?,abL]
 clear x1 abL;have ach:Hid (FmV w1 L (.quant all name f) (.iface 79 (.agg #[.bool all,.string name,.iface T1 u1]))):=⟨_,rfl,F1.out⟩;have HX:=hid (HWX.out.trans X1.out);go_wp2_with fail
 go_ret2
 exact ⟨_,rfl,ach.out,HX.out⟩
theorem jfq {L n:Nat} (ih:wd5 L n) {al:Bool} {q:ByteArray} {f:Fm} (t:Tr) (hsz:(Fm.quant al q f).sz < n+1) (h:vdq L (.quant al q f) t) (v:Value) (w:World) (hv:TrV w (fun _=>True) t v):Calls Tryz.prog 8 #[v] w (ydy L (.quant al q f) w):=by
 have H:=hid (fun w' (hx:Ext w w')=>kfq ih t hsz h v w' (hv.ext hx));have abJ:t.d.kind=15:=h.1;clear h ih hsz;obtain ⟨⟨kind,neg,ds,name,exp,rel,truth,all⟩,ks⟩:=t;simp only [Tr.d] at abJ;subst abJ;obtain ⟨A0,n0,c0,A,c,rfl,abM,hc1,hc2,hat⟩:=hv.open_;clear hv hat abM hc1 hc2;unfold ndV at H ⊢;simp only [Tr.d,Tr.ks] at H ⊢;go_enter uS,uA;go_wp2_with fail;refine (H.out _ ((Ext.refl w).alloc _)).mono ?_;rintro e w1 ⟨v1,rfl,f1,x1⟩;have F1:=hid f1;have X1:=hid (((Ext.refl w).alloc _).trans x1);obtain ⟨T1,u1,rfl⟩:=f1.iface;clear f1 x1 H;go_wp2_with fail
 go_ret2
 exact ⟨_,rfl,F1.out,X1.out⟩
theorem uf0 {L n:Nat} (hL:L<=35184372088000) (ih:wd5 L n) {l k:Tm} {rr:Int} (t:Tr) (hsz:(Fm.atom l rr k).sz < n+1) (h:vdq L (.atom l rr k) t) (v:Value) (w:World) (hv:TrV w (fun _=>True) t v):Calls Tryz.prog 22 #[v] w (ydy L (.atom l rr k) w):=by
 have IH:=hid ih;clear ih;obtain ⟨⟨kind,neg,ds,name,exp,rel,truth,all⟩,ks⟩:=t;obtain ⟨abJ,hrel,hr1,hr6,t0,t1,hks,h0,h1⟩:=h;simp only [Tr.d] at hrel;subst hrel;have d1:decide (rel < 1)=false:=by simp; omega
 have d6:decide (6 < rel)=false:=by simp; omega
 simp only [Tr.d] at abJ;simp only [Tr.ks] at hks;subst abJ hks;simp only [Fm.sz] at hsz;obtain ⟨A0,n0,c0,A,c,rfl,abM,hc1,hc2,hat⟩:=hv.open_
 change xdl w _ [t0,t1] A 0 at hat
 have HAT:=hid hat;clear hv hat abM;unfold ndV;simp only [Tr.d,Tr.ks,py,pQ,pH,Nat.reduceAdd] at hc1 ⊢;obtain ⟨W,hW⟩:=n_m (w.alloc (.cells #[.int .i64 9,.bool neg,.slice A0 n0 c0,.string name,.int .i64 exp,.int .i64 rel,.bool truth,.bool all,.slice A 2 c] 29));have hWx:Ext w W:=by rw [<- hW]; exact (Ext.refl w).alloc _
 have hbx:W.heap[w.heap.size]?=some (.cells #[.int .i64 9,.bool neg,.slice A0 n0 c0,.string name,.int .i64 exp,.int .i64 rel,.bool truth,.bool all,.slice A 2 c] 29):=by rw [<- hW]; exact heap_alloc_new w _
 have hws:w.heap.size < W.heap.size:=by rw [<- hW]; simp
 have b0W:W.cell? ⟨w.heap.size,0,none⟩=some (.int .i64 9):=by simp [World.cell?,hbx]
 have b3W:W.cell? ⟨w.heap.size,3,none⟩=some (.string name):=by simp [World.cell?,hbx]
 have b5W:W.cell? ⟨w.heap.size,5,none⟩=some (.int .i64 rel):=by simp [World.cell?,hbx]
 have b7W:W.cell? ⟨w.heap.size,7,none⟩=some (.bool all):=by simp [World.cell?,hbx]
 have b8W:W.cell? ⟨w.heap.size,8,none⟩=some (.slice A 2 c):=by simp [World.cell?,hbx]
 obtain ⟨ad,B0,m0,d0,B1,m1,d1',hA,abW,⟨e0,e1,e2,e3,e4,e5,e6,e7,e8⟩,hkt⟩:=(HAT.out.ext hWx).zF (by simp);subst hA;have HKT:=hid hkt;have HWX:=hid hWx;have HBX:=hid hbx;clear hkt hWx hbx;simp only [pR] at e0 e1 e3 e4 e5 e6 e7;go_enter Tryz.func22,Tryz.ntmps22;go_wp2_with fail;refine (wer hL l t0 h0 _ _ HKT.out).mono ?_;rintro e w1 ⟨v1,rfl,f1,x1⟩;have F1:=hid f1;obtain ⟨T1,u1,rfl⟩:=f1.iface;clear f1 b0W b3W b5W b7W b8W e0 e1 e2 e3 e4 e5 e6 e7 e8;have X1:=hid x1;have abL:w1.heap[w.heap.size]?=some (.cells #[.int .i64 9,.bool neg,.slice A0 n0 c0,.string name,.int .i64 exp,.int .i64 rel,.bool truth,.bool all,.slice (some ad) 2 c] 29):=(x1.below.block _ hws).trans HBX.out;have agK:w1.cell? ⟨w.heap.size,0,none⟩=some (.int .i64 9):=by simp [World.cell?,abL]
 have agJ:w1.cell? ⟨w.heap.size,3,none⟩=some (.string name):=by simp [World.cell?,abL]
 have agI:w1.cell? ⟨w.heap.size,5,none⟩=some (.int .i64 rel):=by simp [World.cell?,abL]
 have agH:w1.cell? ⟨w.heap.size,7,none⟩=some (.bool all):=by simp [World.cell?,abL]
 have agG:w1.cell? ⟨w.heap.size,8,none⟩=some (.slice (some ad) 2 c):=by simp [World.cell?,abL]
 obtain ⟨ad',B0,m0,d0,B1,m1,d1',hA,abW,hnd,hkt⟩:=(HAT.out.ext (HWX.out.trans X1.out)).kid 1 (by simp);obtain ⟨e0,e1,e2,e3,e4,e5,e6,e7,e8⟩:=hnd.nine;clear hnd;injection hA with hA
 subst hA;have ahh:=hid hkt;simp only [rW,pR] at e0 e1 e3 e4 e5 e6 e7;clear hkt x1 abL;go_wp2_with fail;refine (wer hL k t1 h1 _ _ ahh.out).mono ?_;rintro e w2 ⟨v2,rfl,f2,x2⟩;have F2:=hid f2;obtain ⟨T2,u2,rfl⟩:=f2.iface;clear f2 agK agJ agI agH agG e0 e1 e2 e3 e4 e5 e6 e7 e8;have X2:=hid (X1.out.trans x2);have abT:w2.heap[w.heap.size]?=some (.cells #[.int .i64 9,.bool neg,.slice A0 n0 c0,.string name,.int .i64 exp,.int .i64 rel,.bool truth,.bool all,.slice (some ad) 2 c] 29):=(X2.out.below.block _ hws).trans HBX.out;have F1':=hid (F1.out.ext x2);have ane:w2.cell? ⟨w.heap.size,0,none⟩=some (.int .i64 9):=by simp [World.cell?,abT]
 have anc:w2.cell? ⟨w.heap.size,3,none⟩=some (.string name):=by simp [World.cell?,abT]
 have anb:w2.cell? ⟨w.heap.size,5,none⟩=some (.int .i64 rel):=by simp [World.cell?,abT]
 have ana:w2.cell? ⟨w.heap.size,7,none⟩=some (.bool all):=by simp [World.cell?,abT]
 have am9:w2.cell? ⟨w.heap.size,8,none⟩=some (.slice (some ad) 2 c):=by simp [World.cell?,abT]
 clear x2 abT;have ach:Hid (FmV w2 L (.atom l rel k) (.iface 77 (.agg #[.iface T1 u1,.int .i64 rel,.iface T2 u2]))):=⟨_,_,rfl,F1'.out,F2.out⟩;have HX:=hid (HWX.out.trans X2.out);go_wp2_with fail
 go_ret2
 exact ⟨_,rfl,ach.out,HX.out⟩
theorem vf0 {L n:Nat} (hL:L<=35184372088000) (ih:wd5 L n) {l k:Tm} {rr:Int} (t:Tr) (hsz:(Fm.atom l rr k).sz < n+1) (h:vdq L (.atom l rr k) t) (v:Value) (w:World) (hv:TrV w (fun _=>True) t v):Calls Tryz.prog 8 #[v] w (ydy L (.atom l rr k) w):=by
 have H:=hid (fun w' (hx:Ext w w')=>uf0 hL ih t hsz h v w' (hv.ext hx));have abJ:t.d.kind=9:=h.1;clear h ih hsz;obtain ⟨⟨kind,neg,ds,name,exp,rel,truth,all⟩,ks⟩:=t;simp only [Tr.d] at abJ;subst abJ;obtain ⟨A0,n0,c0,A,c,rfl,abM,hc1,hc2,hat⟩:=hv.open_;clear hv hat abM hc1 hc2;unfold ndV at H ⊢;simp only [Tr.d,Tr.ks] at H ⊢;go_enter uS,uA;go_wp2_with fail;refine (H.out _ ((Ext.refl w).alloc _)).mono ?_;rintro e w1 ⟨v1,rfl,f1,x1⟩;have F1:=hid f1;have X1:=hid (((Ext.refl w).alloc _).trans x1);obtain ⟨T1,u1,rfl⟩:=f1.iface;clear f1 x1 H;go_wp2_with fail
 go_ret2
 exact ⟨_,rfl,F1.out,X1.out⟩
theorem qfq {L:Nat} {b:Bool} (t:Tr) (h:vdq L (.truth b) t) (v:Value) (w:World) (hv:TrV w (fun _=>True) t v):Calls Tryz.prog 8 #[v] w (ydy L (.truth b) w):=by
 obtain ⟨⟨kind,neg,ds,name,exp,rel,truth,all⟩,ks⟩:=t;obtain ⟨abJ,hks,ht⟩:=h;simp only [Tr.d] at abJ ht;simp only [Tr.ks] at hks;subst abJ hks ht;obtain ⟨A0,n0,c0,A,c,rfl,abM,hc1,hc2,hat⟩:=hv.open_;clear hv hat abM hc1 hc2;unfold ndV;simp only [Tr.d,Tr.ks,pQ];go_enter uS,uA;go_wp2_with fail
 go_ret2
 exact ⟨_,rfl,rfl,(Ext.refl w).alloc _⟩
theorem vgq (L:Nat) (hL:L<=35184372088000) (n:Nat):wd5 L n:=by
 induction n with
 | zero=>intro m t h; omega
 | succ n ih =>
   intro m t hsz h v w hv;cases m with
   | truth b=>exact qfq t h v w hv
   | atom l r k=>exact vf0 hL ih t hsz h v w hv
   | not f=>exact ggb ih t hsz h v w hv
   | and f g=>exact ygc ih t hsz h v w hv
   | or f g=>exact xgm ih t hsz h v w hv
   | imp f g=>exact wgb ih t hsz h v w hv
   | iff f g=>exact zgc ih t hsz h v w hv
   | quant a s f=>exact jfq ih t hsz h v w hv
theorem zfe {L:Nat} (hL:L<=35184372088000) (f:Fm) (t:Tr) (h:vdq L f t) (v:Value) (w:World) {p:Nat->Prop} (hv:TrV w p t v):Calls Tryz.prog 8 #[v] w (ydy L f w):=
 vgq L hL (f.sz+1) f t (pO _) h v w (hv.mono fun _ _=>trivial)
end Go.Proofs.YtheefiaoimbeiaaGreatDoor
