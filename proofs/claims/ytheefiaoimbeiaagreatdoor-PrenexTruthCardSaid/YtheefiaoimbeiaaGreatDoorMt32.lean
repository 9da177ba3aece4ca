/- Law 38: the truth of a formula's tree at integers. -/
import Derived.Test.YtheefiaoimbeiaaGreatDoorMt31
import Derived.Test.YtheefiaoimbeiaaGreatDoorMt18
import Derived.Test.YtheefiaoimbeiaaGreatDoorMt6
import Derived.Test.YtheefiaoimbeiaaGreatDoorMt24
import Derived.Test.YtheefiaoimbeiaaGreatDoorMt25
import Derived.Test.YtheefiaoimbeiaaGreatDoorMt27
import Derived.Test.YtheefiaoimbeiaaGreatDoorMt7
import Derived.Test.YtheefiaoimbeiaaGreatDoorMt30
set_option linter.unusedSimpArgs false
set_option linter.unusedVariables false

set_option maxRecDepth 100000
set_option maxHeartbeats 8000000
namespace Go.Proofs.YtheefiaoimbeiaaGreatDoor
open Go.RowKit
def Fm.fineL (L : Nat) : Fm -> Prop
 | .truth _=>True
 | .atom l _ k=>l.bt L<=1000000000000/\k.bt L<=1000000000000
 | .not f=>f.fineL L
 | .and f h=>f.fineL L/\h.fineL L
 | .or f h=>f.fineL L/\h.fineL L
 | .imp f h=>f.fineL L/\h.fineL L
 | .iff f h=>f.fineL L/\h.fineL L
 | .quant _ _ f=>f.fineL L
def gaj (L:Nat) (p:Nat->Prop) (sn sx:Value) (ns:List ByteArray) (xs:List Int) (f:Fm):Prop:=∀ (t:Tr) (v:Value) (w:World),zx L f t->TrV w p t v->NxV w sn sx ns xs->Calls Tryz.prog 13 #[v,sn,sx] w (kad (f.itv (uh ns xs)) w)
section
variable {L:Nat} {p:Nat->Prop} {sn sx:Value} {ns:List ByteArray} {xs:List Int}
theorem zca {b:Bool}:gaj L p sn sx ns xs (.truth b):=by
 intro t v w h hv hvs;obtain ⟨⟨kind,neg,ds,name,exp,rel,truth,all⟩,ks⟩:=t;obtain ⟨hkind,hks,htr⟩:=h;simp only [Tr.d] at hkind htr;simp only [Tr.ks] at hks;subst hkind hks htr;obtain ⟨A0,n0,c0,A,c,rfl,hnat,hc1,hc2,hat⟩:=hv.open_;clear hv hnat hat;unfold ndV;simp only [Tr.d,Tr.ks,List.length_nil] at hc1 ⊢;have HVS:=Lib.hid hvs;obtain ⟨⟨An,cn,rfl,hn1,hn2,-⟩,⟨Ax,cx,rfl,hx1,hx2,-⟩⟩:=hvs;go_enter Tryz.func13,Tryz.ntmps13;go_wp2_with fail;go_ret;exact ⟨rfl,(Ext.refl w).alloc _⟩
theorem gcv {f:Fm} (ihf:gaj L p sn sx ns xs f):gaj L p sn sx ns xs (.not f):=by
 intro t v w h hv hvs
 change Calls _ _ _ _ (kad (!f.itv (uh ns xs)) w)
 have IHA:=Lib.hid ihf;clear ihf;obtain ⟨⟨kind,neg,ds,name,exp,rel,truth,all⟩,ks⟩:=t;obtain ⟨hkind,t0,hks,h0⟩:=h;simp only [Tr.d] at hkind;simp only [Tr.ks] at hks;subst hkind hks;have H0:=Lib.hid h0;clear h0;obtain ⟨A0,n0,c0,A,c,rfl,hnat,hc1,hc2,hat⟩:=hv.open_
 change ug w p [t0] A 0 at hat
 clear hv hnat;unfold ndV;simp only [Tr.d,Tr.ks,List.length_cons,List.length_nil,Nat.zero_add,Nat.reduceAdd] at hc1 ⊢;have HVS:=Lib.hid hvs;obtain ⟨⟨An,cn,rfl,hn1,hn2,-⟩,⟨Ax,cx,rfl,hx1,hx2,-⟩⟩:=hvs;obtain ⟨W,hW⟩:=n_m (w.alloc (.cells #[.int .i64 10,.bool neg,.slice A0 n0 c0,.string name,.int .i64 exp,.int .i64 rel,.bool truth,.bool all,.slice A 1 c] 29));have hWx:Ext w W:=by rw [<- hW]; exact (Ext.refl w).alloc _
 have hWs:W.heap.size=w.heap.size+1:=by rw [<- hW]; simp
 have hbx:W.heap[w.heap.size]?=some (.cells #[.int .i64 10,.bool neg,.slice A0 n0 c0,.string name,.int .i64 exp,.int .i64 rel,.bool truth,.bool all,.slice A 1 c] 29 (0,0)):=by rw [<- hW]; exact heap_alloc_new w _
 have HBX:=Lib.hid hbx;have HWX:=Lib.hid hWx;have HAT:=Lib.hid hat;obtain ⟨ad,B0,m0,d0,B1,m1,d1,hA,hadb,⟨e0,e1,e2,e3,e4,e5,e6,e7,e8⟩,hkt⟩:=(hat.ext hWx).kid0 (by simp);subst hA;have HK0:=Lib.hid hkt;simp only [List.getElem_cons_zero] at e0 e1 e3 e4 e5 e6 e7;have b0:W.cell? ⟨w.heap.size,0,none⟩=some (.int .i64 10):=by simp [World.cell?,hbx]
 have b8:W.cell? ⟨w.heap.size,8,none⟩=some (.slice (some ad) 1 c):=by simp [World.cell?,hbx]
 clear hkt hat hWx hbx;go_enter Tryz.func13,Tryz.ntmps13;go_wp2_with fail;clear hW b0 b8 e0 e1 e2 e3 e4 e5 e6 e7 e8;refine (IHA.out t0 _ _ H0.out HK0.out (HVS.out.ext HWX.out)).mono ?_;rintro e v1 ⟨rfl,x1⟩;have hs1:=x1.size;have hbx:=(x1.below.block _ (by omega)).trans HBX.out;have b0:v1.cell? ⟨w.heap.size,0,none⟩=some (.int .i64 10):=by simp [World.cell?,hbx]
 have b8:v1.cell? ⟨w.heap.size,8,none⟩=some (.slice (some ad) 1 c):=by simp [World.cell?,hbx]
 have X1:=Lib.hid (HWX.out.trans x1);clear x1 hbx;generalize f.itv (uh ns xs)=fa at *;go_wp2_with fail;go_ret;exact ⟨rfl,X1.out⟩
theorem ycw {f g:Fm} (ihf:gaj L p sn sx ns xs f) (ihg:gaj L p sn sx ns xs g):gaj L p sn sx ns xs (.and f g):=by
 intro t v w h hv hvs
 change Calls _ _ _ _ (kad (f.itv (uh ns xs) && g.itv (uh ns xs)) w)
 have IHA:=Lib.hid ihf;have IHB:=Lib.hid ihg;clear ihf ihg;obtain ⟨⟨kind,neg,ds,name,exp,rel,truth,all⟩,ks⟩:=t;obtain ⟨hkind,t0,t1,hks,h0,h1⟩:=h;simp only [Tr.d] at hkind;simp only [Tr.ks] at hks;subst hkind hks;have H0:=Lib.hid h0;have H1:=Lib.hid h1;clear h0 h1;obtain ⟨A0,n0,c0,A,c,rfl,hnat,hc1,hc2,hat⟩:=hv.open_
 change ug w p [t0,t1] A 0 at hat
 clear hv hnat;unfold ndV;simp only [Tr.d,Tr.ks,List.length_cons,List.length_nil,Nat.zero_add,Nat.reduceAdd] at hc1 ⊢;have HVS:=Lib.hid hvs;obtain ⟨⟨An,cn,rfl,hn1,hn2,-⟩,⟨Ax,cx,rfl,hx1,hx2,-⟩⟩:=hvs;obtain ⟨W,hW⟩:=n_m (w.alloc (.cells #[.int .i64 11,.bool neg,.slice A0 n0 c0,.string name,.int .i64 exp,.int .i64 rel,.bool truth,.bool all,.slice A 2 c] 29));have hWx:Ext w W:=by rw [<- hW]; exact (Ext.refl w).alloc _
 have hWs:W.heap.size=w.heap.size+1:=by rw [<- hW]; simp
 have hbx:W.heap[w.heap.size]?=some (.cells #[.int .i64 11,.bool neg,.slice A0 n0 c0,.string name,.int .i64 exp,.int .i64 rel,.bool truth,.bool all,.slice A 2 c] 29 (0,0)):=by rw [<- hW]; exact heap_alloc_new w _
 have HBX:=Lib.hid hbx;have HWX:=Lib.hid hWx;have HAT:=Lib.hid hat;obtain ⟨ad,B0,m0,d0,B1,m1,d1,hA,hadb,⟨e0,e1,e2,e3,e4,e5,e6,e7,e8⟩,hkt⟩:=(hat.ext hWx).kid0 (by simp);subst hA;have HK0:=Lib.hid hkt;simp only [List.getElem_cons_zero] at e0 e1 e3 e4 e5 e6 e7;have b0:W.cell? ⟨w.heap.size,0,none⟩=some (.int .i64 11):=by simp [World.cell?,hbx]
 have b8:W.cell? ⟨w.heap.size,8,none⟩=some (.slice (some ad) 2 c):=by simp [World.cell?,hbx]
 clear hkt hat hWx hbx;go_enter Tryz.func13,Tryz.ntmps13;go_wp2_with fail;clear hW b0 b8 e0 e1 e2 e3 e4 e5 e6 e7 e8;refine (IHA.out t0 _ _ H0.out HK0.out (HVS.out.ext HWX.out)).mono ?_;rintro e v1 ⟨rfl,x1⟩;have hs1:=x1.size;have hbx:=(x1.below.block _ (by omega)).trans HBX.out;have b0:v1.cell? ⟨w.heap.size,0,none⟩=some (.int .i64 11):=by simp [World.cell?,hbx]
 have b8:v1.cell? ⟨w.heap.size,8,none⟩=some (.slice (some ad) 2 c):=by simp [World.cell?,hbx]
 obtain ⟨ad',C0,p0,q0,C1,p1,q1,hA,-,hnd,hkt⟩:=(HAT.out.ext (HWX.out.trans x1)).kid 1 (by simp);injection hA with hA
 subst hA;obtain ⟨e0,e1,e2,e3,e4,e5,e6,e7,e8⟩:=hnd.nine;simp only [List.getElem_cons_succ,List.getElem_cons_zero] at e0 e1 e3 e4 e5 e6 e7;have HK1:=Lib.hid hkt;have X1:=Lib.hid x1;have HB1:=Lib.hid hbx;clear x1 hnd hkt hbx;generalize f.itv (uh ns xs)=fa at *;go_wp2_with fail;clear b0 b8 e0 e1 e2 e3 e4 e5 e6 e7 e8;refine (IHB.out t1 _ _ H1.out HK1.out (HVS.out.ext (HWX.out.trans X1.out))).mono ?_;rintro e v2 ⟨rfl,x2⟩;have hs2':=x2.size;have hbx:=(x2.below.block _ (by omega)).trans HB1.out;have b0:v2.cell? ⟨w.heap.size,0,none⟩=some (.int .i64 11):=by simp [World.cell?,hbx]
 have b8:v2.cell? ⟨w.heap.size,8,none⟩=some (.slice (some ad) 2 c):=by simp [World.cell?,hbx]
 have X2:=Lib.hid (HWX.out.trans (X1.out.trans x2));clear x2 hbx IHA IHB HK0 HK1 HAT;generalize g.itv (uh ns xs)=fb at *;cases fa <;> cases fb <;> (go_wp2_with fail; go_ret; exact ⟨rfl,X2.out⟩)
theorem yc1 {f g:Fm} (ihf:gaj L p sn sx ns xs f) (ihg:gaj L p sn sx ns xs g):gaj L p sn sx ns xs (.or f g):=by
 intro t v w h hv hvs
 change Calls _ _ _ _ (kad (f.itv (uh ns xs) || g.itv (uh ns xs)) w)
 have IHA:=Lib.hid ihf;have IHB:=Lib.hid ihg;clear ihf ihg;obtain ⟨⟨kind,neg,ds,name,exp,rel,truth,all⟩,ks⟩:=t;obtain ⟨hkind,t0,t1,hks,h0,h1⟩:=h;simp only [Tr.d] at hkind;simp only [Tr.ks] at hks;subst hkind hks;have H0:=Lib.hid h0;have H1:=Lib.hid h1;clear h0 h1;obtain ⟨A0,n0,c0,A,c,rfl,hnat,hc1,hc2,hat⟩:=hv.open_
 change ug w p [t0,t1] A 0 at hat
 clear hv hnat;unfold ndV;simp only [Tr.d,Tr.ks,List.length_cons,List.length_nil,Nat.zero_add,Nat.reduceAdd] at hc1 ⊢;have HVS:=Lib.hid hvs;obtain ⟨⟨An,cn,rfl,hn1,hn2,-⟩,⟨Ax,cx,rfl,hx1,hx2,-⟩⟩:=hvs;obtain ⟨W,hW⟩:=n_m (w.alloc (.cells #[.int .i64 12,.bool neg,.slice A0 n0 c0,.string name,.int .i64 exp,.int .i64 rel,.bool truth,.bool all,.slice A 2 c] 29));have hWx:Ext w W:=by rw [<- hW]; exact (Ext.refl w).alloc _
 have hWs:W.heap.size=w.heap.size+1:=by rw [<- hW]; simp
 have hbx:W.heap[w.heap.size]?=some (.cells #[.int .i64 12,.bool neg,.slice A0 n0 c0,.string name,.int .i64 exp,.int .i64 rel,.bool truth,.bool all,.slice A 2 c] 29 (0,0)):=by rw [<- hW]; exact heap_alloc_new w _
 have HBX:=Lib.hid hbx;have HWX:=Lib.hid hWx;have HAT:=Lib.hid hat;obtain ⟨ad,B0,m0,d0,B1,m1,d1,hA,hadb,⟨e0,e1,e2,e3,e4,e5,e6,e7,e8⟩,hkt⟩:=(hat.ext hWx).kid0 (by simp);subst hA;have HK0:=Lib.hid hkt;simp only [List.getElem_cons_zero] at e0 e1 e3 e4 e5 e6 e7;have b0:W.cell? ⟨w.heap.size,0,none⟩=some (.int .i64 12):=by simp [World.cell?,hbx]
 have b8:W.cell? ⟨w.heap.size,8,none⟩=some (.slice (some ad) 2 c):=by simp [World.cell?,hbx]
 clear hkt hat hWx hbx;go_enter Tryz.func13,Tryz.ntmps13;go_wp2_with fail;clear hW b0 b8 e0 e1 e2 e3 e4 e5 e6 e7 e8;refine (IHA.out t0 _ _ H0.out HK0.out (HVS.out.ext HWX.out)).mono ?_;rintro e v1 ⟨rfl,x1⟩;have hs1:=x1.size;have hbx:=(x1.below.block _ (by omega)).trans HBX.out;have b0:v1.cell? ⟨w.heap.size,0,none⟩=some (.int .i64 12):=by simp [World.cell?,hbx]
 have b8:v1.cell? ⟨w.heap.size,8,none⟩=some (.slice (some ad) 2 c):=by simp [World.cell?,hbx]
 obtain ⟨ad',C0,p0,q0,C1,p1,q1,hA,-,hnd,hkt⟩:=(HAT.out.ext (HWX.out.trans x1)).kid 1 (by simp);injection hA with hA
 subst hA;obtain ⟨e0,e1,e2,e3,e4,e5,e6,e7,e8⟩:=hnd.nine;simp only [List.getElem_cons_succ,List.getElem_cons_zero] at e0 e1 e3 e4 e5 e6 e7;have HK1:=Lib.hid hkt;have X1:=Lib.hid x1;have HB1:=Lib.hid hbx;clear x1 hnd hkt hbx;generalize f.itv (uh ns xs)=fa at *;go_wp2_with fail;clear b0 b8 e0 e1 e2 e3 e4 e5 e6 e7 e8;refine (IHB.out t1 _ _ H1.out HK1.out (HVS.out.ext (HWX.out.trans X1.out))).mono ?_;rintro e v2 ⟨rfl,x2⟩;have hs2':=x2.size;have hbx:=(x2.below.block _ (by omega)).trans HB1.out;have b0:v2.cell? ⟨w.heap.size,0,none⟩=some (.int .i64 12):=by simp [World.cell?,hbx]
 have b8:v2.cell? ⟨w.heap.size,8,none⟩=some (.slice (some ad) 2 c):=by simp [World.cell?,hbx]
 have X2:=Lib.hid (HWX.out.trans (X1.out.trans x2));clear x2 hbx IHA IHB HK0 HK1 HAT;generalize g.itv (uh ns xs)=fb at *;cases fa <;> cases fb <;> (go_wp2_with fail; go_ret; exact ⟨rfl,X2.out⟩)
theorem wcv {f g:Fm} (ihf:gaj L p sn sx ns xs f) (ihg:gaj L p sn sx ns xs g):gaj L p sn sx ns xs (.imp f g):=by
 intro t v w h hv hvs
 change Calls _ _ _ _ (kad (!f.itv (uh ns xs) || g.itv (uh ns xs)) w)
 have IHA:=Lib.hid ihf;have IHB:=Lib.hid ihg;clear ihf ihg;obtain ⟨⟨kind,neg,ds,name,exp,rel,truth,all⟩,ks⟩:=t;obtain ⟨hkind,t0,t1,hks,h0,h1⟩:=h;simp only [Tr.d] at hkind;simp only [Tr.ks] at hks;subst hkind hks;have H0:=Lib.hid h0;have H1:=Lib.hid h1;clear h0 h1;obtain ⟨A0,n0,c0,A,c,rfl,hnat,hc1,hc2,hat⟩:=hv.open_
 change ug w p [t0,t1] A 0 at hat
 clear hv hnat;unfold ndV;simp only [Tr.d,Tr.ks,List.length_cons,List.length_nil,Nat.zero_add,Nat.reduceAdd] at hc1 ⊢;have HVS:=Lib.hid hvs;obtain ⟨⟨An,cn,rfl,hn1,hn2,-⟩,⟨Ax,cx,rfl,hx1,hx2,-⟩⟩:=hvs;obtain ⟨W,hW⟩:=n_m (w.alloc (.cells #[.int .i64 13,.bool neg,.slice A0 n0 c0,.string name,.int .i64 exp,.int .i64 rel,.bool truth,.bool all,.slice A 2 c] 29));have hWx:Ext w W:=by rw [<- hW]; exact (Ext.refl w).alloc _
 have hWs:W.heap.size=w.heap.size+1:=by rw [<- hW]; simp
 have hbx:W.heap[w.heap.size]?=some (.cells #[.int .i64 13,.bool neg,.slice A0 n0 c0,.string name,.int .i64 exp,.int .i64 rel,.bool truth,.bool all,.slice A 2 c] 29 (0,0)):=by rw [<- hW]; exact heap_alloc_new w _
 have HBX:=Lib.hid hbx;have HWX:=Lib.hid hWx;have HAT:=Lib.hid hat;obtain ⟨ad,B0,m0,d0,B1,m1,d1,hA,hadb,⟨e0,e1,e2,e3,e4,e5,e6,e7,e8⟩,hkt⟩:=(hat.ext hWx).kid0 (by simp);subst hA;have HK0:=Lib.hid hkt;simp only [List.getElem_cons_zero] at e0 e1 e3 e4 e5 e6 e7;have b0:W.cell? ⟨w.heap.size,0,none⟩=some (.int .i64 13):=by simp [World.cell?,hbx]
 have b8:W.cell? ⟨w.heap.size,8,none⟩=some (.slice (some ad) 2 c):=by simp [World.cell?,hbx]
 clear hkt hat hWx hbx;go_enter Tryz.func13,Tryz.ntmps13;go_wp2_with fail;clear hW b0 b8 e0 e1 e2 e3 e4 e5 e6 e7 e8;refine (IHA.out t0 _ _ H0.out HK0.out (HVS.out.ext HWX.out)).mono ?_;rintro e v1 ⟨rfl,x1⟩;have hs1:=x1.size;have hbx:=(x1.below.block _ (by omega)).trans HBX.out;have b0:v1.cell? ⟨w.heap.size,0,none⟩=some (.int .i64 13):=by simp [World.cell?,hbx]
 have b8:v1.cell? ⟨w.heap.size,8,none⟩=some (.slice (some ad) 2 c):=by simp [World.cell?,hbx]
 obtain ⟨ad',C0,p0,q0,C1,p1,q1,hA,-,hnd,hkt⟩:=(HAT.out.ext (HWX.out.trans x1)).kid 1 (by simp);injection hA with hA
 subst hA;obtain ⟨e0,e1,e2,e3,e4,e5,e6,e7,e8⟩:=hnd.nine;simp only [List.getElem_cons_succ,List.getElem_cons_zero] at e0 e1 e3 e4 e5 e6 e7;have HK1:=Lib.hid hkt;have X1:=Lib.hid x1;have HB1:=Lib.hid hbx;clear x1 hnd hkt hbx;generalize f.itv (uh ns xs)=fa at *;go_wp2_with fail;clear b0 b8 e0 e1 e2 e3 e4 e5 e6 e7 e8;refine (IHB.out t1 _ _ H1.out HK1.out (HVS.out.ext (HWX.out.trans X1.out))).mono ?_;rintro e v2 ⟨rfl,x2⟩;have hs2':=x2.size;have hbx:=(x2.below.block _ (by omega)).trans HB1.out;have b0:v2.cell? ⟨w.heap.size,0,none⟩=some (.int .i64 13):=by simp [World.cell?,hbx]
 have b8:v2.cell? ⟨w.heap.size,8,none⟩=some (.slice (some ad) 2 c):=by simp [World.cell?,hbx]
 have X2:=Lib.hid (HWX.out.trans (X1.out.trans x2));clear x2 hbx IHA IHB HK0 HK1 HAT;generalize g.itv (uh ns xs)=fb at *;cases fa <;> cases fb <;> (go_wp2_with fail; go_ret; exact ⟨rfl,X2.out⟩)
theorem zcw {f g:Fm} (ihf:gaj L p sn sx ns xs f) (ihg:gaj L p sn sx ns xs g):gaj L p sn sx ns xs (.iff f g):=by
 intro t v w h hv hvs
 change Calls _ _ _ _ (kad (f.itv (uh ns xs) == g.itv (uh ns xs)) w)
 have IHA:=Lib.hid ihf;have IHB:=Lib.hid ihg;clear ihf ihg;obtain ⟨⟨kind,neg,ds,name,exp,rel,truth,all⟩,ks⟩:=t;obtain ⟨hkind,t0,t1,hks,h0,h1⟩:=h;simp only [Tr.d] at hkind;simp only [Tr.ks] at hks;subst hkind hks;have H0:=Lib.hid h0;have H1:=Lib.hid h1;clear h0 h1;obtain ⟨A0,n0,c0,A,c,rfl,hnat,hc1,hc2,hat⟩:=hv.open_
 change ug w p [t0,t1] A 0 at hat
 clear hv hnat;unfold ndV;simp only [Tr.d,Tr.ks,List.length_cons,List.length_nil,Nat.zero_add,Nat.reduceAdd] at hc1 ⊢;have HVS:=Lib.hid hvs;obtain ⟨⟨An,cn,rfl,hn1,hn2,-⟩,⟨Ax,cx,rfl,hx1,hx2,-⟩⟩:=hvs;obtain ⟨W,hW⟩:=n_m (w.alloc (.cells #[.int .i64 14,.bool neg,.slice A0 n0 c0,.string name,.int .i64 exp,.int .i64 rel,.bool truth,.bool all,.slice A 2 c] 29));have hWx:Ext w W:=by rw [<- hW]; exact (Ext.refl w).alloc _
 have hWs:W.heap.size=w.heap.size+1:=by rw [<- hW]; simp
 have hbx:W.heap[w.heap.size]?=some (.cells #[.int .i64 14,.bool neg,.slice A0 n0 c0,.string name,.int .i64 exp,.int .i64 rel,.bool truth,.bool all,.slice A 2 c] 29 (0,0)):=by rw [<- hW]; exact heap_alloc_new w _
 have HBX:=Lib.hid hbx;have HWX:=Lib.hid hWx;have HAT:=Lib.hid hat;obtain ⟨ad,B0,m0,d0,B1,m1,d1,hA,hadb,⟨e0,e1,e2,e3,e4,e5,e6,e7,e8⟩,hkt⟩:=(hat.ext hWx).kid0 (by simp);subst hA;have HK0:=Lib.hid hkt;simp only [List.getElem_cons_zero] at e0 e1 e3 e4 e5 e6 e7;have b0:W.cell? ⟨w.heap.size,0,none⟩=some (.int .i64 14):=by simp [World.cell?,hbx]
 have b8:W.cell? ⟨w.heap.size,8,none⟩=some (.slice (some ad) 2 c):=by simp [World.cell?,hbx]
 clear hkt hat hWx hbx;go_enter Tryz.func13,Tryz.ntmps13;go_wp2_with fail;clear hW b0 b8 e0 e1 e2 e3 e4 e5 e6 e7 e8;refine (IHA.out t0 _ _ H0.out HK0.out (HVS.out.ext HWX.out)).mono ?_;rintro e v1 ⟨rfl,x1⟩;have hs1:=x1.size;have hbx:=(x1.below.block _ (by omega)).trans HBX.out;have b0:v1.cell? ⟨w.heap.size,0,none⟩=some (.int .i64 14):=by simp [World.cell?,hbx]
 have b8:v1.cell? ⟨w.heap.size,8,none⟩=some (.slice (some ad) 2 c):=by simp [World.cell?,hbx]
 obtain ⟨ad',C0,p0,q0,C1,p1,q1,hA,-,hnd,hkt⟩:=(HAT.out.ext (HWX.out.trans x1)).kid 1 (by simp);injection hA with hA
 subst hA;obtain ⟨e0,e1,e2,e3,e4,e5,e6,e7,e8⟩:=hnd.nine;simp only [List.getElem_cons_succ,List.getElem_cons_zero] at e0 e1 e3 e4 e5 e6 e7;have HK1:=Lib.hid hkt;have X1:=Lib.hid x1;have HB1:=Lib.hid hbx;clear x1 hnd hkt hbx;generalize f.itv (uh ns xs)=fa at *;go_wp2_with fail;clear b0 b8 e0 e1 e2 e3 e4 e5 e6 e7 e8;refine (IHB.out t1 _ _ H1.out HK1.out (HVS.out.ext (HWX.out.trans X1.out))).mono ?_;rintro e v2 ⟨rfl,x2⟩;have hs2':=x2.size;have hbx:=(x2.below.block _ (by omega)).trans HB1.out;have b0:v2.cell? ⟨w.heap.size,0,none⟩=some (.int .i64 14):=by simp [World.cell?,hbx]
 have b8:v2.cell? ⟨w.heap.size,8,none⟩=some (.slice (some ad) 2 c):=by simp [World.cell?,hbx]
 have X2:=Lib.hid (HWX.out.trans (X1.out.trans x2));clear x2 hbx IHA IHB HK0 HK1 HAT;generalize g.itv (uh ns xs)=fb at *;cases fa <;> cases fb <;> (go_wp2_with fail; go_ret; exact ⟨rfl,X2.out⟩)
theorem ycm {l k:Tm} {r:Int} (iha:wai L p sn sx ns xs l) (ihb:wai L p sn sx ns xs k):gaj L p sn sx ns xs (.atom l r k):=by
 intro t v w h hv hvs
 change Calls _ _ _ _ (kad (jac r (xw (l.ival (uh ns xs)) (k.ival (uh ns xs)))) w)
 have IHA:=Lib.hid iha;have IHB:=Lib.hid ihb;clear iha ihb;obtain ⟨⟨kind,neg,ds,name,exp,rel,truth,all⟩,ks⟩:=t;obtain ⟨hkind,hrel,-,-,t0,t1,hks,h0,h1⟩:=h;simp only [Tr.d] at hkind hrel;simp only [Tr.ks] at hks;subst hkind hks hrel;have HVS:=Lib.hid hvs;obtain ⟨⟨An,cn,rfl,hn1,hn2,-⟩,⟨Ax,cx,rfl,hx1,hx2,-⟩⟩:=hvs;obtain ⟨A0,n0,c0,A,c,rfl,hnat,hc1,hc2,hat⟩:=hv.open_
 change ug w p [t0,t1] A 0 at hat
 clear hv hnat;unfold ndV;simp only [Tr.d,Tr.ks,List.length_cons,List.length_nil,Nat.zero_add,Nat.reduceAdd] at hc1 ⊢;obtain ⟨W,hW⟩:=n_m (w.alloc (.cells #[.int .i64 9,.bool neg,.slice A0 n0 c0,.string name,.int .i64 exp,.int .i64 rel,.bool truth,.bool all,.slice A 2 c] 29));have hWx:Ext w W:=by rw [<- hW]; exact (Ext.refl w).alloc _
 have hWs:w.heap.size < W.heap.size:=by rw [<- hW]; simp
 have hat2:=hat.ext hWx;obtain ⟨ad,B0,m0,d0,B1,m1,d1,hA,hadb,hn0,hk0⟩:=hat2.kid0 (by simp);subst hA;obtain ⟨ad',C0,p0,q0,C1,p1,q1,hA,-,hn1',hk1⟩:=hat2.kid 1 (by simp);injection hA with hA
 subst hA;have hn1:=hn1'.nine;have HK0:=Lib.hid hk0;have HK1:=Lib.hid hk1;have HB:Hid (∀ W',Ext W W'->(Ext W W'/\W'.cell? ⟨w.heap.size,0,none⟩=some (.int .i64 9)/\W'.cell? ⟨w.heap.size,4,none⟩=some (.int .i64 exp)/\W'.cell? ⟨w.heap.size,5,none⟩=some (.int .i64 rel)/\W'.cell? ⟨w.heap.size,8,none⟩=some (.slice (some ad) 2 c)/\W'.cell? ad=some (.int .i64 t0.d.kind)/\W'.cell? ⟨ad.block,ad.off+1,none⟩=some (.bool t0.d.neg)/\W'.cell? ⟨ad.block,ad.off+2,none⟩=some (.slice B0 m0 d0)/\W'.cell? ⟨ad.block,ad.off+3,none⟩=some (.string t0.d.name)/\W'.cell? ⟨ad.block,ad.off+4,none⟩=some (.int .i64 t0.d.exp)/\W'.cell? ⟨ad.block,ad.off+5,none⟩=some (.int .i64 t0.d.rel)/\W'.cell? ⟨ad.block,ad.off+6,none⟩=some (.bool t0.d.truth)/\W'.cell? ⟨ad.block,ad.off+7,none⟩=some (.bool t0.d.all)/\W'.cell? ⟨ad.block,ad.off+8,none⟩=some (.slice B1 m1 d1)/\W'.cell? ⟨ad.block,ad.off+9,none⟩=some (.int .i64 t1.d.kind)/\W'.cell? ⟨ad.block,ad.off+9+1,none⟩=some (.bool t1.d.neg)/\W'.cell? ⟨ad.block,ad.off+9+2,none⟩=some (.slice C0 p0 q0)/\W'.cell? ⟨ad.block,ad.off+9+3,none⟩=some (.string t1.d.name)/\W'.cell? ⟨ad.block,ad.off+9+4,none⟩=some (.int .i64 t1.d.exp)/\W'.cell? ⟨ad.block,ad.off+9+5,none⟩=some (.int .i64 t1.d.rel)/\W'.cell? ⟨ad.block,ad.off+9+6,none⟩=some (.bool t1.d.truth)/\W'.cell? ⟨ad.block,ad.off+9+7,none⟩=some (.bool t1.d.all)/\W'.cell? ⟨ad.block,ad.off+9+8,none⟩=some (.slice C1 p1 q1))):=by
  intro W' hx;obtain ⟨hc,-⟩:=hx.cells;obtain ⟨k0,k1,k2,k3,k4,k5,k6,k7,k8⟩:=zah.ext hn0 hx hadb;obtain ⟨l0,l1,l2,l3,l4,l5,l6,l7,l8⟩:=(zah.ext hn1' hx (by rw [jb]; exact hadb)).nine;refine ⟨hx,?_,?_,?_,?_,k0,k1,k2,k3,k4,k5,k6,k7,k8,l0,l1,l2,l3,l4,l5,l6,l7,l8⟩ <;> (rw [hc _ _ hWs,<- hW]; simp [go_sem])
 have HWX:=Lib.hid hWx;clear hat hat2 hn0 hk0 hWx hn1' hn1 hk1;have H0:=Lib.hid h0;have H1:=Lib.hid h1;clear h0 h1;obtain ⟨-,z0,z4,z5,z8,-⟩:=HB.out W (Ext.refl W);go_enter Tryz.func13,Tryz.ntmps13;go_wp2_with fail;clear hW z0 z4 z5 z8;have y0:Ext W W.drew:=(Ext.refl W).drew;have Y0:=Lib.hid y0;clear y0
 go_region_held3 (fun W' => Ext W W' /\ W'.cell? ⟨w.heap.size, 0, none⟩ = some (.int .i64 9) /\ W'.cell? ⟨w.heap.size, 4, none⟩ = some (.int .i64 exp) /\ W'.cell? ⟨w.heap.size, 5, none⟩ = some (.int .i64 rel) /\ W'.cell? ⟨w.heap.size, 8, none⟩ = some (.slice (some ad) 2 c) /\ W'.cell? ad = some (.int .i64 t0.d.kind) /\ W'.cell? ⟨ad.block, ad.off + 1, none⟩ = some (.bool t0.d.neg) /\ W'.cell? ⟨ad.block, ad.off + 2, none⟩ = some (.slice B0 m0 d0) /\ W'.cell? ⟨ad.block, ad.off + 3, none⟩ = some (.string t0.d.name) /\ W'.cell? ⟨ad.block, ad.off + 4, none⟩ = some (.int .i64 t0.d.exp) /\ W'.cell? ⟨ad.block, ad.off + 5, none⟩ = some (.int .i64 t0.d.rel) /\ W'.cell? ⟨ad.block, ad.off + 6, none⟩ = some (.bool t0.d.truth) /\ W'.cell? ⟨ad.block, ad.off + 7, none⟩ = some (.bool t0.d.all) /\ W'.cell? ⟨ad.block, ad.off + 8, none⟩ = some (.slice B1 m1 d1) /\ W'.cell? ⟨ad.block, ad.off + 9, none⟩ = some (.int .i64 t1.d.kind) /\ W'.cell? ⟨ad.block, ad.off + 9 + 1, none⟩ = some (.bool t1.d.neg) /\ W'.cell? ⟨ad.block, ad.off + 9 + 2, none⟩ = some (.slice C0 p0 q0) /\ W'.cell? ⟨ad.block, ad.off + 9 + 3, none⟩ = some (.string t1.d.name) /\ W'.cell? ⟨ad.block, ad.off + 9 + 4, none⟩ = some (.int .i64 t1.d.exp) /\ W'.cell? ⟨ad.block, ad.off + 9 + 5, none⟩ = some (.int .i64 t1.d.rel) /\ W'.cell? ⟨ad.block, ad.off + 9 + 6, none⟩ = some (.bool t1.d.truth) /\ W'.cell? ⟨ad.block, ad.off + 9 + 7, none⟩ = some (.bool t1.d.all) /\ W'.cell? ⟨ad.block, ad.off + 9 + 8, none⟩ = some (.slice C1 p1 q1))
  (first | with_reducible exact HB.out _ Y0.out | with_reducible exact HB.out _ y1 | with_reducible exact HB.out _ y2 | with_reducible exact HB.out _ y3)
  (first
    | (go_at_call_of 42 (Value.agg #[.int .i64 t0.d.kind,.bool t0.d.neg,.slice B0 m0 d0,.string t0.d.name,.int .i64 t0.d.exp,.int .i64 t0.d.rel,.bool t0.d.truth,.bool t0.d.all,.slice B1 m1 d1])
       refine (IHA.out t0 _ _ H0.out (HK0.out.ext Y0.out) (HVS.out.ext (HWX.out.trans Y0.out))).mono ?_;rintro e v1 ⟨z1,rfl,m1,x1⟩;obtain ⟨b1,A1,n1,c1,rfl⟩:=m1.unpack
       have y1:Ext W v1:=Ext.trans Y0.out x1)
    | (go_at_call_of 42 (Value.agg #[.int .i64 t1.d.kind,.bool t1.d.neg,.slice C0 p0 q0,.string t1.d.name,.int .i64 t1.d.exp,.int .i64 t1.d.rel,.bool t1.d.truth,.bool t1.d.all,.slice C1 p1 q1])
       refine (IHB.out t1 _ _ H1.out (HK1.out.ext y1) (HVS.out.ext (HWX.out.trans y1))).mono ?_;rintro e v2 ⟨z2,rfl,m2,x2⟩;obtain ⟨b2,A2,n2,c2,rfl⟩:=m2.unpack
       have y2:Ext W v2:=Ext.trans y1 x2)
    | (go_at_call 41
       refine (kct _ _ (l.ival (uh ns xs)) (k.ival (uh ns xs)) (l.bt L) (k.bt L) _ (m1.ext x2) m2).mono ?_;rintro e v3 ⟨rfl,x3⟩
       have y3:Ext W v3:=Ext.trans y2 x3)
    | (go_at_call 37
       refine (gbf _ _ _).mono ?_
       rintro e v4 ⟨rfl,rfl⟩))
 all_goals
  have X3:=Lib.hid (HWX.out.trans y3);clear y1 y2 y3 x1 x2 x3 m1 m2 HB HWX Y0;go_wp2_with fail;go_ret;exact ⟨rfl,X3.out⟩
theorem jc1 (hL:1<=L) (hxs:∀ z ∈ xs,(dg z.natAbs).length<=L) (hnx:ns.length<=xs.length) (f:Fm) (hb:f.bound=[]) (hf:f.fineL L):gaj L p sn sx ns xs f:=by
 induction f with
 | truth b=>exact zca
 | atom l r k=>exact ycm (qcl hL hxs hnx l hf.1) (qcl hL hxs hnx k hf.2)
 | not f ihf=>exact gcv (ihf hb hf)
 | and f g ihf ihg=>exact ycw (ihf (List.append_eq_nil_iff.1 hb).1 hf.1) (ihg (List.append_eq_nil_iff.1 hb).2 hf.2)
 | or f g ihf ihg=>exact yc1 (ihf (List.append_eq_nil_iff.1 hb).1 hf.1) (ihg (List.append_eq_nil_iff.1 hb).2 hf.2)
 | imp f g ihf ihg=>exact wcv (ihf (List.append_eq_nil_iff.1 hb).1 hf.1) (ihg (List.append_eq_nil_iff.1 hb).2 hf.2)
 | iff f g ihf ihg=>exact zcw (ihf (List.append_eq_nil_iff.1 hb).1 hf.1) (ihg (List.append_eq_nil_iff.1 hb).2 hf.2)
 | quant a n f ihf=>cases hb
end
end Go.Proofs.YtheefiaoimbeiaaGreatDoor

/- A growing row of fractions. -/
namespace Go.Proofs.YtheefiaoimbeiaaGreatDoor
open Go.RowKit
theorem zb7:(Tryz.prog.info? 59).map (fun i=>(i.zero,i.size,i.bytes))=some (some (.agg #[.bool false,.slice none 0 0,.slice none 0 0]),3,56):=by kernel_rfl
theorem vci : yas 64 59 3 56 (.agg #[.bool false, .slice none 0 0, .slice none 0 0]) where
 und:=Tryz.underlying64
 info:=zb7
 cells:=rfl
 pos:=by omega
 nodig:=by
  intro u hu;simp only [Value.cells] at hu;simp only [List.mem_cons,List.not_mem_nil,or_false] at hu;rcases hu with rfl | rfl | rfl <;> rfl
abbrev FaR:=Rat × Bool × Value × Value
def faC (r:FaR):List Value:=[.bool r.2.1,r.2.2.1,r.2.2.2]
def wan (rs:List FaR):List Value:=rs.flatMap faC
theorem xbg (a b:List FaR):wan (a ++ b)=wan a ++ wan b:=by simp [wan]
theorem wby (rs:List FaR) (k:Nat) (hk:k < rs.length) (j:Nat) (hj:j < 3):(wan rs)[k * 3+j]?=(faC rs[k])[j]?:=by
 induction rs generalizing k with
 | nil=>simp at hk
 | cons r rs ih =>
   have hl:(faC r).length=3:=rfl;simp only [wan,List.flatMap_cons];cases k with
   | zero=>simp only [Nat.zero_mul,Nat.zero_add,List.getElem_cons_zero]; rw [List.getElem?_append_left (by omega)]
   | succ k =>
     rw [List.getElem?_append_right (by omega),hl,show (k+1) * 3+j - 3=k * 3+j by omega];exact ih k (by simpa using hk)
def qag (base L:Nat) (W:World) (v:Value) (l:List Rat):Prop:=
 ∃ rs:List FaR,rs.map (fun r=>r.1)=l/\yj 59 3 base W v rs.length (wan rs)/\∀ r ∈ rs,(∃ A1 n1 c1 A2 n2 c2,r.2.2=(.slice A1 n1 c1,.slice A2 n2 c2))/\kae W (.agg #[.bool r.2.1,r.2.2.1,r.2.2.2]) r.1 L
theorem kae.natq {w w':World} {v:Value} {q:Rat} {L:Nat} (h:kae w v q L) (hn:∀ v ds,ja w v ds->ja w' v ds):kae w' v q L:=by
 obtain ⟨neg,s1,s2,ds,es,e,h1,h2,h3,h4,h5⟩:=h;exact ⟨neg,s1,s2,ds,es,e,hn _ _ h1,hn _ _ h2,h3,h4,h5⟩
section
variable {base L:Nat} {W W':World} {v:Value} {l:List Rat}
theorem qag.nil (base L:Nat) (W:World):qag base L W (.slice none 0 0) []:=⟨[],rfl,yj.nil _ _ _ _,by simp⟩
theorem qag.ext (h:qag base L W v l) (hx:Ext W W'):qag base L W' v l:=by
 obtain ⟨rs,e,g,f⟩:=h;exact ⟨rs,e,g.ext hx,fun r hr=>⟨(f r hr).1,(f r hr).2.ext hx⟩⟩
theorem qag.own (h:qag base L W v l) {R:Nat} (hR:v.ownBlock=some R):base<=R/\R < W.heap.size:=by
 obtain ⟨rs,-,g,-⟩:=h;exact g.own hR
theorem qag.len (h:qag base L W v l):∃ A c,v=.slice A l.length c/\l.length<=c/\c<=9223372036854775807:=by
 obtain ⟨rs,rfl,g,-⟩:=h;rw [List.length_map];exact g.len
theorem qag.push (h:qag base L W v l) (hbase:base<=W.heap.size) {q:Rat} {bb:Bool} {A1 A2:Option Addr} {n1 c1 n2 c2:Nat} (hx:kae W (.agg #[.bool bb,.slice A1 n1 c1,.slice A2 n2 c2]) q L) (hlen:l.length+1<=1000000000) (ty:TypeId) :
 ∃ v4 w4,(Builtin.append_ #[64,64] ty #[v,.slice (some ⟨W.heap.size,0,none⟩) 1 1]).run Tryz.prog (W.alloc (.cells #[.bool bb,.slice A1 n1 c1,.slice A2 n2 c2] 59))=.ok v4 w4/\qag base L w4 v4 (l ++ [q])/\W.grownBy w4 v.ownBlock:=by
 obtain ⟨rs,rfl,g,f⟩:=h;rw [List.length_map] at hlen;obtain ⟨v4,w4,hrun,r1,r2,r3,r4⟩:=g.push vci hbase (faC (q,bb,.slice A1 n1 c1,.slice A2 n2 c2)) rfl (by
  intro u hu;simp only [faC,List.mem_cons,List.not_mem_nil,or_false] at hu
  rcases hu with rfl | rfl | rfl <;> exact ⟨rfl,rfl⟩) (by omega) (by omega) ty
 refine ⟨v4,w4,hrun,⟨rs ++ [(q,bb,.slice A1 n1 c1,.slice A2 n2 c2)],by simp,?_,fun r hr=>?_⟩,r2⟩
 · rw [xbg,List.length_append];have:wan [(q,bb,Value.slice A1 n1 c1,Value.slice A2 n2 c2)]=faC (q,bb,.slice A1 n1 c1,.slice A2 n2 c2):=by simp [wan]
   rw [this];exact r1
 · rcases List.mem_append.1 hr with hr | hr
   · exact ⟨(f r hr).1,(f r hr).2.natq r3⟩
   · rw [List.mem_singleton.1 hr];exact ⟨⟨_,_,_,_,_,_,rfl⟩,hx.natq r3⟩
theorem qag.vals (h:qag base L W v l):RsV W L v l:=by
 obtain ⟨rs,rfl,g,f⟩:=h;obtain ⟨A,c,rfl,h1,h2⟩:=g.len;refine ⟨A,c,by rw [List.length_map],by rw [List.length_map]; exact h1,h2,fun k hk=>?_⟩;rw [List.length_map] at hk;obtain ⟨b,c',e',-,-,hbg,hlt,-⟩:=g.pos (by omega);injection e' with e1 e2 e3
 subst e1 e3;have hcell:∀ j,j < 3->W.cell? ⟨b,k * 3+j,none⟩=(faC rs[k])[j]?:=by
  intro j hj;rw [g.cell (k * 3+j) (by omega)];exact wby rs k hk j hj
 obtain ⟨⟨A1,n1,c1,A2,n2,c2,er⟩,hp⟩:=f rs[k] (List.getElem_mem hk);refine ⟨⟨b,0,none⟩,rs[k].2.1,A1,n1,c1,A2,n2,c2,rfl,hlt,?_,?_⟩
 · rw [yx,Nat.zero_add];have k1:=hcell 1 (by omega);have k2:=hcell 2 (by omega);simp only [faC,er,List.getElem?_cons_succ,List.getElem?_cons_zero] at k1 k2;exact ⟨hcell 0 (by omega),k1,k2⟩
 · rw [List.getElem_map];rw [er] at hp;exact hp
end
end Go.Proofs.YtheefiaoimbeiaaGreatDoor

/- Law 38: the truth of a matrix at integers. -/
set_option maxRecDepth 100000
set_option maxHeartbeats 8000000
namespace Go.Proofs.YtheefiaoimbeiaaGreatDoor
open Go.RowKit
def uao (xs:List Int):List Rat:=xs.map fun z:Int=>(z:Rat)
theorem gb3 (xs:List Int) (k:Nat) (hk:k < xs.length):uao (xs.take (k+1))=uao (xs.take k) ++ [((xs[k]:Int):Rat)]:=by
 unfold uao;rw [List.take_succ_eq_append_getElem hk,List.map_append]; rfl
def uc0 (w0:World) (q:Nat->Prop) (L:Nat) (sx:Value) (xs:List Int) (n:Nat):Prop:=∀ (t:Mx) (v:Value) (w:World),t.sz < n->t.sz<=1000000->t.each (fun p=>p.eb L<=1099511627776)->MxV w0 q t v->Ext w0 w->Calls Tryz.prog 11 #[v,sx] w (kad (t.tv (rho (uao xs))) w)
theorem yc2 {w0:World} {q:Nat->Prop} {L:Nat} {sx:Value} {xs:List Int} (hL:1<=L) (hL2:L<=1099511627776) (hxl:xs.length<=1000) (hxs:IsV w0 sx xs) (hxL:∀ z ∈ xs,(dg z.natAbs).length<=L) (n:Nat):uc0 w0 q L sx xs n:=by
 induction n with
 | zero=>intro t v w h; omega
 | succ n ih =>
 intro t v w hn hbig heach h hx0;have hkl:t.ks.length<=1000000:=by have:=t.ks_len; omega
 unfold uc0 at ih;have IH:=Lib.hid ih;have HSZ:=Lib.hid (fun k hk=>t.kid_le k hk);have HEA:=Lib.hid (Mx.each_ks heach);have heb:=Mx.each_p heach;have HXS:=Lib.hid hxs;have HXL:=Lib.hid hxL;obtain ⟨Ax,cx,rfl,hx1,hx2,-⟩:=id hxs;obtain ⟨A0,n0,c0,A,n1,c1,K,c,rfl,hp,hl1,hl2,h4⟩:=h.open_;have HP:=Lib.hid hp;have H4:=Lib.hid h4;have HTV:=Lib.hid (t.tv_eq (rho (uao xs)));obtain ⟨W,hW⟩:=n_m (w.alloc (.cells #[.int .i64 t.kind,.int .i64 t.rel,.int .i64 t.p.lv,.bool t.p.neg,.slice A0 n0 c0,.slice A n1 c1,.slice K t.ks.length c] 47));have hWx:Ext w W:=by rw [<- hW]; exact (Ext.refl w).alloc _
 have hWs:W.heap.size=w.heap.size+1:=by rw [<- hW]; simp
 have hbx:vad W w.heap.size t (.slice A0 n0 c0) (.slice A n1 c1) (.slice K t.ks.length c):=by rw [<- hW]; exact vad.new w t _ _ _ _
 have HWX:=Lib.hid hWx;have HX0:=Lib.hid (hx0.trans hWx);have HBX:=Lib.hid hbx;obtain ⟨b0,b1,b2,b3,b4,b5,b6⟩:=hbx;clear h ih h4 hWx hp heach hx0 hxs hxL;unfold mxV;go_enter Tryz.func11,Tryz.ntmps11
 by_cases k1:t.kind=1
 · have htv:=HTV.out;rw [if_pos k1] at htv;have q1:(t.kind == 1)=true:=by simpa using k1
   clear k1;go_wp2_with fail;go_ret;exact ⟨by rw [htv]; rfl,HWX.out⟩
 have q1:(t.kind == 1)=false:=by simpa using k1
 by_cases k2:t.kind=2
 · have htv:=HTV.out;rw [if_neg k1,if_pos k2] at htv;have HT:=Lib.hid htv;have q2:(t.kind == 2)=true:=by simpa using k2
   clear k1 k2 HTV htv HEA HSZ IH;go_wp2_with fail;clear b0 b1 b2 b3 b4 b5 b6
   try rw [hW]
   clear hW
   go_loopw [5,16] (fun rv iv wr=>∃ (k:Nat),k<=xs.length/\iv=.int .i64 k/\Hid (qag W.heap.size L wr rv (uao (xs.take k))/\Ext W wr)) (fun _ iv _=>xs.length - (intOf iv).toNat)
   case atStart=>exact ⟨0,by omega,rfl,Lib.hid ⟨qag.nil _ _ _,Ext.refl _⟩⟩
   case round =>
    obtain ⟨k,hk,rfl,HI⟩:=hrel;have HQ:=Lib.hid HI.out.1;have HE:=Lib.hid HI.out.2;have hlen:(uao (xs.take k)).length=k:=by unfold uao; rw [List.length_map,List.length_take]; omega
    obtain ⟨RA,rc,rfl,hr1,hr2⟩:=HI.out.1.len;rw [hlen] at hr1 HQ ⊢;clear HI
    by_cases hlt:k < xs.length
    · obtain ⟨A',c',e',-,-,h3⟩:=HXS.out.ext (HX0.out.trans HE.out);injection e' with e1 e2 e3
      obtain ⟨ad',B,m,d,e4,hb4,a0,a1,hn⟩:=h3 k hlt;obtain rfl:Ax=some ad':=e1.trans e4;have HS:=Lib.hid (gb3 xs k hlt);have hz:=HXL.out _ (List.getElem_mem hlt);generalize xs[k]=z at *;have HZL:=Lib.hid hz;have HN0:Hid (vae wr (.agg #[.bool (decide (z < 0)),.slice B m d]) z):=⟨_,rfl,hn⟩;clear h3 e1 e3 e4 hn hz hlen;go_wp2_with fail;refine (qa6 _ z _ _ HN0.out.raw (by have:=HZL.out; omega)).mono ?_;rintro e w4 ⟨v4,rfl,m4,x4⟩;obtain ⟨bb,A1,n1',c1',A2,n2',c2',rfl⟩:=m4.unpack;have hx4:=HE.out.trans x4;obtain ⟨v6,w6,hrun,hrow6,hg6⟩:=(HQ.out.ext x4).push hx4.size (m4.raw.mono (gab z HZL.out hL)) (by unfold uao; rw [List.length_map,List.length_take]; omega) 64;rw [<- HS.out] at hrow6;have hx6:Ext W w6:=Below.grown hx4.below hg6 hx4.size (fun j e=>((HQ.out.ext x4).own e).1);have HN:=Lib.hid (And.intro hrow6 hx6);clear hrow6 hg6 hx6 hx4 x4 m4 a0 a1 HN0
      go_wp2_with (at_builtin
                   refine wpList_append_run rfl (.tmp 19) (.tmp 25) _ _ rfl _ _ _ _ rfl rfl hrun ?_)
      clear hrun
      go_roundw
      case rel=>exact ⟨k+1,by omega,by go_num,HN⟩
      case measure=>simp [intOf]; omega
    · obtain rfl:k=xs.length:=by omega
      have hv:=HQ.out.vals;rw [List.take_length] at hv;have HV:=Lib.hid hv;have HB:Hid (∀ W',Ext wr W'->(Ext W W'/\W'.cell? ⟨w.heap.size,1,none⟩=some (.int .i64 t.rel)/\W'.cell? ⟨w.heap.size,2,none⟩=some (.int .i64 t.p.lv)/\W'.cell? ⟨w.heap.size,3,none⟩=some (.bool t.p.neg)/\W'.cell? ⟨w.heap.size,4,none⟩=some (.slice A0 n0 c0)/\W'.cell? ⟨w.heap.size,5,none⟩=some (.slice A n1 c1))):=by
       intro W' hx;obtain ⟨c0,c1,c2,c3,c4,c5,c6⟩:=HBX.out.ext (HE.out.trans hx) (by omega);exact ⟨HE.out.trans hx,c1,c2,c3,c4,c5⟩
      have HCALL:Hid (∀ W',Ext wr W'->Calls Tryz.prog 39 #[plV t.p (.slice A0 n0 c0) (.slice A n1 c1),.slice RA xs.length rc] W' (jae (t.p.val (rho (uao xs))) W')):=fun W' hx =>
       ub7 hL hL2 (HV.out.ext hx) t.p _ heb (HP.out.ext ((HX0.out.trans HE.out).trans hx))
      clear HQ hv hlen;unfold plV at HCALL;go_wp2_with fail;have y0:Ext wr wr.drew:=(Ext.refl wr).drew;have Y0:=Lib.hid y0;clear y0;generalize t.p.val (rho (uao xs))=qq at *
      go_region_held3 (fun W' => Ext W W' /\ W'.cell? ⟨w.heap.size, 1, none⟩ = some (.int .i64 t.rel) /\ W'.cell? ⟨w.heap.size, 2, none⟩ = some (.int .i64 t.p.lv) /\ W'.cell? ⟨w.heap.size, 3, none⟩ = some (.bool t.p.neg) /\ W'.cell? ⟨w.heap.size, 4, none⟩ = some (.slice A0 n0 c0) /\ W'.cell? ⟨w.heap.size, 5, none⟩ = some (.slice A n1 c1))
       (first | with_reducible exact HB.out _ Y0.out | with_reducible exact HB.out _ y1 | with_reducible exact HB.out _ y2)
       (first
         | (go_at_call 39
            refine (HCALL.out _ Y0.out).mono ?_;rintro e v1 ⟨z1,rfl,m1,x1⟩;obtain ⟨b1',A1,n1',c1',B1,k1',d1,rfl⟩:=m1.unpack
            have y1:Ext wr v1:=Ext.trans Y0.out x1)
         | (go_at_call 38
            refine (kb3 _ qq _ _ m1.raw (kao qq)).mono ?_;rintro e v2 ⟨rfl,x2⟩
            have y2:Ext wr v2:=Ext.trans y1 x2)
         | (go_at_call 37
            refine (gbf _ _ _).mono ?_
            rintro e v4 ⟨rfl,rfl⟩))
      all_goals
       have X3:=Lib.hid ((HWX.out.trans HE.out).trans y2);clear y1 y2 x1 x2 m1 HB Y0 HCALL;go_wp2_with fail;go_ret;exact ⟨by rw [HT.out]; rfl,X3.out⟩
 have q2:(t.kind == 2)=false:=by simpa using k2
 generalize rho (uao xs)=ρ at *
 by_cases k3:t.kind=3
 · have htv:=HTV.out;rw [if_neg k1,if_neg k2,if_pos k3] at htv;have HT:=Lib.hid htv;have q3:(t.kind == 3)=true:=by simpa using k3
   have q4:(t.kind == 4)=false:=by rw [k3]; rfl
   clear k1 k2 k3 HTV htv;go_wp2_with fail;clear hW b0 b1 b2 b3 b4 b5 b6
   go_loopw [42] (fun iv wr=>∃ (k:Nat),k<=t.ks.length/\iv=.int .i64 k/\Hid (allM ρ (t.ks.take k)=true/\Ext W wr)) (fun iv _=>t.ks.length - (intOf iv).toNat)
   case atStart=>exact ⟨0,Nat.zero_le _,rfl,⟨by simp [allM],Ext.refl W⟩⟩
   case round =>
    obtain ⟨k,hk,rfl,⟨hall,hxw⟩⟩:=hrel;have HALL:=Lib.hid hall;have HXW:=Lib.hid hxw;obtain ⟨b0,-,-,-,-,-,b6⟩:=HBX.out.ext hxw (by omega)
    by_cases hlt:k < t.ks.length
    · obtain ⟨ad,B0,m0,d0,B1,m1,d1,K2,n2,c2,rfl,hadb,hnd,hkt⟩:=qac.kid H4.out k hlt
      have hkid:∀ W',Ext wr W'->Calls Tryz.prog 11 #[mxV t.ks[k] (.slice B0 m0 d0) (.slice B1 m1 d1) (.slice K2 n2 c2),.slice Ax xs.length cx] W' (kad (t.ks[k].tv ρ) W'):=fun W' hx =>
       IH.out t.ks[k] _ W' (by have:=HSZ.out k hlt; omega) (by have:=HSZ.out k hlt; omega) (wbe HEA.out (List.getElem_mem hlt)) hkt ((HX0.out.trans hxw).trans hx)
      have HKID:=Lib.hid hkid;have HKB:Hid (∀ W',Ext wr W'->(Ext W W'/\W'.cell? ⟨w.heap.size,0,none⟩=some (.int .i64 t.kind)/\W'.cell? ⟨w.heap.size,6,none⟩=some (.slice (some ad) t.ks.length c)/\W'.cell? (ad.add (k * 7))=some (Value.int .i64 t.ks[k].kind)/\W'.cell? ⟨(ad.add (k * 7)).block,(ad.add (k * 7)).off+1,none⟩=some (Value.int .i64 t.ks[k].rel)/\W'.cell? ⟨(ad.add (k * 7)).block,(ad.add (k * 7)).off+2,none⟩=some (Value.int .i64 t.ks[k].p.lv)/\W'.cell? ⟨(ad.add (k * 7)).block,(ad.add (k * 7)).off+3,none⟩=some (Value.bool t.ks[k].p.neg)/\W'.cell? ⟨(ad.add (k * 7)).block,(ad.add (k * 7)).off+4,none⟩=some (Value.slice B0 m0 d0)/\W'.cell? ⟨(ad.add (k * 7)).block,(ad.add (k * 7)).off+5,none⟩=some (Value.slice B1 m1 d1)/\W'.cell? ⟨(ad.add (k * 7)).block,(ad.add (k * 7)).off+6,none⟩=some (Value.slice K2 n2 c2))):=by
       intro W' hx;obtain ⟨k0,-,-,-,-,-,k6⟩:=HBX.out.ext (hxw.trans hx) (by omega);obtain ⟨e0,e1,e2,e3,e4,e5,e6⟩:=hnd.ext ((HX0.out.trans hxw).trans hx) (by rw [jb]; exact hadb);exact ⟨hxw.trans hx,k0,k6,e0,e1,e2,e3,e4,e5,e6⟩
      have HST:Hid (allM ρ (t.ks.take (k+1))=(allM ρ (t.ks.take k) && t.ks[k].tv ρ)):=by
       have:allM ρ (t.ks.take (k+1))=(allM ρ (t.ks.take k) && t.ks[k].tv ρ):=wb8 _ _ _ hlt;exact this
      clear hkid hkt hnd hadb hall hxw;generalize t.ks[k].tv ρ=tk at *;unfold mxV at HKID;go_wp2_with fail;clear b0 b6;have y0:Ext wr wr.drew:=(Ext.refl wr).drew;have Y0:=Lib.hid y0;clear y0
      go_region_held3 (fun W' => Ext W W' /\ W'.cell? ⟨w.heap.size, 0, none⟩ = some (.int .i64 t.kind) /\ W'.cell? ⟨w.heap.size, 6, none⟩ = some (.slice (some ad) t.ks.length c) /\ W'.cell? (ad.add (k * 7)) = some (Value.int .i64 t.ks[k].kind) /\ W'.cell? ⟨(ad.add (k * 7)).block, (ad.add (k * 7)).off + 1, none⟩ = some (Value.int .i64 t.ks[k].rel) /\ W'.cell? ⟨(ad.add (k * 7)).block, (ad.add (k * 7)).off + 2, none⟩ = some (Value.int .i64 t.ks[k].p.lv) /\ W'.cell? ⟨(ad.add (k * 7)).block, (ad.add (k * 7)).off + 3, none⟩ = some (Value.bool t.ks[k].p.neg) /\ W'.cell? ⟨(ad.add (k * 7)).block, (ad.add (k * 7)).off + 4, none⟩ = some (Value.slice B0 m0 d0) /\ W'.cell? ⟨(ad.add (k * 7)).block, (ad.add (k * 7)).off + 5, none⟩ = some (Value.slice B1 m1 d1) /\ W'.cell? ⟨(ad.add (k * 7)).block, (ad.add (k * 7)).off + 6, none⟩ = some (Value.slice K2 n2 c2))
       (first | with_reducible exact HKB.out _ Y0.out | with_reducible exact HKB.out _ y1)
       ((go_at_call 11
         refine (HKID.out _ Y0.out).mono ?_;rintro e w2 ⟨rfl,x2⟩
         have y1:Ext wr w2:=Ext.trans Y0.out x2))
      all_goals
       have X2:=Lib.hid (HXW.out.trans y1);obtain ⟨b0,-,-,-,-,-,b6⟩:=HBX.out.ext X2.out (by omega);clear x2 y1 HKID HKB Y0;cases tk
       · have HF:Hid (t.tv ρ=false):=by
          have h:=HST.out;rw [Bool.and_false] at h;have:t.tv ρ=false:=by rw [HT.out]; exact uck _ _ _ h
          exact this
         go_wp2_with fail;go_ret;exact ⟨by rw [HF.out]; rfl,HWX.out.trans X2.out⟩
       · have HF:Hid (allM ρ (t.ks.take (k+1))=true):=by
          have h:=HST.out;rw [HALL.out] at h;exact h
         go_wp2_with fail
         go_roundw
         case rel=>exact ⟨k+1,by omega,by go_num,⟨HF.out,X2.out⟩⟩
         case measure=>simp [intOf]; omega
    · have hke:k=t.ks.length:=by omega
      have HF:Hid (t.tv ρ=true):=by
       have h:=HALL.out;rw [hke,List.take_length] at h;have:t.tv ρ=true:=by rw [HT.out]; exact h
       exact this
      clear hke hall hxw;go_wp2_with fail;go_ret;exact ⟨by rw [HF.out]; rfl,HWX.out.trans HXW.out⟩
 have q3:(t.kind == 3)=false:=by simpa using k3
 by_cases k4:t.kind=4
 · have htv:=HTV.out;rw [if_neg k1,if_neg k2,if_neg k3,if_pos k4] at htv;have HT:=Lib.hid htv;have q4:(t.kind == 4)=true:=by simpa using k4
   clear k1 k2 k3 k4 HTV htv;go_wp2_with fail;clear hW b0 b1 b2 b3 b4 b5 b6
   go_loopw [42] (fun iv wr=>∃ (k:Nat),k<=t.ks.length/\iv=.int .i64 k/\Hid (anyM ρ (t.ks.take k)=false/\Ext W wr)) (fun iv _=>t.ks.length - (intOf iv).toNat)
   case atStart=>exact ⟨0,Nat.zero_le _,rfl,⟨by simp [anyM],Ext.refl W⟩⟩
   case round =>
    obtain ⟨k,hk,rfl,⟨hall,hxw⟩⟩:=hrel;have HALL:=Lib.hid hall;have HXW:=Lib.hid hxw;obtain ⟨b0,-,-,-,-,-,b6⟩:=HBX.out.ext hxw (by omega)
    by_cases hlt:k < t.ks.length
    · obtain ⟨ad,B0,m0,d0,B1,m1,d1,K2,n2,c2,rfl,hadb,hnd,hkt⟩:=qac.kid H4.out k hlt
      have hkid:∀ W',Ext wr W'->Calls Tryz.prog 11 #[mxV t.ks[k] (.slice B0 m0 d0) (.slice B1 m1 d1) (.slice K2 n2 c2),.slice Ax xs.length cx] W' (kad (t.ks[k].tv ρ) W'):=fun W' hx =>
       IH.out t.ks[k] _ W' (by have:=HSZ.out k hlt; omega) (by have:=HSZ.out k hlt; omega) (wbe HEA.out (List.getElem_mem hlt)) hkt ((HX0.out.trans hxw).trans hx)
      have HKID:=Lib.hid hkid;have HKB:Hid (∀ W',Ext wr W'->(Ext W W'/\W'.cell? ⟨w.heap.size,0,none⟩=some (.int .i64 t.kind)/\W'.cell? ⟨w.heap.size,6,none⟩=some (.slice (some ad) t.ks.length c)/\W'.cell? (ad.add (k * 7))=some (Value.int .i64 t.ks[k].kind)/\W'.cell? ⟨(ad.add (k * 7)).block,(ad.add (k * 7)).off+1,none⟩=some (Value.int .i64 t.ks[k].rel)/\W'.cell? ⟨(ad.add (k * 7)).block,(ad.add (k * 7)).off+2,none⟩=some (Value.int .i64 t.ks[k].p.lv)/\W'.cell? ⟨(ad.add (k * 7)).block,(ad.add (k * 7)).off+3,none⟩=some (Value.bool t.ks[k].p.neg)/\W'.cell? ⟨(ad.add (k * 7)).block,(ad.add (k * 7)).off+4,none⟩=some (Value.slice B0 m0 d0)/\W'.cell? ⟨(ad.add (k * 7)).block,(ad.add (k * 7)).off+5,none⟩=some (Value.slice B1 m1 d1)/\W'.cell? ⟨(ad.add (k * 7)).block,(ad.add (k * 7)).off+6,none⟩=some (Value.slice K2 n2 c2))):=by
       intro W' hx;obtain ⟨k0,-,-,-,-,-,k6⟩:=HBX.out.ext (hxw.trans hx) (by omega);obtain ⟨e0,e1,e2,e3,e4,e5,e6⟩:=hnd.ext ((HX0.out.trans hxw).trans hx) (by rw [jb]; exact hadb);exact ⟨hxw.trans hx,k0,k6,e0,e1,e2,e3,e4,e5,e6⟩
      have HST:Hid (anyM ρ (t.ks.take (k+1))=(anyM ρ (t.ks.take k) || t.ks[k].tv ρ)):=by
       have:anyM ρ (t.ks.take (k+1))=(anyM ρ (t.ks.take k) || t.ks[k].tv ρ):=ub8 _ _ _ hlt;exact this
      clear hkid hkt hnd hadb hall hxw;generalize t.ks[k].tv ρ=tk at *;unfold mxV at HKID;go_wp2_with fail;clear b0 b6;have y0:Ext wr wr.drew:=(Ext.refl wr).drew;have Y0:=Lib.hid y0;clear y0
      go_region_held3 (fun W' => Ext W W' /\ W'.cell? ⟨w.heap.size, 0, none⟩ = some (.int .i64 t.kind) /\ W'.cell? ⟨w.heap.size, 6, none⟩ = some (.slice (some ad) t.ks.length c) /\ W'.cell? (ad.add (k * 7)) = some (Value.int .i64 t.ks[k].kind) /\ W'.cell? ⟨(ad.add (k * 7)).block, (ad.add (k * 7)).off + 1, none⟩ = some (Value.int .i64 t.ks[k].rel) /\ W'.cell? ⟨(ad.add (k * 7)).block, (ad.add (k * 7)).off + 2, none⟩ = some (Value.int .i64 t.ks[k].p.lv) /\ W'.cell? ⟨(ad.add (k * 7)).block, (ad.add (k * 7)).off + 3, none⟩ = some (Value.bool t.ks[k].p.neg) /\ W'.cell? ⟨(ad.add (k * 7)).block, (ad.add (k * 7)).off + 4, none⟩ = some (Value.slice B0 m0 d0) /\ W'.cell? ⟨(ad.add (k * 7)).block, (ad.add (k * 7)).off + 5, none⟩ = some (Value.slice B1 m1 d1) /\ W'.cell? ⟨(ad.add (k * 7)).block, (ad.add (k * 7)).off + 6, none⟩ = some (Value.slice K2 n2 c2))
       (first | with_reducible exact HKB.out _ Y0.out | with_reducible exact HKB.out _ y1)
       ((go_at_call 11
         refine (HKID.out _ Y0.out).mono ?_;rintro e w2 ⟨rfl,x2⟩
         have y1:Ext wr w2:=Ext.trans Y0.out x2))
      all_goals
       have X2:=Lib.hid (HXW.out.trans y1);obtain ⟨b0,-,-,-,-,-,b6⟩:=HBX.out.ext X2.out (by omega);clear x2 y1 HKID HKB Y0;cases tk
       · have HF:Hid (anyM ρ (t.ks.take (k+1))=false):=by
          have h:=HST.out;rw [HALL.out] at h;exact h
         go_wp2_with fail
         go_roundw
         case rel=>exact ⟨k+1,by omega,by go_num,⟨HF.out,X2.out⟩⟩
         case measure=>simp [intOf]; omega
       · have HF:Hid (t.tv ρ=true):=by
          have h:=HST.out;rw [Bool.or_true] at h;have:t.tv ρ=true:=by rw [HT.out]; exact vck _ _ _ h
          exact this
         go_wp2_with fail;go_ret;exact ⟨by rw [HF.out]; rfl,HWX.out.trans X2.out⟩
    · have hke:k=t.ks.length:=by omega
      have HF:Hid (t.tv ρ=false):=by
       have h:=HALL.out;rw [hke,List.take_length] at h;have:t.tv ρ=false:=by rw [HT.out]; exact h
       exact this
      clear hke hall hxw;go_wp2_with fail;go_ret;exact ⟨by rw [HF.out]; rfl,HWX.out.trans HXW.out⟩
 have q4:(t.kind == 4)=false:=by simpa using k4
 have htv:=HTV.out;rw [if_neg k1,if_neg k2,if_neg k3,if_neg k4] at htv;clear k1 k2 k3 k4 HTV;go_wp2_with fail;go_ret;exact ⟨by rw [htv]; rfl,HWX.out⟩
end Go.Proofs.YtheefiaoimbeiaaGreatDoor

/- Law 38: awake: the prenex form of forall x. x < y. -/
set_option maxRecDepth 100000
set_option maxHeartbeats 8000000
namespace Go.Proofs.YtheefiaoimbeiaaGreatDoor
open Go.RowKit
def nx:ByteArray:=⟨#[120]⟩
def ny:ByteArray:=⟨#[121]⟩
def f38:Fm:=.quant true nx (.atom (.name nx) 1 (.name ny))
theorem vcs:f38.nmE=0:=by decide +kernel
theorem ja6:f38.free=[ny]:=by decide +kernel
def zbk:Pl:=.mk 2 false [] [.mk 1 false [] [Pl.zero,Pl.const (-1)],Pl.const 1]
theorem gce:(Pl.mk 1 false [] [Pl.zero,Pl.const (-1)]).Can:=by
 refine ya0 (by omega) (by omega) (by simp) (jah fun c hc=>?_) (by
  have h1:=zaf (n:=1) (by decide)
  simp [Pl.const,Pl.zero])
 simp only [List.mem_cons,List.not_mem_nil,or_false] at hc;rcases hc with rfl | rfl
 · exact ⟨by simp [Pl.zero,Pl.lv],Pl.zero_can⟩
 · exact ⟨by simp [Pl.const,Pl.lv],xae _⟩
theorem wce:zbk.Can:=by
 refine ya0 (by omega) (by omega) (by simp) (jah fun c hc=>?_) (by
  have h1:=zaf (n:=1) (by decide);simp [Pl.const,Pl.zero];intro e;rw [e] at h1
  simp at h1)
 simp only [List.mem_cons,List.not_mem_nil,or_false] at hc;rcases hc with rfl | rfl
 · exact ⟨by simp [Pl.lv],gce⟩
 · exact ⟨by simp [Pl.const,Pl.lv],xae _⟩
theorem zbr (ρ:Int->Rat) (n:Int) (h:1<=n/\n<=4):(Pl.var n).val ρ=ρ n:=by
 unfold Pl.var;rw [if_pos h,Pl.mk_val ρ _ _ _ (by omega) h.2,uf,uf,uf,Pl.zero_val,Pl.const_val]
 push_cast
 grind
theorem gcn:(Pl.var 2).add (Pl.var 1).opp=zbk:=Pl.val_uniq (Pl.add_can _ _) wce fun ρ=>by
 rw [Pl.add_val,Pl.opp_val,zbr ρ 2 (by omega),zbr ρ 1 (by omega)];unfold zbk;rw [Pl.mk_val ρ _ _ _ (by omega) (by omega),uf,uf,uf,Pl.mk_val ρ _ _ _ (by omega) (by omega),uf,uf,uf,Pl.zero_val,Pl.const_val,Pl.const_val]
 push_cast
 grind
theorem gbb:(yc f38 true f38.st).1=wba 1 zbk/\(yc f38 true f38.st).2.all=[true]/\(yc f38 true f38.st).2.names=[ny,nx]:=by
 unfold Fm.st;rw [ja6];refine ⟨?_,rfl,rfl⟩;rw [<- gcn]
 rfl
theorem kav (w:World):Calls Tryz.prog 5 #[] w (kad true w):=by
 go_enter Tryz.func5,Tryz.ntmps5;go_wp2_with fail;obtain ⟨W,hW⟩:=n_m (w.alloc (.cells #[.bool true,.string ⟨#[120]⟩,.iface 77 (.agg #[.iface 73 (.agg #[.string ⟨#[120]⟩]),.int .i64 1,.iface 73 (.agg #[.string ⟨#[121]⟩])])] 79));have hWx:Ext w W:=by rw [<- hW]; exact (Ext.refl w).alloc _
 have hfv:FmV W 0 f38 (.iface 79 (.agg #[.bool true,.string ⟨#[120]⟩,.iface 77 (.agg #[.iface 73 (.agg #[.string ⟨#[120]⟩]),.int .i64 1,.iface 73 (.agg #[.string ⟨#[121]⟩])])])):=
  ⟨_,rfl,_,_,rfl,rfl,rfl⟩
 have HWX:=Lib.hid hWx;rw [hW];clear hW hWx;refine (qcx (w0:=W) (L:=0) (by omega) f38 (Ext.refl W) hfv (by decide) rfl vcs ⟨by decide,by decide⟩ (by rw [ja6]; decide) ⟨⟨ybd _ _ _,ybd _ _ _⟩,kbj kbr⟩ (fun w1 _ gb bl _ hlo=>qbe hlo (vbk (fun _=>gaz) (fun _=>gaz)))).mono ?_;rintro e w1 ⟨u,rfl,x1,hp⟩;rw [ja6,gbb.1,gbb.2.1,gbb.2.2] at hp;obtain ⟨A1,c1,A2,c2,A0,n0,c0,B,n1,c3,K,n2,c4,rfl,hA,hN,-⟩:=hp;obtain ⟨a1,y1,rfl,k1,rfl⟩:=SlR.get_ hA 0 (by simp);obtain ⟨a2,y2,rfl,k2,rfl⟩:=SlR.get_ hN 0 (by simp);obtain ⟨a2',y3,e2,k3,rfl⟩:=SlR.get_ hN 1 (by simp);injection e2 with e2
 subst e2;simp only [List.getElem_cons_zero,List.getElem_cons_succ] at k1 k2 k3;have hb1:=cell_lt k1;have hb2:=cell_lt k2;have hb3:=cell_lt k3;rw [jb] at hb1 hb2 hb3;rw [ja1] at k1 k2;rw [show (1:Nat)=0+1 from rfl,ubf] at k3;simp only [Nat.zero_add] at k3;have j2:ny=⟨#[121]⟩:=rfl;have j3:nx=⟨#[120]⟩:=rfl;rw [j2] at k2;rw [j3] at k3;clear j2 j3;have X1:=Lib.hid (HWX.out.trans x1);clear hA hN x1 hfv;unfold pxC;simp only [List.length_cons,List.length_nil,Nat.zero_add,Nat.reduceAdd,wba,Mx.kind,Mx.rel,Mx.p,zbk,Pl.lv,Pl.neg];go_wp2_with fail;go_ret;exact ⟨rfl,X1.out.alloc _⟩
end Go.Proofs.YtheefiaoimbeiaaGreatDoor

/- Plain: the equivalences of a tree and of its formula. -/
namespace Go.Proofs.YtheefiaoimbeiaaGreatDoor
theorem wcr (L:Nat) (f:Fm):∀ t,zx L f t->f.iffN<=t.iffs:=by
 have step:∀ {l:List Tr} {t:Tr},t.list=t :: l->t.iffs=(if t.d.kind == 14 then 1 else 0)+(l.filter fun x=>x.d.kind == 14).length:=by
  intro l t e;unfold Tr.iffs;rw [e,List.filter_cons]
  split
  · rw [List.length_cons]; omega
  · omega
 have two:∀ {x y t:Tr},t.list=t :: (x.list ++ y.list)->t.iffs=(if t.d.kind == 14 then 1 else 0)+(x.iffs+y.iffs):=by
  intro x y t e;rw [step e,List.filter_append,List.length_append]
  rfl
 refine ubl L (fun f t=>f.iffN<=t.iffs) ?_ ?_ ?_ ?_ ?_ ?_ ?_ ?_ f
 · intro b t _ _ _; exact Nat.zero_le _
 · intro l r k t x y _ _ _ _ _ _ _; exact Nat.zero_le _
 · intro f t x _ e ih; rw [step e]; simp only [Fm.iffN]; unfold Tr.iffs at ih; omega
 · intro f g t x y _ e ih1 ih2; rw [two e]; simp only [Fm.iffN]; omega
 · intro f g t x y _ e ih1 ih2; rw [two e]; simp only [Fm.iffN]; omega
 · intro f g t x y _ e ih1 ih2; rw [two e]; simp only [Fm.iffN]; omega
 · intro f g t x y hk e ih1 ih2; rw [two e,if_pos (by rw [hk]; rfl)]; simp only [Fm.iffN]; omega
 · intro f t x _ e ih; rw [step e]; simp only [Fm.iffN]; unfold Tr.iffs at ih; omega
end Go.Proofs.YtheefiaoimbeiaaGreatDoor
