/- Reference 38: room, Few: how many nodes a matrix has, up to a limit, and that its polynomials are small. -/
import Derived.Test.YtopddaabiinboaaGreatMp17
import Derived.Test.YtopddaabiinboaaGreatMp13
import Derived.Test.YtopddaabiinboaaGreatMp8
import Derived.Test.YtopddaabiinboaaGreatMp2
import Derived.Deep.RegionLaw
import Derived.Test.YtopddaabiinboaaGreatMp15
import Derived.Laws.StructEq
import Derived.Test.YtopddaabiinboaaGreatMp16
set_option linter.unusedSimpArgs false
set_option linter.unusedVariables false

set_option maxRecDepth 100000
set_option maxHeartbeats 8000000
namespace Go.Proofs.YtopddaabiinboaaGreat
open Go.RowKit
mutual
def Mx.room : Mx -> Int -> Nat -> Int
 | .mk _ _ p ks,n,deep=>match deep with
   | 0=>-1
   | d+1=>if p.few 40 4=true then xc8 ks (n - 1) d else -1
def xc8 : List Mx -> Int -> Nat -> Int
 | [],n,_=>n
 | t :: r,n,d=>if n < 0 then -1 else xc8 r (t.room n d) d
end
mutual
theorem Mx.room_bd : ∀ (t : Mx) (n : Int) (d : Nat), 0 <= n -> -1 <= t.room n d /\ t.room n d <= n
 | .mk _ _ p ks,n,deep,h=>by
   cases deep with
   | zero=>simp only [Mx.room]; omega
   | succ d =>
     simp only [Mx.room]
     split
     · have:=qg7 ks (n - 1) d (by omega); omega
     · omega
theorem qg7 : ∀ (l : List Mx) (n : Int) (d : Nat), -1 <= n -> -1 <= xc8 l n d /\ xc8 l n d <= n
 | [],n,d,h=>by simp only [xc8]; omega
 | t :: r,n,d,h=>by
   simp only [xc8]
   split
   · omega
   · have h1:=Mx.room_bd t n d (by omega);have h2:=qg7 r (t.room n d) d h1.1;omega
end
theorem vho (l:List Mx) (d:Nat):xc8 l (-1) d=-1:=by cases l <;> simp [xc8]
theorem kha (l r:List Mx) (n:Int) (d:Nat) (hn:-1<=n):xc8 (l ++ r) n d=xc8 r (xc8 l n d) d:=by
 induction l generalizing n with
 | nil=>simp [xc8]
 | cons t l ih =>
   simp only [List.cons_append,xc8]
   split
   · rw [vho]
   · exact ih _ (Mx.room_bd t n d (by omega)).1
theorem gh8 (l:List Mx) (k:Nat) (hk:k < l.length) (n:Int) (d:Nat) (hn:-1<=n):xc8 (l.take (k+1)) n d=if xc8 (l.take k) n d < 0 then -1 else (l[k]).room (xc8 (l.take k) n d) d:=by
 rw [List.take_succ_eq_append_getElem hk,kha _ _ _ _ hn];simp [xc8]
theorem vig (l:List Mx) (k:Nat) (n:Int) (d:Nat) (hn:-1<=n) (hk:k < l.length) (h:xc8 (l.take k) n d < 0):xc8 l n d=-1:=by
 have h1:l=l.take k ++ l.drop k:=(List.take_append_drop k l).symm;have hb:=(qg7 (l.take k) n d hn).1;have h2:xc8 (l.take k) n d=-1:=by omega
 rw [h1,kha _ _ _ _ hn,h2,vho]
mutual
def Mx.sz : Mx -> Nat
 | .mk _ _ _ ks=>yg5 ks+1
def yg5 : List Mx -> Nat
 | []=>0
 | t :: r=>t.sz+yg5 r
end
mutual
def Mx.small : Mx -> Prop
 | .mk _ _ p ks=>(p.sz<=40/\p.dm<=4)/\kgy ks
def kgy : List Mx -> Prop
 | []=>True
 | t :: r=>t.small/\kgy r
end
theorem yir {l:List Mx} {t:Mx} (h:t ∈ l):t.sz<=yg5 l:=by
 induction l with
 | nil=>cases h
 | cons x r ih =>
   rcases List.mem_cons.1 h with rfl | h
   · rw [yg5]; omega
   · have:=ih h; rw [yg5]; omega
theorem xir (l:List Mx):l.length<=yg5 l:=by
 induction l with
 | nil=>exact Nat.le_refl _
 | cons x r ih=>cases x; rw [yg5,Mx.sz]; simp only [List.length_cons]; omega
mutual
theorem Mx.room_sz : ∀ (t : Mx) (n : Int) (d : Nat), 0 <= n -> 0 <= t.room n d -> t.room n d = n - t.sz /\ t.small
 | .mk _ _ p ks,n,deep,h,h'=>by
   cases deep with
   | zero=>simp only [Mx.room] at h'; omega
   | succ d =>
     simp only [Mx.room,Mx.sz,Mx.small] at h' ⊢
     split at h'
     · rename_i hc;rw [if_pos hc];have h1:=khu ks (n - 1) d (by omega) h';exact ⟨by omega,Pl.few_le hc,h1.2⟩
     · omega
theorem khu : ∀ (l : List Mx) (n : Int) (d : Nat), -1 <= n -> 0 <= xc8 l n d -> xc8 l n d = n - yg5 l /\ kgy l
 | [],n,d,h,h'=>by simp only [xc8,yg5,kgy]; exact ⟨by omega,trivial⟩
 | t :: r,n,d,h,h'=>by
   simp only [xc8] at h' ⊢
   split at h'
   · omega
   · rename_i hn;rw [if_neg hn];have hb:=Mx.room_bd t n d (by omega);have h2:=khu r (t.room n d) d hb.1 h';have hb2:=qg7 r (t.room n d) d hb.1;have h1:=Mx.room_sz t n d (by omega) (by omega);simp only [yg5,kgy];exact ⟨by omega,h1.2,h2.2⟩
end
def Mx.few (m:Mx) (n:Nat):Bool:=decide (0<=m.room n 12)
theorem Mx.few_le {m:Mx} {n:Nat} (h:m.few n=true):m.sz<=n/\m.small:=by
 have h1:=Mx.room_sz m n 12 (by omega) (of_decide_eq_true h);have h2:=of_decide_eq_true h;exact ⟨by omega,h1.2⟩
def udd (w:World) (g:Nat) (m:Mx) (s A K:Value):Prop:=
 w.cell? ⟨g,0,none⟩=some (.int .i64 m.kind)/\w.cell? ⟨g,1,none⟩=some (.int .i64 m.rel)/\w.cell? ⟨g,2,none⟩=some (.int .i64 m.p.lv)/\w.cell? ⟨g,3,none⟩=some (.bool m.p.neg)/\w.cell? ⟨g,4,none⟩=some s/\w.cell? ⟨g,5,none⟩=some A/\w.cell? ⟨g,6,none⟩=some K
theorem udd.turn {w w':World} {g:Nat} {m:Mx} {s A K:Value} (h:udd w g m s A K) (hb:w'.heap[g]?=w.heap[g]?):udd w' g m s A K:=by
 obtain ⟨h0,h1,h2,h3,h4,h5,h6⟩:=h;have k:∀ i,w'.cell? ⟨g,i,none⟩=w.cell? ⟨g,i,none⟩:=fun i=>World.cell?_of_block (a:=⟨g,i,none⟩) hb
 exact ⟨(k _).trans h0,(k _).trans h1,(k _).trans h2,(k _).trans h3,(k _).trans h4,(k _).trans h5,(k _).trans h6⟩
theorem udd.ext {w w':World} {g:Nat} {m:Mx} {s A K:Value} (h:udd w g m s A K) (hx:Ext w w') (hg:g < w.heap.size):udd w' g m s A K:=h.turn (hx.below.block g hg)
theorem udd.new (w:World) (m:Mx) (s A K:Value) (T:TypeId):udd (w.alloc (.cells #[.int .i64 m.kind,.int .i64 m.rel,.int .i64 m.p.lv,.bool m.p.neg,s,A,K] T)) w.heap.size m s A K:=by
 refine ⟨?_,?_,?_,?_,?_,?_,?_⟩ <;> simp [go_sem]
theorem kig {p:Nat->Prop} (dd:Nat):∀ (t:Mx) (v:Value) (w:World) (n:Int) (deep:Nat),deep < dd->MxV w p t v->0<=n->n<=1000000->deep<=1000000 ->
 Calls Tryz.prog 37 #[v,.int .i64 n,.int .i64 deep] w (vc5 (t.room n deep) w):=by
 induction dd with
 | zero=>intro t v w n deep h; omega
 | succ dd ih =>
 intro t v w n deep hdd h hn hn' hd';have IH:=Lib.hid ih;obtain ⟨A0,n0,c0,A,n1,c1,K,c,rfl,hp,hl1,hl2,h4⟩:=h.open_;have HP:=Lib.hid hp;have H4:=Lib.hid h4;clear h4 ih h hp;unfold mxV;cases deep with
 | zero =>
   obtain ⟨kd,rl,pl,ks⟩:=t;show Calls _ _ _ _ (vc5 (-1) w);go_enter Tryz.func37,Tryz.ntmps37;go_wp2_with fail;go_ret;exact ⟨rfl,(Ext.refl w).alloc _⟩
 | succ deep =>
   have hde:(((deep+1:Nat):Int) == 0)=false:=by simp; omega
   have hroom:t.room n (deep+1)=if t.p.few 40 4=true then xc8 t.ks (n - 1) deep else -1:=by cases t; rfl
   obtain ⟨dI,hdI⟩:∃ dI:Int,((deep+1:Nat):Int)=dI:=⟨_,rfl⟩;rw [hdI] at hde ⊢;have hdI1:1<=dI:=by omega
   have hdI2:dI<=1000000:=by omega
   have HDI:Hid (dI - 1=(deep:Int)):=by
    have:dI - 1=(deep:Int):=by omega
    exact this
   clear hdI;obtain ⟨W,hW⟩:=n_m (w.alloc (.cells #[.int .i64 t.kind,.int .i64 t.rel,.int .i64 t.p.lv,.bool t.p.neg,.slice A0 n0 c0,.slice A n1 c1,.slice K t.ks.length c] 50));have hWx:Ext w W:=by rw [<- hW]; exact (Ext.refl w).alloc _
   have hWs:w.heap.size < W.heap.size:=by rw [<- hW]; simp
   have hbx:udd W w.heap.size t (.slice A0 n0 c0) (.slice A n1 c1) (.slice K t.ks.length c):=by rw [<- hW]; exact udd.new w t _ _ _ _
   have HBX:=Lib.hid hbx;obtain ⟨b0,b1,b2,b3,b4,b5,b6⟩:=hbx;have HFEW:=Lib.hid (vh3 4 40 (by omega) (by omega) t.p _ W (HP.out.ext hWx));have HRM:=Lib.hid hroom;clear hroom;unfold plV at HFEW;have HWX:=Lib.hid hWx;clear hWx;generalize t.p.few 40 4=fw at *;go_enter Tryz.func37,Tryz.ntmps37;go_wp2_with fail;clear hW b0 b1 b2 b3 b4 b5 b6;refine HFEW.out.mono ?_;rintro e w1 ⟨rfl,x1⟩;have X01:=Lib.hid x1;obtain ⟨b0,b1,b2,b3,b4,b5,b6⟩:=HBX.out.ext x1 hWs;have hWs1:w.heap.size < w1.heap.size:=by have:=x1.size; omega
   have D8:=Lib.hid b6;clear x1 HFEW;cases fw
   · have hr:=HRM.out;rw [if_neg (by decide)] at hr;have HR:=Lib.hid hr;clear hr;go_wp2_with fail;go_ret;exact ⟨by rw [HR.out]; rfl,HWX.out.trans X01.out⟩
   have hr:=HRM.out;rw [if_pos rfl] at hr;have HR:=Lib.hid hr;clear hr;go_wp2_with fail;clear b0 b1 b2 b3 b4 b5 b6
   go_loopw [1,21] (fun nv iv wr=>∃ (k:Nat) (m:Int),k<=t.ks.length/\iv=.int .i64 k/\nv=.int .i64 m/\-1<=m/\m<=1000000/\Hid (xc8 (t.ks.take k) (n - 1) deep=m/\Ext w1 wr)) (fun _ iv _=>t.ks.length - (intOf iv).toNat)
   case atStart=>exact ⟨0,n - 1,Nat.zero_le _,rfl,rfl,by omega,by omega,⟨by simp [xc8],Ext.refl w1⟩⟩
   case round =>
    obtain ⟨k,m,hk,rfl,rfl,hm1,hm2,⟨hm,hxw⟩⟩:=hrel;have HM:=Lib.hid hm;have HXW:=Lib.hid hxw;have d8:wr.cell? ⟨w.heap.size,6,none⟩=some (.slice K t.ks.length c):=(hxw.cell (p:=⟨w.heap.size,6,none⟩) hWs1).trans D8.out
    by_cases hlt:k < t.ks.length
    · by_cases hneg:m < 0
      · have HF:Hid (xc8 t.ks (n - 1) deep=-1):=by
         have:xc8 t.ks (n - 1) deep=-1:=vig t.ks k (n - 1) deep (by omega) hlt (by omega);exact this
        clear hm hxw;go_wp2_with fail;go_ret;exact ⟨by rw [HR.out,HF.out]; rfl,(HWX.out.trans X01.out).trans HXW.out⟩
      · obtain ⟨ad,B0,m0,d0,B1,m1,d1,K2,n2,c2,rfl,hadb,⟨e0,e1,e2,e3,e4,e5,e6⟩,hkt⟩:=zc6.kid (zc6.ext H4.out ((HWX.out.trans X01.out).trans hxw)) k hlt;have HKT:=Lib.hid hkt;have HSTEP:Hid (xc8 (t.ks.take (k+1)) (n - 1) deep=(t.ks[k]).room m deep):=by
         have:xc8 (t.ks.take (k+1)) (n - 1) deep=(t.ks[k]).room m deep:=by rw [gh8 _ _ hlt _ _ (by omega),hm,if_neg hneg]
         exact this
        clear hkt hm hxw hadb;have hm0:decide (m < 0)=false:=by simpa using hneg
        go_wp2_with fail;rw [HDI.out];have hbd:=Mx.room_bd (t.ks[k]) m deep (by omega);refine (IH.out (t.ks[k]) _ wr m deep (by omega) HKT.out (by omega) (by omega) (by omega)).mono ?_;rintro e w2 ⟨rfl,x2⟩;have X2:=Lib.hid x2;clear x2 e0 e1 e2 e3 e4 e5 e6 d8;generalize hrm:(t.ks[k]).room m deep=m2 at *;have HRM:=Lib.hid hrm;clear hrm;go_wp2_with fail
        go_roundw
        case rel=>exact ⟨k+1,m2,by omega,by go_num,rfl,by omega,by omega,⟨HSTEP.out,HXW.out.trans X2.out⟩⟩
        case measure=>simp [intOf]; omega
    · have hke:k=t.ks.length:=by omega
      have HF:Hid (xc8 t.ks (n - 1) deep=m):=by
       rw [hke,List.take_length] at hm;exact hm
      clear hm hxw hke;go_wp2_with fail;go_ret;exact ⟨by rw [HR.out,HF.out]; rfl,(HWX.out.trans X01.out).trans HXW.out⟩
theorem uh8 {p:Nat->Prop} (t:Mx) (v:Value) (w:World) (n:Int) (deep:Nat) (h:MxV w p t v) (hn:0<=n) (hn':n<=1000000) (hd:deep<=1000000) :
 Calls Tryz.prog 37 #[v,.int .i64 n,.int .i64 deep] w (vc5 (t.room n deep) w):=kig (deep+1) t v w n deep (Nat.lt_succ_self _) h hn hn' hd
theorem vik {p:Nat->Prop} (n:Nat) (hn:n<=1000000) (t:Mx) (v:Value) (w:World) (h:MxV w p t v):Calls Tryz.prog 16 #[v,.int .i64 n] w fun e w'=>e=.returned (.bool (t.few n))/\Ext w w':=by
 have HH:=Lib.hid h;obtain ⟨A0,n0,c0,A,n1,c1,K,c,rfl,hp,hl1,hl2,h4⟩:=h.open_;obtain ⟨W,hW⟩:=n_m (w.alloc (.cells #[.int .i64 t.kind,.int .i64 t.rel,.int .i64 t.p.lv,.bool t.p.neg,.slice A0 n0 c0,.slice A n1 c1,.slice K t.ks.length c] 50));have hWx:Ext w W:=by rw [<- hW]; exact (Ext.refl w).alloc _
 obtain ⟨b0,b1,b2,b3,b4,b5,b6⟩:udd W w.heap.size t (.slice A0 n0 c0) (.slice A n1 c1) (.slice K t.ks.length c):=by rw [<- hW]; exact udd.new w t _ _ _ _
 have HWX:=Lib.hid hWx;have HC:=Lib.hid (uh8 t _ W n 12 (HH.out.ext hWx) (by omega) (by omega) (by omega));have HE:Hid (t.few n=decide (t.room n 12 ≥ 0)):=rfl;clear h hp h4 hWx;generalize t.room n 12=rr at *;unfold mxV at *;go_enter Tryz.func16,Tryz.ntmps16;go_wp2_with fail;clear hW b0 b1 b2 b3 b4 b5 b6;refine HC.out.mono ?_;rintro e w2 ⟨rfl,x2⟩;have X2:=Lib.hid (HWX.out.trans x2);clear x2;go_wp2_with fail;go_ret;exact ⟨by rw [HE.out]; rfl,X2.out⟩
end Go.Proofs.YtopddaabiinboaaGreat

/- Matrices that a call makes: rows of them that grow, results. -/
namespace Go.Proofs.YtopddaabiinboaaGreat
open Go.RowKit
def mxC (r:Mx × Value × Value × Value):List Value:=[.int .i64 r.1.kind,.int .i64 r.1.rel,.int .i64 r.1.p.lv,.bool r.1.p.neg,r.2.1,r.2.2.1,r.2.2.2]
section
variable {base:Nat} {W W':World} {v:Value} {l:List Mx}
end
end Go.Proofs.YtopddaabiinboaaGreat

/- recpoly.Normal at polynomials that are canonical, of any size. -/
set_option maxRecDepth 100000
set_option maxHeartbeats 8000000
namespace Go.Proofs.YtopddaabiinboaaGreat
open Go.RowKit
theorem yh9 {w:World} {q:Nat->Prop} (p P:Pl) (v:Value) (h:PlV w q p v) (hca:∀ W,Ext w W->Calls Tryz.prog 24 #[v] W (vc4 (fun b=>q b\/W.heap.size<=b) P W)) (hcan:P.Can) (hnf:P.sz<=1099511627776) (hdm2:P.dm<=35184372088832):Calls Tryz.prog 36 #[v] w (vc4 (fun b=>w.heap.size<=b) P w):=by
 have HH:=Lib.hid h;obtain ⟨A0,n0,c0,A,c,rfl,hnat,hl1,hl2,h4⟩:=h.open_;obtain ⟨W,hW⟩:=n_m ((w.alloc (.cells #[.int .i64 p.lv,.bool p.neg,.slice A0 n0 c0,.slice A p.cs.length c] 30)).alloc (.cells #[.int .i64 0,.bool false,.slice none 0 0,.slice none 0 0] 30));have hWx:Ext w W:=by rw [<- hW]; exact ((Ext.refl w).alloc _).alloc _
 have hWs:W.heap.size=w.heap.size+1+1:=by rw [<- hW]; simp
 obtain ⟨b0,b1,b2,b3⟩:yc3 W w.heap.size p (.slice A0 n0 c0) (.slice A p.cs.length c):=by rw [<- hW]; exact (yc3.new w p _ _ _).ext ((Ext.refl _).alloc _) (by simp)
 have hz:yc5 W (w.heap.size+1):=by
  have:=yc5.new (w.alloc (.cells #[.int .i64 p.lv,.bool p.neg,.slice A0 n0 c0,.slice A p.cs.length c] 30)) 30;rw [hW] at this;simpa using this
 have HWX:=Lib.hid hWx;have HZ:=Lib.hid hz;have HCA:=Lib.hid hca;clear h hnat h4 hWx hz hca;have HCAN:=Lib.hid hcan;clear hcan;unfold plV at *;go_enter Tryz.func36,Tryz.ntmps36;go_wp2_with fail;clear hW b0 b1 b2 b3;refine (HCA.out _ HWX.out).mono ?_;rintro e w1 ⟨v1,rfl,p1,x1⟩;have HC:=Lib.hid (ug8 P v1 HCAN.out hnf (by omega) p1);obtain ⟨C0,j0,f0,C1,f1,rfl,-⟩:=id p1.open_;have X1:=Lib.hid (HWX.out.trans x1);have HZ1:=Lib.hid (HZ.out.ext x1 (by omega));have hs1:=x1.size;clear p1 x1;unfold plV at *;go_wp2_with fail;refine HC.out.mono ?_;rintro e w2 ⟨v2,rfl,p2,x2⟩;obtain ⟨D0,j1,g0,D1,g1,rfl,-⟩:=id p2.open_;obtain ⟨⟨z0,z1,z2,z3⟩,zf⟩:=HZ1.out.ext x2 (by omega);have HF:=Lib.hid (gc5 (q':=fun b=>w.heap.size<=b) (X1.out.trans x2) (Nat.le_succ _) (HZ1.out.ext x2 (by omega)) p2 (fun b _ hb=>⟨by omega,by omega⟩));clear p2 x2 HC HZ1;unfold plV;go_wp2_with fail;exact bodyPost_ret (v:=plV P (.slice D0 j1 g0) (.slice D1 P.cs.length g1)) (by simp [results,Tryz.results36,go_sem,z0,z1,z2,z3,plV]) rfl HF.out
theorem kh1 {w:World} {q:Nat->Prop} {p:Pl} (v:Value) (h:PlV w q p v) (hp:p.Can) (hsz:p.sz<=1099511627776) (hdm:p.dm<=35184372088832):Calls Tryz.prog 36 #[v] w (vc4 (fun b=>w.heap.size<=b) p w):=
 yh9 p p v h (fun W hW=>xg0 v (h.ext hW) hp) hp hsz hdm
def uhc (p:Pl):Prop:=p.sz<=1099511627776/\p.nf.sz<=1099511627776/\∀ (w:World) (q:Nat->Prop) (v:Value),PlV w q p v->Calls Tryz.prog 36 #[v] w (vc4 (fun b=>w.heap.size<=b) p.nf w)
theorem wic {p:Pl} (h:p.sz<=1073741824) (hd:p.dm<=1099511627776) (hn:p.nf.sz<=1099511627776):uhc p:=⟨by omega,hn,fun _ _ v hv=>uh1 p v hv h hn hd⟩
theorem vh1 {w:World} {q:Nat->Prop} {p:Pl} (v:Value) (h:PlV w q p v) (hb:uhc p):Calls Tryz.prog 36 #[v] w (vc4 (fun b=>w.heap.size<=b) p.nf w):=hb.2.2 _ _ v h
theorem yia {w:World} {q:Nat->Prop} {p:Pl} (v:Value) (h:PlV w q p v) (hb:uhc p):Calls Tryz.prog 62 #[v] w fun e w'=>e=.returned (.int .i64 p.nf.lv)/\Ext w w':=
 yij p p.nf v h fun _ hW=>vh1 v (h.ext hW) hb
end Go.Proofs.YtopddaabiinboaaGreat

/- Matrices: what holds of every polynomial in them; matrices that are not too big. -/
namespace Go.Proofs.YtopddaabiinboaaGreat
open Go.RowKit
mutual
def Mx.each (P : Pl -> Prop) : Mx -> Prop
 | .mk _ _ p ks=>P p/\jdd P ks
def jdd (P : Pl -> Prop) : List Mx -> Prop
 | []=>True
 | t :: r=>t.each P/\jdd P r
end
theorem xgw {P:Pl->Prop} {l:List Mx} {t:Mx} (h:jdd P l) (ht:t ∈ l):t.each P:=by
 induction l with
 | nil=>cases ht
 | cons x r ih =>
   rw [jdd] at h;rcases List.mem_cons.1 ht with rfl | ht
   · exact h.1
   · exact ih h.2 ht
theorem Mx.each_ks {P:Pl->Prop} {t:Mx} (h:t.each P):jdd P t.ks:=by cases t; rw [Mx.each] at h; exact h.2
theorem Mx.each_p {P:Pl->Prop} {t:Mx} (h:t.each P):P t.p:=by cases t; rw [Mx.each] at h; exact h.1
mutual
theorem Mx.each_mono {P Q : Pl -> Prop} (hq : ∀ p, P p -> Q p) : ∀ t : Mx, t.each P -> t.each Q
 | .mk _ _ p ks,h=>by rw [Mx.each] at h ⊢; exact ⟨hq p h.1,qhk hq ks h.2⟩
theorem qhk {P Q : Pl -> Prop} (hq : ∀ p, P p -> Q p) : ∀ l : List Mx, jdd P l -> jdd Q l
 | [],_=>by rw [jdd]; trivial
 | t :: r,h=>by rw [jdd] at h ⊢; exact ⟨Mx.each_mono hq t h.1,qhk hq r h.2⟩
end
mutual
theorem Mx.each_and {P Q : Pl -> Prop} : ∀ t : Mx, t.each P -> t.each Q -> t.each (fun p => P p /\ Q p)
 | .mk _ _ p ks,h,k=>by rw [Mx.each] at h k ⊢; exact ⟨⟨h.1,k.1⟩,whp ks h.2 k.2⟩
theorem whp {P Q : Pl -> Prop} : ∀ l : List Mx, jdd P l -> jdd Q l -> jdd (fun p => P p /\ Q p) l
 | [],_,_=>by rw [jdd]; trivial
 | t :: r,h,k=>by rw [jdd] at h k ⊢; exact ⟨t.each_and h.1 k.1,whp r h.2 k.2⟩
end
mutual
theorem Mx.small_each : ∀ t : Mx, t.small -> t.each (fun p => p.sz <= 40 /\ p.dm <= 4)
 | .mk _ _ p ks,h=>by rw [Mx.small] at h; rw [Mx.each]; exact ⟨h.1,uha ks h.2⟩
theorem uha : ∀ l : List Mx, kgy l -> jdd (fun p => p.sz <= 40 /\ p.dm <= 4) l
 | [],_=>by rw [jdd]; trivial
 | t :: r,h=>by rw [kgy] at h; rw [jdd]; exact ⟨t.small_each h.1,uha r h.2⟩
end
theorem Mx.small_bigN {t:Mx} (hs:t.small):t.each uhc:=
 Mx.each_mono (fun p hp=>wic (by have:=hp.1; omega) (by have:=hp.2; omega) (Nat.le_trans (Pl.nf_sz p) (Nat.le_trans (Nat.pow_le_pow_left (show p.sz+2<=42 by have:=hp.1; omega) 4) (by decide)))) t (t.small_each hs)
end Go.Proofs.YtopddaabiinboaaGreat

/- Reference 38: Normal: a matrix in normal form. -/
namespace Go.Proofs.YtopddaabiinboaaGreat
open Go.RowKit
theorem Mx.kid_le (t:Mx) (k:Nat) (hk:k < t.ks.length):t.ks[k].sz < t.sz:=by
 cases t with
 | mk kd r p ks=>have:=yir (l:=ks) (List.getElem_mem hk); simp only [Mx.sz,Mx.ks] at *; omega
theorem Mx.ks_len (t:Mx):t.ks.length < t.sz:=by
 cases t with
 | mk kd r p ks=>have:=xir ks; simp only [Mx.sz,Mx.ks] at *; omega
end Go.Proofs.YtopddaabiinboaaGreat

/- Layer 34: formula.Valid, and the reference's Has, words, Valid. -/
namespace Go.Proofs.YtopddaabiinboaaGreat
open Go.RowKit
end Go.Proofs.YtopddaabiinboaaGreat

/- Plain: what recpoly.degree and recpoly.at compute: the polynomial at a fraction a / b in place of one variable, times a power of b. -/
namespace Go.Proofs.YtopddaabiinboaaGreat
mutual
def Pl.dgL (l : Int) : Pl -> Int
 | .mk lv _ _ cs=>if lv < l then 0 else if lv=l then cs.length - 1 else jc7 l 0 cs
def jc7 (l : Int) : Int -> List Pl -> Int
 | a,[]=>a
 | a,c :: r=>jc7 l (max a (c.dgL l)) r
end
theorem ghv (l a:Int) (x y:List Pl):jc7 l a (x ++ y)=jc7 l (jc7 l a x) y:=by
 induction x generalizing a with
 | nil=>rfl
 | cons t x ih=>simp only [List.cons_append,jc7]; exact ih _
theorem vhi (l a:Int) (cs:List Pl) (k:Nat) (hk:k < cs.length):jc7 l a (cs.take (k+1))=max (jc7 l a (cs.take k)) (cs[k].dgL l):=by
 rw [List.take_succ_eq_append_getElem hk,ghv]; rfl
theorem ug7 (l : Int) : ∀ (cs : List Pl) (a : Int), a <= jc7 l a cs
 | [],a=>Int.le_refl _
 | c :: r,a=>by rw [jc7]; have:=ug7 l r (max a (c.dgL l)); omega
theorem ugv (l : Int) : ∀ (cs : List Pl) (a : Int) (c : Pl), c ∈ cs -> c.dgL l <= jc7 l a cs
 | d :: r,a,c,h=>by
   rw [jc7];rcases List.mem_cons.1 h with rfl | h
   · have:=ug7 l r (max a (c.dgL l)); omega
   · exact ugv l r _ c h
theorem uhv (l : Int) (n : Int) : ∀ (cs : List Pl) (a : Int), a <= n -> (∀ c ∈ cs, c.dgL l <= n) -> jc7 l a cs <= n
 | [],a,h,_=>h
 | c :: r,a,h,hc=>by
   rw [jc7];exact uhv l n r _ (by have:=hc c (by simp); omega) fun x hx=>hc x (by simp [hx])
theorem Pl.dgL_bd {l : Int} (hl : 1 <= l) {E : Nat} : ∀ p : Pl, p.Can -> p.ex E -> 0 <= p.dgL l /\ p.dgL l <= E
 | .mk lv n d cs,h,he=>by
   rw [Pl.dgL]
   by_cases h1:lv < l
   · rw [if_pos h1]; omega
   · obtain ⟨-,-,h2,hk,-⟩:=h.kids (by omega);rw [Pl.ex] at he;obtain ⟨he1,he2⟩:=he.resolve_left (by omega);rw [if_neg h1]
     by_cases h3:lv=l
     · rw [if_pos h3]; omega
     · rw [if_neg h3];exact ⟨ug7 l cs 0,uhv l E cs 0 (by omega) fun c hc=>(Pl.dgL_bd hl c (hk.mem c hc).2 (xg2 he2 c hc)).2⟩
def horP (a b : Int) : List Pl -> Pl
 | []=>Pl.zero
 | [c]=>c
 | c :: d :: r=>((horP a b (d :: r)).mul (Pl.const a)).add (c.mul (Pl.const (b ^ (r.length+1))))
theorem wij {a b:Int} (c:Pl) {cs:List Pl} (h:cs ≠ []):horP a b (c :: cs)=((horP a b cs).mul (Pl.const a)).add (c.mul (Pl.const (b ^ cs.length))):=by
 cases cs with
 | nil=>exact absurd rfl h
 | cons d r=>rfl
theorem gij {a b:Int} (cs:List Pl) (k:Nat) (hk:k+1 < cs.length):horP a b (cs.drop k)=((horP a b (cs.drop (k+1))).mul (Pl.const a)).add (cs[k].mul (Pl.const (b ^ (cs.length - 1 - k)))):=by
 rw [List.drop_eq_getElem_cons (by omega:k < cs.length),wij _ (by rw [Ne,List.drop_eq_nil_iff]; omega),List.length_drop];rw [show cs.length - (k+1)=cs.length - 1 - k by omega]
theorem uij {a b:Int} (cs:List Pl) (k:Nat) (hk:k+1=cs.length):horP a b (cs.drop k)=cs[k]:=by
 rw [List.drop_eq_getElem_cons (by omega:k < cs.length),List.drop_eq_nil_of_le (by omega)]
 rfl
theorem qgv {a b : Int} : ∀ cs : List Pl, (∀ c ∈ cs, c.Can) -> (horP a b cs).Can
 | [],_=>Pl.zero_can
 | [c],h=>h c (by simp)
 | _ :: _ :: _,_=>Pl.add_can _ _
theorem zh6 {a b : Int} {n : Int} (h0 : 0 <= n) (h4 : n <= 4) : ∀ cs : List Pl, (∀ c ∈ cs, c.Can /\ c.lv <= n) -> (horP a b cs).lv <= n
 | [],_=>h0
 | [c],h=>(h c (by simp)).2
 | c :: d :: r,h=>by
   rw [horP]
   exact Pl.add_lv (Pl.mul_can _ _) (Pl.mul_can _ _) (Pl.mul_lv (qgv _ fun x hx => (h x (List.mem_cons_of_mem _ hx)).1) (vdf _) (zh6 h0 h4 (d :: r) fun x hx => h x (List.mem_cons_of_mem _ hx)) h0 h4)
    (Pl.mul_lv (h c (by simp)).1 (vdf _) (h c (by simp)).2 h0 h4) h4
theorem jhx {a b : Int} {ρ : Int -> Rat} {l : Int} (hρ : ρ l * (b : Rat) = (a : Rat)) : ∀ cs : List Pl, cs ≠ [] -> (horP a b cs).val ρ = (b : Rat) ^ (cs.length - 1) * zc3 ρ l cs
 | [c],_=>by rw [horP,zc3,zc3]; simp; grind
 | c :: d :: r,_=>by
   have e:zc3 ρ l (c :: d :: r)=c.val ρ+ρ l * zc3 ρ l (d :: r):=by rw [zc3]
   have e2:(((b ^ (r.length+1):Int)):Rat)=(b:Rat) ^ r.length * b:=by push_cast; rw [Rat.pow_succ]
   rw [horP,Pl.add_val,Pl.mul_val,Pl.mul_val,Pl.const_val,Pl.const_val,jhx hρ (d :: r) (by simp),e,e2,<- hρ];simp only [List.length_cons,Nat.add_sub_cancel];rw [Rat.pow_succ]
   grind
theorem Pl.fit_of {p:Pl} {E:Nat} (h:p.Can) (he:p.ex E):Fit p E p.nr:=⟨h,he,Nat.lt_pow_self (by decide)⟩
theorem Pl.mul_const_ex {p:Pl} {E:Nat} (h:p.Can) (he:p.ex E) (z:Int):(p.mul (Pl.const z)).ex E:=
 ((Pl.fit_of h he).mul (Fit.const (D:=z.natAbs) (E:=0) (Nat.lt_pow_self (by decide)))).ex
theorem Pl.mul_const_nr {p:Pl} (h:p.Can) (z:Int):(p.mul (Pl.const z)).nr<=p.nr * z.natAbs:=by
 have h1:=Pl.ofS_nr (ugw (p.terms Mo.one) ((Pl.const z).terms Mo.one));rw [zhu,Pl.terms_nr p _ h,Pl.terms_nr _ _ (vdf z),Pl.const_nr] at h1;exact h1
theorem Pl.add_ex {p q:Pl} {E:Nat} (h:p.Can) (k:q.Can) (he:p.ex E) (ke:q.ex E):(p.add q).ex E:=by
 have:=((Pl.fit_of h he).add (Pl.fit_of k ke)).ex
 rwa [Nat.max_self] at this
theorem Pl.add_nrL {p q:Pl} (h:p.Can) (k:q.Can):(p.add q).nr<=p.nr+q.nr:=by
 have h1:=Pl.ofS_nr (p.terms Mo.one ++ q.terms Mo.one);rw [ydj,Pl.terms_nr p _ h,Pl.terms_nr q _ k] at h1;exact h1
theorem xhn {a b : Int} {E : Nat} : ∀ cs : List Pl, (∀ c ∈ cs, c.Can /\ c.ex E) -> (horP a b cs).ex E
 | [],_=>(Fit.zero (D:=0)).ex
 | [c],h=>(h c (by simp)).2
 | c :: d :: r,h=>by
   rw [horP];have hd:∀ x ∈ d :: r,x.Can/\x.ex E:=fun x hx=>h x (List.mem_cons_of_mem _ hx)
   exact Pl.add_ex (Pl.mul_can _ _) (Pl.mul_can _ _) (Pl.mul_const_ex (qgv _ fun x hx=>(hd x hx).1) (xhn _ hd) _) (Pl.mul_const_ex (h c (by simp)).1 (h c (by simp)).2 _)
theorem ugu {b:Int} {M:Nat} (h:b.natAbs<=M) (n:Nat):(b ^ n).natAbs<=M ^ n:=by
 rw [Int.natAbs_pow];exact Nat.pow_le_pow_left h n
theorem yhn {a b : Int} {M : Nat} (ha : a.natAbs <= M) (hb : b.natAbs <= M) : ∀ cs : List Pl, (∀ c ∈ cs, c.Can) -> (horP a b cs).nr <= kc7 cs * M ^ (cs.length - 1)
 | [],_=>by rw [horP]; have:Pl.zero.nr=0:=by { unfold Pl.zero; rw [Pl.nr,if_pos (Int.le_refl _)]; rfl }; omega
 | [c],_=>by rw [horP,kc7,kc7]; simp
 | c :: d :: r,h=>by
   have hd:∀ x ∈ d :: r,x.Can:=fun x hx=>h x (List.mem_cons_of_mem _ hx)
   have h1:=yhn ha hb (d :: r) hd;have h2:=Pl.mul_const_nr (qgv (a:=a) (b:=b) _ hd) a;have h3:=Pl.mul_const_nr (h c (by simp)) (b ^ (r.length+1));have h4:=Pl.add_nrL (Pl.mul_can (horP a b (d :: r)) (Pl.const a)) (Pl.mul_can c (Pl.const (b ^ (r.length+1))));have h5:=ugu hb (r.length+1);rw [horP,kc7];simp only [List.length_cons,Nat.add_sub_cancel] at h1 ⊢;have h6:(horP a b (d :: r)).nr * a.natAbs<=kc7 (d :: r) * M ^ r.length * M:=Nat.mul_le_mul h1 ha;have h7:c.nr * (b ^ (r.length+1)).natAbs<=c.nr * M ^ (r.length+1):=Nat.mul_le_mul_left _ h5;rw [Nat.mul_assoc,show M ^ r.length * M=M ^ (r.length+1) from (Nat.pow_succ ..).symm] at h6;rw [Nat.add_mul];omega
mutual
def Pl.atL (l a b : Int) (n : Nat) : Pl -> Pl
 | .mk lv ng ds cs=>if lv < l then (Pl.mk lv ng ds cs).mul (Pl.const (b ^ n)) else if lv=l then (horP a b cs).mul (Pl.const (b ^ (n - (cs.length - 1)))) else xdd lv (zid l a b n cs)
def zid (l a b : Int) (n : Nat) : List Pl -> List Pl
 | []=>[]
 | c :: r=>c.atL l a b n :: zid l a b n r
end
theorem kgv (l a b : Int) (n : Nat) : ∀ cs : List Pl, zid l a b n cs = cs.map (Pl.atL l a b n)
 | []=>rfl
 | c :: r=>by rw [zid,kgv l a b n r]; rfl
theorem Pl.atL_all {l a b : Int} {n : Nat} (hl : 1 <= l) : ∀ p : Pl, p.Can -> (p.atL l a b n).Can /\ (p.atL l a b n).lv <= p.lv
 | .mk lv ng ds cs,h=>by
   have h4:=h.lv_nonneg;simp only [Pl.lv] at h4 ⊢;rw [Pl.atL]
   by_cases h1:lv < l
   · rw [if_pos h1];exact ⟨Pl.mul_can _ _,Pl.mul_lv h (vdf _) (Int.le_refl _) h4.1 h4.2⟩
   · obtain ⟨-,-,h2,hk,-⟩:=h.kids (by omega);rw [if_neg h1]
     by_cases h3:lv=l
     · rw [if_pos h3];refine ⟨Pl.mul_can _ _,Pl.mul_lv (qgv _ fun c hc=>(hk.mem c hc).2) (vdf _) (zh6 h4.1 h4.2 _ fun c hc=>⟨(hk.mem c hc).2,?_⟩) h4.1 h4.2⟩;have:=(hk.mem c hc).1;omega
     · rw [if_neg h3,kgv];have hk2:vc7 lv (cs.map (Pl.atL l a b n)):=xgs fun x hx=>by
        obtain ⟨c,hc,rfl⟩:=List.mem_map.1 hx;have h5:=hk.mem c hc;have h6:=Pl.atL_all (a:=a) (b:=b) (n:=n) hl c h5.2;exact ⟨by omega,h6.1⟩
       have:=xg3 (by omega) h4.2 hk2;exact ⟨this.1,this.2.1⟩
theorem Pl.atL_can {l a b:Int} {n:Nat} (hl:1<=l) {p:Pl} (h:p.Can):(p.atL l a b n).Can:=(Pl.atL_all hl p h).1
theorem Pl.atL_val {l a b : Int} {n : Nat} {ρ : Int -> Rat} (hl : 1 <= l) (hρ : ρ l * (b : Rat) = (a : Rat)) : ∀ p : Pl, p.Can -> p.dgL l <= n -> (p.atL l a b n).val ρ = (b : Rat) ^ n * p.val ρ
 | .mk lv ng ds cs,h,hd=>by
   have h4:=h.lv_nonneg;simp only [Pl.lv] at h4;rw [Pl.atL];rw [Pl.dgL] at hd
   by_cases h1:lv < l
   · rw [if_pos h1,Pl.mul_val,Pl.const_val]
     push_cast
     grind
   · obtain ⟨-,-,h2,hk,-⟩:=h.kids (by omega);rw [if_neg h1] at hd ⊢
     by_cases h3:lv=l
     · rw [if_pos h3] at hd ⊢;subst h3;rw [Pl.mul_val,Pl.const_val,jhx hρ cs (by rintro rfl; simp at h2),Pl.mk_val ρ _ _ _ (by omega) h4.2];have e:(b:Rat) ^ n=(b:Rat) ^ (cs.length - 1) * (b:Rat) ^ (n - (cs.length - 1)):=by
        rw [<- yg7]
        congr 1
        omega
       rw [e]
       push_cast
       grind
     · rw [if_neg h3] at hd ⊢;rw [kgv];have hk2:vc7 lv (cs.map (Pl.atL l a b n)):=xgs fun x hx=>by
        obtain ⟨c,hc,rfl⟩:=List.mem_map.1 hx;have h5:=hk.mem c hc;have h6:=Pl.atL_all (a:=a) (b:=b) (n:=n) hl c h5.2;exact ⟨by omega,h6.1⟩
       rw [(xg3 (by omega) h4.2 hk2).2.2 ρ,Pl.mk_val ρ _ _ _ (by omega) h4.2];rw [zhp ρ lv (Pl.atL l a b n) ((b:Rat) ^ n) cs fun c hc=>by
        rw [Pl.atL_val hl hρ c (hk.mem c hc).2 (Int.le_trans (ugv l cs 0 c hc) hd)]
        grind]
       grind
theorem xin {l:Int} {cs:List Pl} {E:Nat} (h:∀ c ∈ cs,c.ex E) (hl:cs.length<=E+1):(xdd l cs).ex E:=by
 have hm:∀ c ∈ zc7 cs,c.ex E:=fun c hc=>h c (yhi hc)
 have hs:(zc7 cs).length<=E+1:=by
  have:∀ cs:List Pl,(zc7 cs).length<=cs.length:=fun cs=>by
   induction cs with
   | nil=>exact Nat.le_refl _
   | cons c r ih =>
     rw [zc7]
     split
     · exact Nat.zero_le _
     · simpa using ih
  exact Nat.le_trans (this cs) hl
 unfold xdd
 split
 · exact (Fit.zero (D:=0)).ex
 · rename_i c e;exact hm c (by rw [e]; simp)
 · rename_i c d r e;rw [Pl.ex];rw [e] at hs hm;exact .inr ⟨hs,jhm hm⟩
theorem xho : ∀ cs : List Pl, kc7 (zc7 cs) <= kc7 cs
 | []=>Nat.le_refl _
 | c :: r=>by
   have:=xho r;rw [zc7]
   split
   · rw [kc7]; omega
   · rw [kc7,kc7]; omega
theorem yin {l:Int} {cs:List Pl} (hl:0 < l):(xdd l cs).nr<=kc7 cs:=by
 have h:=xho cs;unfold xdd
 split
 · have:Pl.zero.nr=0:=by { unfold Pl.zero; rw [Pl.nr,if_pos (Int.le_refl _)]; rfl }
   omega
 · rename_i c e;rw [e,kc7,kc7] at h;omega
 · rename_i c d r e;rw [e] at h;rw [Pl.nr,if_neg (by omega)];exact h
theorem Pl.atL_ex {l a b : Int} {n E : Nat} (hl : 1 <= l) : ∀ p : Pl, p.Can -> p.ex E -> (p.atL l a b n).ex E
 | .mk lv ng ds cs,h,he=>by
   rw [Pl.atL]
   by_cases h1:lv < l
   · rw [if_pos h1];exact Pl.mul_const_ex h he _
   · obtain ⟨-,-,h2,hk,-⟩:=h.kids (by omega);rw [Pl.ex] at he;obtain ⟨he1,he2⟩:=he.resolve_left (by omega);have hx:∀ c ∈ cs,c.Can/\c.ex E:=fun c hc=>⟨(hk.mem c hc).2,xg2 he2 c hc⟩
     rw [if_neg h1]
     by_cases h3:lv=l
     · rw [if_pos h3];exact Pl.mul_const_ex (qgv _ fun c hc=>(hx c hc).1) (xhn _ hx) _
     · rw [if_neg h3,kgv];refine xin (fun x hx'=>?_) (by simpa using he1);obtain ⟨c,hc,rfl⟩:=List.mem_map.1 hx';exact Pl.atL_ex hl c (hx c hc).1 (hx c hc).2
theorem ghe {f : Pl -> Pl} {K : Nat} : ∀ cs : List Pl, (∀ c ∈ cs, (f c).nr <= c.nr * K) -> kc7 (cs.map f) <= kc7 cs * K
 | [],_=>by simp [kc7]
 | c :: r,h=>by
   have h1:=ghe (f:=f) (K:=K) r fun x hx=>h x (by simp [hx])
   have h2:=h c (by simp);rw [List.map_cons,kc7,kc7,Nat.add_mul];omega
theorem Pl.atL_nr {l a b : Int} {n M : Nat} (hl : 1 <= l) (ha : a.natAbs <= M) (hb : b.natAbs <= M) : ∀ p : Pl, p.Can -> p.dgL l <= n -> (p.atL l a b n).nr <= p.nr * M ^ n
 | .mk lv ng ds cs,h,hd=>by
   rw [Pl.atL];rw [Pl.dgL] at hd
   by_cases h1:lv < l
   · rw [if_pos h1];exact Nat.le_trans (Pl.mul_const_nr h _) (Nat.mul_le_mul_left _ (ugu hb n))
   · obtain ⟨-,-,h2,hk,-⟩:=h.kids (by omega);rw [if_neg h1] at hd ⊢;rw [show (Pl.mk lv ng ds cs).nr=kc7 cs by rw [Pl.nr,if_neg (by omega)]]
     by_cases h3:lv=l
     · rw [if_pos h3] at hd ⊢;have e:M ^ n=M ^ (cs.length - 1) * M ^ (n - (cs.length - 1)):=by
        rw [<- Nat.pow_add]
        congr 1
        omega
       rw [e,<- Nat.mul_assoc];exact Nat.le_trans (Pl.mul_const_nr (qgv _ fun c hc=>(hk.mem c hc).2) _) (Nat.mul_le_mul (yhn ha hb cs fun c hc=>(hk.mem c hc).2) (ugu hb _))
     · rw [if_neg h3] at hd ⊢;rw [kgv];refine Nat.le_trans (yin (by omega)) (ghe cs fun c hc=>?_);exact Pl.atL_nr hl ha hb c (hk.mem c hc).2 (Int.le_trans (ugv l cs 0 c hc) hd)
theorem ug4 {A:Nat} (n:Nat):(B32 ^ A) ^ n=B32 ^ (A * n):=(Nat.pow_mul ..).symm
theorem Fit.atL {p:Pl} {E D A:Nat} (h:Fit p E D) {l a b:Int} {n:Nat} (hl:1<=l) (ha:a.natAbs < B32 ^ A) (hb:b.natAbs < B32 ^ A) (hn:p.dgL l<=n):Fit (p.atL l a b n) E (D+A * n):=by
 refine ⟨Pl.atL_can hl h.can,Pl.atL_ex hl p h.can h.ex,?_⟩;have h1:=Pl.atL_nr (n:=n) hl (Nat.le_of_lt ha) (Nat.le_of_lt hb) p h.can hn;rw [ug4] at h1;rw [Nat.pow_add];exact Nat.lt_of_le_of_lt h1 (Nat.mul_lt_mul_of_pos_right h.nr (Nat.pow_pos (by decide)))
theorem Fit.horP {cs:List Pl} {E D A:Nat} (h:∀ c ∈ cs,c.Can/\c.ex E) (hn:kc7 cs < B32 ^ D) {a b:Int} (ha:a.natAbs < B32 ^ A) (hb:b.natAbs < B32 ^ A):Fit (horP a b cs) E (D+A * (cs.length - 1)):=by
 refine ⟨qgv _ fun c hc=>(h c hc).1,xhn _ h,?_⟩;have h1:=yhn (Nat.le_of_lt ha) (Nat.le_of_lt hb) cs fun c hc=>(h c hc).1
 rw [ug4] at h1;rw [Nat.pow_add];exact Nat.lt_of_le_of_lt h1 (Nat.mul_lt_mul_of_pos_right hn (Nat.pow_pos (by decide)))
def Pl.atQ (l a b:Int) (p:Pl):Pl:=p.atL l a b (p.dgL l).toNat
theorem Pl.atQ_can {l a b:Int} (hl:1<=l) {p:Pl} (h:p.Can):(p.atQ l a b).Can:=Pl.atL_can hl h
theorem Pl.atQ_val {l a b:Int} {ρ:Int->Rat} (hl:1<=l) (hρ:ρ l * (b:Rat)=(a:Rat)) {p:Pl} (h:p.Can):(p.atQ l a b).val ρ=(b:Rat) ^ (p.dgL l).toNat * p.val ρ:=
 Pl.atL_val hl hρ p h (Int.self_le_toNat _)
theorem Fit.atQ {p:Pl} {E D A:Nat} (h:Fit p E D) {l a b:Int} (hl:1<=l) (ha:a.natAbs < B32 ^ A) (hb:b.natAbs < B32 ^ A):Fit (p.atQ l a b) E (D+A * E):=
 (h.atL hl ha hb (Int.self_le_toNat _)).mono (Nat.le_refl _) (Nat.add_le_add_left (Nat.mul_le_mul_left _ (by have:=Pl.dgL_bd hl p h.can h.ex; omega)) _)
end Go.Proofs.YtopddaabiinboaaGreat

/- Plain: the coefficients of a polynomial in one variable, as mainvar takes them. -/
namespace Go.Proofs.YtopddaabiinboaaGreat
def hsum (x : Rat) : List Rat -> Rat
 | []=>0
 | a :: r=>a+x * hsum x r
theorem jgt (ρ : Int -> Rat) (l : Int) : ∀ cs : List Pl, zc3 ρ l cs = hsum (ρ l) (cs.map (Pl.val ρ))
 | []=>rfl
 | c :: r=>by rw [zc3,List.map_cons,hsum,jgt ρ l r]
theorem ug3 {x : Rat} : ∀ {L : List Rat}, (∀ a ∈ L, a = 0) -> hsum x L = 0
 | [],_=>rfl
 | a :: r,h=>by rw [hsum,h a (by simp),ug3 fun b hb=>h b (by simp [hb])]; grind
theorem qhh {x c : Rat} : ∀ (m : Nat) (f g : Nat -> Rat), hsum x ((List.range m).map fun i => f i + c * g i) = hsum x ((List.range m).map f) + c * hsum x ((List.range m).map g)
 | 0,f,g=>by simp only [List.range_zero,List.map_nil,hsum]; grind
 | m+1,f,g=>by
   have h:=qhh (x:=x) (c:=c) m (fun i=>f (i+1)) (fun i=>g (i+1));rw [List.range_succ_eq_map];simp only [List.map_cons,List.map_map,Function.comp_def,hsum,Nat.succ_eq_add_one];rw [h]
   grind
theorem zg6 {α : Type} (d : α) : ∀ L : List α, (List.range L.length).map (fun i => L.getD i d) = L
 | []=>rfl
 | a :: r=>by
   rw [List.length_cons,List.range_succ_eq_map,List.map_cons,List.map_map];have h:=zg6 d r;simp only [Function.comp_def,Nat.succ_eq_add_one,List.getD_cons_succ,List.getD_cons_zero];rw [h]
def wt2 : Nat -> List Rat -> List Rat
 | _,[]=>[]
 | e,a :: r=>a * (2 ^ e - 1) :: wt2 (e+1) r
theorem wh4 : ∀ (e : Nat) (L : List Rat), (wt2 e L).length = L.length
 | _,[]=>rfl
 | e,a :: r=>by rw [wt2,List.length_cons,List.length_cons,wh4 (e+1) r]
theorem gh4 (x : Rat) : ∀ (e : Nat) (L : List Rat), hsum x (wt2 e L) = 2 ^ e * hsum (2 * x) L - hsum x L
 | e,[]=>by simp only [wt2,hsum]; grind
 | e,a :: r=>by
   rw [wt2,hsum,hsum,hsum,gh4 x (e+1) r,Rat.pow_succ]
   grind
theorem xh7:∀ e:Nat,1<=e->(2:Rat) ^ e - 1 ≠ 0:=fun e he h=>by
 have h1:((2:Nat):Rat) ^ e=((2 ^ e:Nat):Rat):=by push_cast; rfl
 have h2:((2 ^ e:Nat):Rat)=((1:Nat):Rat):=by rw [<- h1]; push_cast; grind
 have h3:2 ^ e=1:=by exact_mod_cast h2
 have h4:2 ^ 1<=2 ^ e:=Nat.pow_le_pow_right (by decide) he;omega
theorem uhr : ∀ (e : Nat), 1 <= e -> ∀ L : List Rat, (∀ a ∈ wt2 e L, a = 0) -> ∀ a ∈ L, a = 0
 | _,_,[],_,a,ha=>by cases ha
 | e,he,b :: r,h,a,ha=>by
   rw [wt2] at h;rcases List.mem_cons.1 ha with rfl | ha
   · have h1:=h (a * (2 ^ e - 1)) (by simp);rcases Rat.mul_eq_zero.1 h1 with h2 | h2
     · exact h2
     · exact absurd h2 (xh7 e he)
   · exact uhr (e+1) (by omega) r (fun c hc=>h c (by simp [hc])) a ha
theorem wis (n:Nat):∀ L:List Rat,L.length<=n->(∀ x,x ≠ 0->hsum x L=0)->∀ a ∈ L,a=0:=by
 induction n with
 | zero =>
   intro L hl _ a ha;cases L with
   | nil=>cases ha
   | cons b r=>simp at hl
 | succ n ih =>
   intro L hl h;cases L with
   | nil=>intro a ha; cases ha
   | cons b r =>
     have hr:∀ a ∈ r,a=0:=by
      refine uhr 1 (Nat.le_refl _) r (ih _ (by rw [wh4]; simp only [List.length_cons] at hl; omega) fun x hx=>?_);have h1:=h x hx;have h2:=h (2 * x) (fun e=>by rcases Rat.mul_eq_zero.1 e with e | e; exact absurd e (by decide); exact hx e);have h3:=gh4 x 0 (b :: r);rw [h1,h2,wt2,hsum] at h3;have h4:x * hsum x (wt2 1 r)=0:=by
       have:(b * ((2:Rat) ^ 0 - 1))=0:=by rw [Rat.pow_zero]; grind
       rw [this] at h3
       grind
      rcases Rat.mul_eq_zero.1 h4 with h5 | h5
      · exact absurd h5 hx
      · exact h5
     intro a ha;rcases List.mem_cons.1 ha with rfl | ha
     · have h1:=h 1 (by decide);rw [hsum,ug3 hr] at h1
       grind
     · exact hr a ha
def qdg : Nat -> List Pl -> List Pl
 | 0,[]=>[Pl.zero]
 | 0,c :: _=>[c]
 | n+1,[]=>Pl.zero :: qdg n []
 | n+1,c :: r=>c :: qdg n r
theorem wg7 : ∀ (n : Nat) (cs : List Pl), (qdg n cs).length = n + 1
 | 0,[]=>rfl
 | 0,_ :: _=>rfl
 | n+1,[]=>by rw [qdg,List.length_cons,wg7 n]
 | n+1,_ :: r=>by rw [qdg,List.length_cons,wg7 n]
theorem zhh : ∀ (n : Nat) (cs : List Pl) (i : Nat), i <= n -> (qdg n cs).getD i Pl.zero = cs.getD i Pl.zero
 | 0,[],0,_=>rfl
 | 0,_ :: _,0,_=>rfl
 | n+1,[],0,_=>rfl
 | n+1,[],i+1,h=>by rw [qdg,List.getD_cons_succ,zhh n [] i (by omega)]; rfl
 | n+1,_ :: _,0,_=>rfl
 | n+1,_ :: r,i+1,h=>by rw [qdg,List.getD_cons_succ,List.getD_cons_succ,zhh n r i (by omega)]
theorem qgs : ∀ (n : Nat) (cs : List Pl) (c : Pl), c ∈ qdg n cs -> c = Pl.zero \/ c ∈ cs
 | 0,[],c,h=>by simp [qdg] at h; exact .inl h
 | 0,d :: _,c,h=>by simp [qdg] at h; exact .inr (by simp [h])
 | n+1,[],c,h=>by
   rw [qdg] at h;rcases List.mem_cons.1 h with h | h
   · exact .inl h
   · exact qgs n [] c h
 | n+1,d :: r,c,h=>by
   rw [qdg] at h;rcases List.mem_cons.1 h with h | h
   · exact .inr (by simp [h])
   · rcases qgs n r c h with h | h
     · exact .inl h
     · exact .inr (by simp [h])
theorem gg7 (ρ : Int -> Rat) (l : Int) : ∀ (n : Nat) (cs : List Pl), cs.length <= n + 1 -> zc3 ρ l (qdg n cs) = zc3 ρ l cs
 | 0,[],_=>by simp only [qdg,zc3,Pl.zero_val]; grind
 | 0,[c],_=>rfl
 | n+1,[],_=>by
   have h:=gg7 ρ l n [] (by simp);simp only [qdg,zc3] at h ⊢;rw [h,Pl.zero_val]
   grind
 | n+1,c :: r,h=>by rw [qdg,zc3,zc3,gg7 ρ l n r (by simpa using h)]
mutual
def Pl.cfs (l : Int) (n : Nat) : Pl -> List Pl
 | .mk lv ng ds cs=>if lv < l then qdg n [.mk lv ng ds cs] else if lv=l then qdg n cs else (List.range (n+1)).map fun i=>.mk lv false [] (gdj l n i cs)
def gdj (l : Int) (n i : Nat) : List Pl -> List Pl
 | []=>[]
 | c :: r=>(c.cfs l n).getD i Pl.zero :: gdj l n i r
end
theorem zg4 (l : Int) (n i : Nat) : ∀ cs : List Pl, gdj l n i cs = cs.map fun c => (c.cfs l n).getD i Pl.zero
 | []=>rfl
 | c :: r=>by rw [gdj,zg4 l n i r]; rfl
theorem Pl.cfs_len (l:Int) (n:Nat) (p:Pl):(p.cfs l n).length=n+1:=by
 cases p;rw [Pl.cfs]
 split
 · exact wg7 _ _
 · split
   · exact wg7 _ _
   · simp
theorem whq {α:Type} (f:Nat->α) (d:α) {n i:Nat} (h:i < n):((List.range n).map f).getD i d=f i:=by
 rw [List.getD_eq_getElem?_getD,List.getElem?_map,List.getElem?_range h]; rfl
theorem Pl.cfs_get (l:Int) (n:Nat) (lv:Int) (ng:Bool) (ds:List Nat) (cs:List Pl) (h:l < lv) {i:Nat} (hi:i<=n):((Pl.mk lv ng ds cs).cfs l n).getD i Pl.zero=.mk lv false [] (gdj l n i cs):=by
 rw [Pl.cfs,if_neg (by omega),if_neg (by omega)];exact whq _ _ (by omega)
theorem xhq {ρ : Int -> Rat} {l lv : Int} {n : Nat} : ∀ cs : List Pl, (∀ c ∈ cs, zc3 ρ l (c.cfs l n) = c.val ρ) -> hsum (ρ l) ((List.range (n + 1)).map fun i => zc3 ρ lv (gdj l n i cs)) = zc3 ρ lv cs
 | [],_=>by
   simp only [gdj,zc3];exact ug3 (by intro a ha; obtain ⟨_,_,rfl⟩:=List.mem_map.1 ha; rfl)
 | c :: r,h=>by
   have h1:∀ i,zc3 ρ lv (gdj l n i (c :: r))=((c.cfs l n).getD i Pl.zero).val ρ+ρ lv * zc3 ρ lv (gdj l n i r):=fun i=>by rw [gdj,zc3]
   simp only [h1];rw [qhh (n+1) (fun i=>((c.cfs l n).getD i Pl.zero).val ρ) (fun i=>zc3 ρ lv (gdj l n i r)),xhq r fun d hd=>h d (by simp [hd]),zc3]
   congr 1
   rw [<- h c (by simp),jgt]
   congr 1
   have h2:=zg6 Pl.zero (c.cfs l n);rw [c.cfs_len] at h2
   conv=>rhs; rw [<- h2,List.map_map]
   rfl
theorem Pl.cfs_val {ρ : Int -> Rat} {l : Int} {n : Nat} (hl : 1 <= l) : ∀ p : Pl, p.Can -> p.dgL l <= n -> zc3 ρ l (p.cfs l n) = p.val ρ
 | .mk lv ng ds cs,h,hd=>by
   have h4:=h.lv_nonneg;simp only [Pl.lv] at h4;rw [Pl.dgL] at hd;rw [Pl.cfs]
   by_cases h1:lv < l
   · rw [if_pos h1,gg7 ρ l n _ (by simp),zc3,zc3]; grind
   · obtain ⟨-,-,h2,hk,-⟩:=h.kids (by omega);rw [if_neg h1] at hd ⊢;rw [Pl.mk_val ρ _ _ _ (by omega) h4.2]
     by_cases h3:lv=l
     · rw [if_pos h3] at hd ⊢;rw [gg7 ρ l n cs (by omega),h3]
     · rw [if_neg h3] at hd ⊢;rw [jgt,List.map_map];have h5:((List.range (n+1)).map (Pl.val ρ ∘ fun i=>Pl.mk lv false [] (gdj l n i cs)))=(List.range (n+1)).map fun i=>zc3 ρ lv (gdj l n i cs):=by
        refine List.map_congr_left fun i _=>?_
        exact Pl.mk_val ρ _ _ _ (by omega) h4.2
       rw [h5];exact xhq cs fun c hc=>Pl.cfs_val hl c (hk.mem c hc).2 (Int.le_trans (ugv l cs 0 c hc) hd)
def vdb (l:Int) (p:Pl):Prop:=∀ ρ ρ':Int->Rat,(∀ j,j ≠ l->ρ j=ρ' j)->p.val ρ=p.val ρ'
theorem kgu {ρ ρ' : Int -> Rat} {l : Int} (hl : ρ l = ρ' l) : ∀ cs : List Pl, (∀ c ∈ cs, c.val ρ = c.val ρ') -> zc3 ρ l cs = zc3 ρ' l cs
 | [],_=>rfl
 | c :: r,h=>by rw [zc3,zc3,h c (by simp),hl,kgu hl r fun d hd=>h d (by simp [hd])]
theorem Pl.val_low {ρ ρ' : Int -> Rat} : ∀ p : Pl, p.Can -> (∀ j, j <= p.lv -> ρ j = ρ' j) -> p.val ρ = p.val ρ'
 | .mk lv ng ds cs,h,he=>by
   simp only [Pl.lv] at he;have h4:=h.lv_nonneg;simp only [Pl.lv] at h4
   by_cases h0:lv<=0
   · rw [Pl.val,Pl.val,if_pos h0,if_pos h0]
   · obtain ⟨-,-,h2,hk,-⟩:=h.kids (by omega);rw [Pl.mk_val ρ _ _ _ (by omega) h4.2,Pl.mk_val ρ' _ _ _ (by omega) h4.2];exact kgu (he lv (Int.le_refl _)) cs fun c hc=>Pl.val_low c (hk.mem c hc).2 fun j hj=>he j (by have:=(hk.mem c hc).1; omega)
theorem ygw {l:Int} {p:Pl} (h:p.Can) (hl:p.lv < l):vdb l p:=fun ρ ρ' he=>p.val_low h fun j hj=>he j (by omega)
theorem jg8 (l:Int):vdb l Pl.zero:=fun ρ ρ' _=>by rw [Pl.zero_val,Pl.zero_val]
theorem Pl.cfs_indep {l : Int} {n : Nat} (hl : 1 <= l) : ∀ p : Pl, p.Can -> ∀ c ∈ p.cfs l n, vdb l c
 | .mk lv ng ds cs,h,c,hc=>by
   have h4:=h.lv_nonneg;simp only [Pl.lv] at h4;rw [Pl.cfs] at hc
   by_cases h1:lv < l
   · rw [if_pos h1] at hc;rcases qgs _ _ _ hc with rfl | hc
     · exact jg8 l
     · rw [List.mem_singleton.1 hc];exact ygw h h1
   · obtain ⟨-,-,h2,hk,-⟩:=h.kids (by omega);rw [if_neg h1] at hc
     by_cases h3:lv=l
     · rw [if_pos h3] at hc;rcases qgs _ _ _ hc with rfl | hc
       · exact jg8 l
       · exact ygw (hk.mem c hc).2 (by have:=(hk.mem c hc).1; omega)
     · rw [if_neg h3] at hc;obtain ⟨i,hi,rfl⟩:=List.mem_map.1 hc;rw [zg4];intro ρ ρ' he;rw [Pl.mk_val ρ _ _ _ (by omega) h4.2,Pl.mk_val ρ' _ _ _ (by omega) h4.2];refine kgu (he lv h3) _ fun d hd=>?_
       obtain ⟨c,hc,rfl⟩:=List.mem_map.1 hd;have hlen:=c.cfs_len l n;have hi':=List.mem_range.1 hi;rw [List.getD_eq_getElem?_getD,List.getElem?_eq_getElem (by omega)];exact Pl.cfs_indep hl c (hk.mem c hc).2 _ (List.getElem_mem _) ρ ρ' he
theorem vdb.nf {l:Int} {p:Pl} (h:vdb l p):vdb l p.nf:=fun ρ ρ' he=>by rw [Pl.nf_val,Pl.nf_val]; exact h ρ ρ' he
theorem kh5 (x : Rat) (ρ : Int -> Rat) : ∀ (c : List Pl) (n : Nat), c.length <= n -> hsum x ((List.range n).map fun i => (c.getD i Pl.zero).val ρ) = hsum x (c.map (Pl.val ρ))
 | [],n,_=>by
   rw [ug3]
   · rfl
   · intro a ha;obtain ⟨i,-,rfl⟩:=List.mem_map.1 ha;rw [List.getD_nil,Pl.zero_val]
 | d :: r,0,h=>by simp at h
 | d :: r,n+1,h=>by
   rw [List.range_succ_eq_map,List.map_cons,List.map_map,hsum,List.map_cons,hsum,List.getD_cons_zero]
   congr 2
   have:=kh5 x ρ r n (by simpa using h);simpa [Function.comp_def] using this
theorem yhq {l:Int} {a b:List Pl} (ha:∀ c ∈ a,vdb l c) (hb:∀ c ∈ b,vdb l c) (h:∀ ρ,zc3 ρ l a=zc3 ρ l b) (i:Nat) (ρ:Int->Rat):(a.getD i Pl.zero).val ρ=(b.getD i Pl.zero).val ρ:=by
 obtain ⟨n,hn⟩:=n_m (max a.length b.length);have pad:∀ (c:List Pl),c.length<=n->(∀ x ∈ c,vdb l x)->∀ x:Rat,hsum x ((List.range n).map fun i=>(c.getD i Pl.zero).val ρ)=zc3 (fun j=>if j=l then x else ρ j) l c:=by
  intro c hc hi x;rw [jgt];have e1:c.map (Pl.val fun j=>if j=l then x else ρ j)=c.map (Pl.val ρ):=List.map_congr_left fun d hd=>hi d hd _ _ fun j hj=>by rw [if_neg hj]
  rw [e1,if_pos rfl];exact kh5 x ρ c n hc
 have hz:=wis n ((List.range n).map fun i=>(a.getD i Pl.zero).val ρ+(-1) * (b.getD i Pl.zero).val ρ) (by simp) (fun x _=>by
  rw [qhh n (fun i=>(a.getD i Pl.zero).val ρ) (fun i=>(b.getD i Pl.zero).val ρ),pad a (by omega) ha,pad b (by omega) hb,h]
  grind)
 by_cases hi:i < n
 · have:=hz _ (List.mem_map.2 ⟨i,List.mem_range.2 hi,rfl⟩)
   grind
 · rw [List.getD_eq_getElem?_getD,List.getD_eq_getElem?_getD,List.getElem?_eq_none (by omega),List.getElem?_eq_none (by omega)]
structure gg1 (l : Int) (p : Pl) (L : List Pl) : Prop where
 can:∀ c ∈ L,c.Can
 ind:∀ c ∈ L,vdb l c
 val:∀ ρ,zc3 ρ l L=p.val ρ
 last:L.getLast? ≠ some Pl.zero
theorem vg8 {L:List Pl} (h:L.getLast? ≠ some Pl.zero) (hn:L ≠ []):L.getD (L.length - 1) Pl.zero ≠ Pl.zero:=by
 intro e;apply h;have hl:L.length - 1 < L.length:=by have:=List.length_pos_iff.2 hn; omega
 rw [List.getLast?_eq_getElem?,List.getElem?_eq_getElem hl];rw [List.getD_eq_getElem?_getD,List.getElem?_eq_getElem hl] at e;exact congrArg some e
theorem gg1.uniq {l:Int} {p:Pl} {a b:List Pl} (ha:gg1 l p a) (hb:gg1 l p b):a=b:=by
 have hc:∀ i,a.getD i Pl.zero=b.getD i Pl.zero:=fun i=>by
  refine Pl.val_uniq ?_ ?_ fun ρ=>yhq ha.ind hb.ind (fun ρ=>by rw [ha.val,hb.val]) i ρ
  · rw [List.getD_eq_getElem?_getD]
    by_cases hi:i < a.length
    · rw [List.getElem?_eq_getElem hi]; exact ha.can _ (List.getElem_mem hi)
    · rw [List.getElem?_eq_none (by omega)]; exact Pl.zero_can
  · rw [List.getD_eq_getElem?_getD]
    by_cases hi:i < b.length
    · rw [List.getElem?_eq_getElem hi]; exact hb.can _ (List.getElem_mem hi)
    · rw [List.getElem?_eq_none (by omega)]; exact Pl.zero_can
 have hlen:∀ {a b:List Pl},a.getLast? ≠ some Pl.zero->(∀ i,a.getD i Pl.zero=b.getD i Pl.zero)->a.length<=b.length:=by
  intro a b h1 h2
  by_cases hn:a=[]
  · rw [hn]; simp
  · have h3:=vg8 h1 hn
    by_cases h4:a.length<=b.length
    · exact h4
    · exfalso
      apply h3;rw [h2,List.getD_eq_getElem?_getD,List.getElem?_eq_none (by omega)]
      rfl
 have e:a.length=b.length:=Nat.le_antisymm (hlen ha.last hc) (hlen hb.last fun i=>(hc i).symm);refine List.ext_getElem e fun i h1 h2=>?_
 have:=hc i;rw [List.getD_eq_getElem?_getD,List.getD_eq_getElem?_getD,List.getElem?_eq_getElem h1,List.getElem?_eq_getElem h2] at this;exact this
def Pl.cfL (l:Int) (p:Pl):List Pl:=if p.isZ=true then [] else if 1<=l/\l<=4 then (p.cfs l (p.dgL l).toNat).map Pl.nf else [p]
theorem jhv (ρ:Int->Rat) (l:Int) (cs:List Pl):zc3 ρ l (cs.map Pl.nf)=zc3 ρ l cs:=by
 rw [jgt,jgt,List.map_map]
 congr 1
 exact List.map_congr_left fun c _=>Pl.nf_val ρ c
theorem xih {l:Int} (hl:0 < l) (h4:l<=4) {ks:List Pl} (hk:∀ c ∈ ks,c.Can/\c.lv < l) (h:∀ ρ,zc3 ρ l ks=0):∀ c ∈ ks,c=Pl.zero:=by
 intro c hc;obtain ⟨i,hi,rfl⟩:=List.getElem_of_mem hc;refine Pl.val_uniq (hk _ hc).1 Pl.zero_can fun ρ=>?_
 have:=yhq (l:=l) (a:=ks) (b:=[]) (fun c hc=>ygw (hk c hc).1 (hk c hc).2) (fun c hc=>by cases hc) (fun ρ=>by rw [h]; rfl) i ρ;rw [List.getD_eq_getElem?_getD,List.getElem?_eq_getElem hi,List.getD_nil] at this;exact this
end Go.Proofs.YtopddaabiinboaaGreat
