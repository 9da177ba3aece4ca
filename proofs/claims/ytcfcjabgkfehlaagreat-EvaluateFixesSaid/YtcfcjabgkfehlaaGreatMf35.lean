/- Layer 38: matrices as values. -/
import Derived.Test.YtcfcjabgkfehlaaGreatMf33
import Derived.Test.YtcfcjabgkfehlaaGreatMf34
import Derived.Test.YtcfcjabgkfehlaaGreatDeg
set_option linter.unusedSimpArgs false
set_option linter.unusedVariables false

namespace Go.Proofs.YtcfcjabgkfehlaaGreat
open Go.RowKit
inductive Mx where
 | mk (kind rel:Int) (p:Pl) (ks:List Mx)
def Mx.kind : Mx -> Int
 | .mk k _ _ _=>k
def Mx.rel : Mx -> Int
 | .mk _ r _ _=>r
def Mx.p : Mx -> Pl
 | .mk _ _ p _=>p
def Mx.ks : Mx -> List Mx
 | .mk _ _ _ ks=>ks
def mxV (m:Mx) (s A K:Value):Value:=.agg #[.int .i64 m.kind,.int .i64 m.rel,.int .i64 m.p.lv,.bool m.p.neg,s,A,K]
def xar (w:World) (ad:Addr) (m:Mx) (s A K:Value):Prop:=
 w.cell? ad=some (.int .i64 m.kind)/\w.cell? ⟨ad.block,ad.off+1,none⟩=some (.int .i64 m.rel)/\w.cell? ⟨ad.block,ad.off+2,none⟩=some (.int .i64 m.p.lv)/\w.cell? ⟨ad.block,ad.off+3,none⟩=some (.bool m.p.neg)/\w.cell? ⟨ad.block,ad.off+4,none⟩=some s/\w.cell? ⟨ad.block,ad.off+5,none⟩=some A/\w.cell? ⟨ad.block,ad.off+6,none⟩=some K
mutual
def MxV (w : World) (q : Nat -> Prop) : Mx -> Value -> Prop
 | .mk k r p ks,v=>∃ s A K c,v=.agg #[.int .i64 k,.int .i64 r,.int .i64 p.lv,.bool p.neg,s,A,.slice K ks.length c]/\PlV w q p (plV p s A)/\ks.length<=c/\c<=9223372036854775807/\zi w q ks K 0
def zi (w : World) (q : Nat -> Prop) : List Mx -> Option Addr -> Nat -> Prop
 | [],_,_=>True
 | t :: r,A,j=>(∃ ad s B K,A=some ad/\ad.block < w.heap.size/\q ad.block/\xar w (ad.add (j * 7)) t s B K/\MxV w q t (mxV t s B K))/\zi w q r A (j+1)
end
section
variable {w w':World} {p q:Nat->Prop}
theorem zi.get_ (l:List Mx):∀ (A:Option Addr) (j:Nat),zi w p l A j->∀ i (h:i < l.length),∃ ad s B K,A=some ad/\ad.block < w.heap.size/\p ad.block/\xar w (ad.add ((j+i) * 7)) l[i] s B K/\MxV w p l[i] (mxV l[i] s B K):=by
 induction l with
 | nil=>intro A j h i hi; simp at hi
 | cons t r ih =>
   intro A j h i hi;unfold zi at h;cases i with
   | zero=>exact h.1
   | succ i =>
     have:=ih A (j+1) h.2 i (by simpa using hi);rw [show j+(i+1)=j+1+i by omega];exact this
theorem zi.of (l:List Mx):∀ (A:Option Addr) (j:Nat),(∀ i (h:i < l.length),∃ ad s B K,A=some ad/\ad.block < w.heap.size/\p ad.block/\xar w (ad.add ((j+i) * 7)) l[i] s B K/\MxV w p l[i] (mxV l[i] s B K))->zi w p l A j:=by
 induction l with
 | nil=>intro A j h; unfold zi; trivial
 | cons t r ih =>
   intro A j h;unfold zi;refine ⟨h 0 (by simp),ih A (j+1) fun i hi=>?_⟩;have:=h (i+1) (by simpa using hi);rw [show j+(i+1)=j+1+i by omega] at this;exact this
theorem xar.same {ad:Addr} {t:Mx} {s A K:Value} (h:xar w ad t s A K) (k0:w'.cell? ad=w.cell? ad) (k:∀ n,n < 7->w'.cell? ⟨ad.block,ad.off+n,none⟩=w.cell? ⟨ad.block,ad.off+n,none⟩):xar w' ad t s A K:=by
 obtain ⟨h0,h1,h2,h3,h4,h5,h6⟩:=h;exact ⟨k0.trans h0,(k 1 (by omega)).trans h1,(k 2 (by omega)).trans h2,(k 3 (by omega)).trans h3,(k 4 (by omega)).trans h4,(k 5 (by omega)).trans h5,(k 6 (by omega)).trans h6⟩
theorem xar.ext {ad:Addr} {t:Mx} {s A K:Value} (h:xar w ad t s A K) (hx:Ext w w') (hb:ad.block < w.heap.size):xar w' ad t s A K:=h.same (hx.cell hb) (fun n _=>hx.cell (p:=⟨ad.block,ad.off+n,none⟩) hb)
mutual
theorem MxV.turn (hs : w.heap.size <= w'.heap.size) (hn : ∀ v ds, jb w v ds -> jb w' v ds) (hc : ∀ b, b < w.heap.size -> p b -> q b /\ w'.heap[b]? = w.heap[b]?) : ∀ (t : Mx) (v : Value), MxV w p t v -> MxV w' q t v
 | .mk k r pl ks,v,h=>by
   unfold MxV at h ⊢;obtain ⟨s,A,K,c,e,h1,h2,h3,h4⟩:=h;exact ⟨s,A,K,c,e,PlV.turn_ hs hn hc h1,h2,h3,zi.turn hs hn hc ks K 0 h4⟩
theorem zi.turn (hs : w.heap.size <= w'.heap.size) (hn : ∀ v ds, jb w v ds -> jb w' v ds) (hc : ∀ b, b < w.heap.size -> p b -> q b /\ w'.heap[b]? = w.heap[b]?) : ∀ (l : List Mx) (A : Option Addr) (j : Nat), zi w p l A j -> zi w' q l A j
 | [],A,j,h=>by unfold zi; trivial
 | t :: r,A,j,h=>by
   unfold zi at h ⊢;obtain ⟨⟨ad,s,B,K,e,hb,hpb,h1,h2⟩,h3⟩:=h;obtain ⟨hq,hk⟩:=hc _ hb hpb;exact ⟨⟨ad,s,B,K,e,Nat.lt_of_lt_of_le hb hs,hq,h1.same (World.cell?_of_block (by rw [ja]; exact hk)) (fun n _=>World.cell?_of_block (a:=⟨(ad.add (j * 7)).block,(ad.add (j * 7)).off+n,none⟩) (by show w'.heap[(ad.add (j * 7)).block]?=_; rw [ja]; exact hk)),MxV.turn hs hn hc t _ h2⟩,zi.turn hs hn hc r A (j+1) h3⟩
end
theorem MxV.turn_ {t:Mx} {v:Value} (hs:w.heap.size<=w'.heap.size) (hn:∀ v ds,jb w v ds->jb w' v ds) (hc:∀ b,b < w.heap.size->p b->q b/\w'.heap[b]?=w.heap[b]?) (h:MxV w p t v):MxV w' q t v:=MxV.turn hs hn hc t v h
theorem MxV.ext {t:Mx} {v:Value} (h:MxV w p t v) (hx:Ext w w'):MxV w' p t v:=MxV.turn hx.size (fun _ _ h=>h.ext hx) (fun b hb hp=>⟨hp,hx.below.block b hb⟩) t v h
theorem zi.ext {l:List Mx} {A:Option Addr} {j:Nat} (h:zi w p l A j) (hx:Ext w w'):zi w' p l A j:=zi.turn hx.size (fun _ _ h=>h.ext hx) (fun b hb hp=>⟨hp,hx.below.block b hb⟩) l A j h
theorem MxV.mono {t:Mx} {v:Value} (h:MxV w p t v) (hp:∀ b,p b->q b):MxV w q t v:=MxV.turn (Nat.le_refl _) (fun _ _ h=>h) (fun b _ h=>⟨hp b h,rfl⟩) t v h
theorem MxV.open_ {t:Mx} {v:Value} (h:MxV w p t v):∃ A0 n0 c0 A n1 c1 K c,v=mxV t (.slice A0 n0 c0) (.slice A n1 c1) (.slice K t.ks.length c)/\PlV w p t.p (plV t.p (.slice A0 n0 c0) (.slice A n1 c1))/\t.ks.length<=c/\c<=9223372036854775807/\zi w p t.ks K 0:=by
 cases t with
 | mk k r pl ks =>
   unfold MxV at h;obtain ⟨s,A,K,c,e,h1,h2,h3,h4⟩:=h;obtain ⟨A0,n0,c0,A1,c1,e2,-,-⟩:=h1.open_;unfold plV at e2;simp only [Value.agg.injEq,Array.mk.injEq,List.cons.injEq,and_true,true_and] at e2;obtain ⟨rfl,rfl⟩:=e2;exact ⟨A0,n0,c0,A1,_,c1,K,c,e,h1,h2,h3,h4⟩
theorem MxV.mk {t:Mx} {s A:Value} {K:Option Addr} {c:Nat} (h1:PlV w p t.p (plV t.p s A)) (h2:t.ks.length<=c) (h3:c<=9223372036854775807) (h4:zi w p t.ks K 0):MxV w p t (mxV t s A (.slice K t.ks.length c)):=by
 cases t with
 | mk k r pl ks=>unfold MxV; exact ⟨s,A,K,c,rfl,h1,h2,h3,h4⟩
theorem zi.kid {l:List Mx} {A:Option Addr} (h:zi w p l A 0) (k:Nat) (hk:k < l.length):∃ ad A0 n0 c0 A1 n1 c1 K n2 c2,A=some ad/\ad.block < w.heap.size/\xar w (ad.add (k * 7)) l[k] (.slice A0 n0 c0) (.slice A1 n1 c1) (.slice K n2 c2)/\MxV w p l[k] (mxV l[k] (.slice A0 n0 c0) (.slice A1 n1 c1) (.slice K n2 c2)):=by
 obtain ⟨ad,s,B,K,e,hb,-,h1,h2⟩:=zi.get_ l A 0 h k hk;rw [Nat.zero_add] at h1;obtain ⟨A0,n0,c0,A1,n1,c1,K',c',e2,-,-⟩:=h2.open_;unfold mxV at e2;simp only [Value.agg.injEq,Array.mk.injEq,List.cons.injEq,and_true,true_and] at e2;obtain ⟨rfl,rfl,rfl⟩:=e2;exact ⟨ad,A0,n0,c0,A1,n1,c1,K',_,c',e,hb,h1,h2⟩
end
end Go.Proofs.YtcfcjabgkfehlaaGreat

/- Reference 38: roomPoly, FewPoly: how many coefficients a polynomial has, up to a limit. -/
set_option maxRecDepth 100000
set_option maxHeartbeats 8000000
namespace Go.Proofs.YtcfcjabgkfehlaaGreat
open Go.RowKit
mutual
def Pl.room (D : Nat) : Pl -> Int -> Nat -> Int
 | .mk _ _ ds cs,n,deep=>match deep with
   | 0=>-1
   | d+1=>if D < ds.length\/12 < cs.length then -1 else yu D cs (n - 1) d
def yu (D : Nat) : List Pl -> Int -> Nat -> Int
 | [],n,_=>n
 | t :: r,n,d=>if n < 0 then -1 else yu D r (t.room D n d) d
end
mutual
theorem Pl.room_bd (D : Nat) : ∀ (t : Pl) (n : Int) (d : Nat), 0 <= n -> -1 <= t.room D n d /\ t.room D n d <= n
 | .mk _ _ ds cs,n,deep,h=>by
   cases deep with
   | zero=>simp only [Pl.room]; omega
   | succ d =>
     simp only [Pl.room]
     split
     · omega
     · have:=vaw D cs (n - 1) d (by omega); omega
theorem vaw (D : Nat) : ∀ (l : List Pl) (n : Int) (d : Nat), -1 <= n -> -1 <= yu D l n d /\ yu D l n d <= n
 | [],n,d,h=>by simp only [yu]; omega
 | t :: r,n,d,h=>by
   simp only [yu]
   split
   · omega
   · have h1:=Pl.room_bd D t n d (by omega);have h2:=vaw D r (t.room D n d) d h1.1;omega
end
theorem jbd (D:Nat) (l:List Pl) (d:Nat):yu D l (-1) d=-1:=by cases l <;> simp [yu]
theorem xaz (D:Nat) (l r:List Pl) (n:Int) (d:Nat) (hn:-1<=n):yu D (l ++ r) n d=yu D r (yu D l n d) d:=by
 induction l generalizing n with
 | nil=>simp [yu]
 | cons t l ih =>
   simp only [List.cons_append,yu]
   split
   · rw [jbd]
   · exact ih _ (Pl.room_bd D t n d (by omega)).1
theorem jbw (D:Nat) (l:List Pl) (k:Nat) (hk:k < l.length) (n:Int) (d:Nat) (hn:-1<=n):yu D (l.take (k+1)) n d=if yu D (l.take k) n d < 0 then -1 else (l[k]).room D (yu D (l.take k) n d) d:=by
 rw [List.take_succ_eq_append_getElem hk,xaz _ _ _ _ _ hn];simp [yu]
theorem xb4 (D:Nat) (l:List Pl) (k:Nat) (n:Int) (d:Nat) (hn:-1<=n) (hk:k < l.length) (h:yu D (l.take k) n d < 0):yu D l n d=-1:=by
 have h1:l=l.take k ++ l.drop k:=(List.take_append_drop k l).symm;have hb:=(vaw D (l.take k) n d hn).1;have h2:yu D (l.take k) n d=-1:=by omega
 rw [h1,xaz _ _ _ _ _ hn,h2,jbd]
mutual
theorem Pl.room_sz (D : Nat) : ∀ (t : Pl) (n : Int) (d : Nat), 0 <= n -> 0 <= t.room D n d -> t.room D n d = n - t.sz /\ t.dm <= D
 | .mk _ _ ds cs,n,deep,h,h'=>by
   cases deep with
   | zero=>simp only [Pl.room] at h'; omega
   | succ d =>
     simp only [Pl.room,Pl.sz,Pl.dm] at h' ⊢
     split at h'
     · omega
     · rename_i hc;rw [if_neg hc];have:=ubi D cs (n - 1) d (by omega) h';omega
theorem ubi (D : Nat) : ∀ (l : List Pl) (n : Int) (d : Nat), -1 <= n -> 0 <= yu D l n d -> yu D l n d = n - uj l /\ waa l <= D
 | [],n,d,h,h'=>by simp only [yu,uj,waa]; omega
 | t :: r,n,d,h,h'=>by
   simp only [yu] at h' ⊢
   split at h'
   · omega
   · rename_i hn;rw [if_neg hn];have hb:=Pl.room_bd D t n d (by omega);have h2:=ubi D r (t.room D n d) d hb.1 h';have hb2:=vaw D r (t.room D n d) d hb.1;have h1:=Pl.room_sz D t n d (by omega) (by omega);simp only [uj,waa];omega
end
def Pl.few (p:Pl) (n D:Nat):Bool:=decide (0<=p.room D n 6)
theorem Pl.few_le {p:Pl} {n D:Nat} (h:p.few n D=true):p.sz<=n/\p.dm<=D:=by
 have h1:=Pl.room_sz D p n 6 (by omega) (of_decide_eq_true h);have h2:=of_decide_eq_true h;omega
theorem yb4 {p:Nat->Prop} (D:Nat) (hD:D<=1000000) (dd:Nat):∀ (t:Pl) (v:Value) (w:World) (n:Int) (deep:Nat),deep < dd->PlV w p t v->0<=n->n<=1000000->deep<=1000000 ->
 Calls Tryz.prog 173 #[v,.int .i64 n,.int .i64 deep,.int .i64 D] w (jo (t.room D n deep) w):=by
 induction dd with
 | zero=>intro t v w n deep h; omega
 | succ dd ih =>
 intro t v w n deep hdd h hn hn' hd';have IH:=Lib.hid ih;obtain ⟨A0,n0,c0,A,c,rfl,⟨A0',c0',e,hd1,hd2,-⟩,hl1,hl2,h4⟩:=h.open_;injection e with e1 e2 e3
 subst e1 e2 e3;have H4:=Lib.hid h4;clear h4 ih h;unfold plV;cases deep with
 | zero =>
   obtain ⟨lv,ng,ds,cs⟩:=t;show Calls _ _ _ _ (jo (-1) w);go_enter Tryz.func173,Tryz.ntmps173;go_wp2_with fail;go_ret;exact ⟨rfl,(Ext.refl w).alloc _⟩
 | succ deep =>
   have hde:(((deep+1:Nat):Int) == 0)=false:=by simp; omega
   have hroom:t.room D n (deep+1)=if D < t.ds.length\/12 < t.cs.length then -1 else yu D t.cs (n - 1) deep:=by cases t; rfl
   obtain ⟨dI,hdI⟩:∃ dI:Int,((deep+1:Nat):Int)=dI:=⟨_,rfl⟩;rw [hdI] at hde ⊢;have hdI1:1<=dI:=by omega
   have hdI2:dI<=1000000:=by omega
   have HDI:Hid (dI - 1=(deep:Int)):=by
    have:dI - 1=(deep:Int):=by omega
    exact this
   clear hdI
   by_cases hbad:D < t.ds.length\/12 < t.cs.length
   · rw [if_pos hbad] at hroom;have HR:=Lib.hid hroom;have HXA:Hid (∀ o,Ext w (w.alloc o)):=fun o=>(Ext.refl w).alloc o
     clear hroom
     by_cases hb1:D < t.ds.length
     · have hq1:decide ((t.ds.length:Int) > (D:Int))=true:=decide_eq_true (by omega);generalize t.ds.length=N1 at *;clear hbad;go_enter Tryz.func173,Tryz.ntmps173;go_wp2_with fail;go_ret;exact ⟨by rw [HR.out]; rfl,HXA.out _⟩
     · have hq1:decide ((t.ds.length:Int) > (D:Int))=false:=decide_eq_false (by omega);have hq2:decide ((t.cs.length:Int) > 12)=true:=decide_eq_true (by omega);generalize t.ds.length=N1 at *;generalize t.cs.length=N2 at *;clear hbad;go_enter Tryz.func173,Tryz.ntmps173;go_wp2_with fail;go_ret;exact ⟨by rw [HR.out]; rfl,HXA.out _⟩
   rw [if_neg hbad] at hroom;have HR:=Lib.hid hroom;have hq1:decide ((t.ds.length:Int) > (D:Int))=false:=decide_eq_false (by omega);have hq2:decide ((t.cs.length:Int) > 12)=false:=decide_eq_false (by omega);clear hroom hbad;have hqn:t.ds.length<=D:=by
    have:=of_decide_eq_false hq1;omega
   clear hq1;generalize t.ds.length=N1 at *;have hqm:¬ D < N1:=by omega
   obtain ⟨W,hW⟩:∃ W,w.alloc (.cells #[.int .i64 t.lv,.bool t.neg,.slice A0 N1 c0,.slice A t.cs.length c] 35)=W:=⟨_,rfl⟩;have hWx:Ext w W:=by rw [<- hW]; exact (Ext.refl w).alloc _
   have hWs:w.heap.size < W.heap.size:=by rw [<- hW]; simp
   have d8:W.cell? ⟨w.heap.size,3,none⟩=some (.slice A t.cs.length c):=by rw [<- hW]; simp [go_sem]
   have d2:W.cell? ⟨w.heap.size,2,none⟩=some (.slice A0 N1 c0):=by rw [<- hW]; simp [go_sem]
   have HWX:=Lib.hid hWx;have D8:=Lib.hid d8;clear hWx;go_enter Tryz.func173,Tryz.ntmps173;go_wp2_with fail;clear hW d8 d2
   go_loopw [1,31] (fun nv iv wr=>∃ (k:Nat) (m:Int),k<=t.cs.length/\iv=.int .i64 k/\nv=.int .i64 m/\-1<=m/\m<=1000000/\Hid (yu D (t.cs.take k) (n - 1) deep=m/\Ext W wr)) (fun _ iv _=>t.cs.length - (intOf iv).toNat)
   case atStart=>exact ⟨0,n - 1,Nat.zero_le _,rfl,rfl,by omega,by omega,⟨by simp [yu],Ext.refl W⟩⟩
   case round =>
    obtain ⟨k,m,hk,rfl,rfl,hm1,hm2,⟨hm,hxw⟩⟩:=hrel;have HM:=Lib.hid hm;have HXW:=Lib.hid hxw;have d8:wr.cell? ⟨w.heap.size,3,none⟩=some (.slice A t.cs.length c):=(hxw.cell (p:=⟨w.heap.size,3,none⟩) hWs).trans D8.out
    by_cases hlt:k < t.cs.length
    · by_cases hneg:m < 0
      · have HF:Hid (yu D t.cs (n - 1) deep=-1):=by
         have:yu D t.cs (n - 1) deep=-1:=xb4 D t.cs k (n - 1) deep (by omega) hlt (by omega);exact this
        clear hm hxw;go_wp2_with fail;go_ret;exact ⟨by rw [HR.out,HF.out]; rfl,HWX.out.trans HXW.out⟩
      · obtain ⟨ad,B0,m0,d0,B1,m1,d1,rfl,hadb,⟨e0,e1,e2,e3⟩,hkt⟩:=jd.kid (jd.ext H4.out (HWX.out.trans hxw)) k hlt;have HKT:=Lib.hid hkt;have HSTEP:Hid (yu D (t.cs.take (k+1)) (n - 1) deep=(t.cs[k]).room D m deep):=by
         have:yu D (t.cs.take (k+1)) (n - 1) deep=(t.cs[k]).room D m deep:=by rw [jbw _ _ _ hlt _ _ (by omega),hm,if_neg hneg]
         exact this
        clear hkt hm hxw hadb;have hm0:decide (m < 0)=false:=by simpa using hneg
        go_wp2_with fail;rw [HDI.out];have hbd:=Pl.room_bd D (t.cs[k]) m deep (by omega);refine (IH.out (t.cs[k]) _ wr m deep (by omega) HKT.out (by omega) (by omega) (by omega)).mono ?_;rintro e w2 ⟨rfl,x2⟩;have X2:=Lib.hid x2;clear x2 e0 e1 e2 e3 d8;generalize hrm:(t.cs[k]).room D m deep=m2 at *;have HRM:=Lib.hid hrm;clear hrm;go_wp2_with fail
        go_roundw
        case rel=>exact ⟨k+1,m2,by omega,by go_num,rfl,by omega,by omega,⟨HSTEP.out,HXW.out.trans X2.out⟩⟩
        case measure=>simp [intOf]; omega
    · have hke:k=t.cs.length:=by omega
      have HF:Hid (yu D t.cs (n - 1) deep=m):=by
       rw [hke,List.take_length] at hm;exact hm
      clear hm hxw hke;go_wp2_with fail;go_ret;exact ⟨by rw [HR.out,HF.out]; rfl,HWX.out.trans HXW.out⟩
theorem qbw {p:Nat->Prop} (D:Nat) (hD:D<=1000000) (t:Pl) (v:Value) (w:World) (n:Int) (deep:Nat) (h:PlV w p t v) (hn:0<=n) (hn':n<=1000000) (hd:deep<=1000000) :
 Calls Tryz.prog 173 #[v,.int .i64 n,.int .i64 deep,.int .i64 D] w (jo (t.room D n deep) w):=yb4 D hD (deep+1) t v w n deep (Nat.lt_succ_self _) h hn hn' hd
theorem ubr {p:Nat->Prop} (D n:Nat) (hD:D<=1000000) (hn:n<=1000000) (t:Pl) (v:Value) (w:World) (h:PlV w p t v):Calls Tryz.prog 130 #[v,.int .i64 n,.int .i64 D] w fun e w'=>e=.returned (.bool (t.few n D))/\Ext w w':=by
 have HH:=Lib.hid h;obtain ⟨A0,n0,c0,A,c,rfl,hnat,hl1,hl2,h4⟩:=h.open_;obtain ⟨W,hW⟩:∃ W,w.alloc (.cells #[.int .i64 t.lv,.bool t.neg,.slice A0 n0 c0,.slice A t.cs.length c] 35)=W:=⟨_,rfl⟩;have hWx:Ext w W:=by rw [<- hW]; exact (Ext.refl w).alloc _
 obtain ⟨b0,b1,b2,b3⟩:uf W w.heap.size t (.slice A0 n0 c0) (.slice A t.cs.length c):=by rw [<- hW]; exact uf.new w t _ _ _
 have HWX:=Lib.hid hWx;have HC:=Lib.hid (qbw D hD t _ W n 6 (HH.out.ext hWx) (by omega) (by omega) (by omega));have HE:Hid (t.few n D=decide (t.room D n 6 ≥ 0)):=rfl;clear h hnat h4 hWx;generalize t.room D n 6=rr at *;unfold plV at *;go_enter Tryz.func130,Tryz.ntmps130;go_wp2_with fail;clear hW b0 b1 b2 b3;refine HC.out.mono ?_;rintro e w2 ⟨rfl,x2⟩;have X2:=Lib.hid (HWX.out.trans x2);clear x2;go_wp2_with fail;go_ret;exact ⟨by rw [HE.out]; rfl,X2.out⟩
end Go.Proofs.YtcfcjabgkfehlaaGreat

/- Reference 38: room, Few: how many nodes a matrix has, up to a limit, and that its polynomials are small. -/
set_option maxRecDepth 100000
set_option maxHeartbeats 8000000
namespace Go.Proofs.YtcfcjabgkfehlaaGreat
open Go.RowKit
mutual
def Mx.room : Mx -> Int -> Nat -> Int
 | .mk _ _ p ks,n,deep=>match deep with
   | 0=>-1
   | d+1=>if p.few 40 4=true then xu ks (n - 1) d else -1
def xu : List Mx -> Int -> Nat -> Int
 | [],n,_=>n
 | t :: r,n,d=>if n < 0 then -1 else xu r (t.room n d) d
end
mutual
theorem Mx.room_bd : ∀ (t : Mx) (n : Int) (d : Nat), 0 <= n -> -1 <= t.room n d /\ t.room n d <= n
 | .mk _ _ p ks,n,deep,h=>by
   cases deep with
   | zero=>simp only [Mx.room]; omega
   | succ d =>
     simp only [Mx.room]
     split
     · have:=uaw ks (n - 1) d (by omega); omega
     · omega
theorem uaw : ∀ (l : List Mx) (n : Int) (d : Nat), -1 <= n -> -1 <= xu l n d /\ xu l n d <= n
 | [],n,d,h=>by simp only [xu]; omega
 | t :: r,n,d,h=>by
   simp only [xu]
   split
   · omega
   · have h1:=Mx.room_bd t n d (by omega);have h2:=uaw r (t.room n d) d h1.1;omega
end
theorem kbd (l:List Mx) (d:Nat):xu l (-1) d=-1:=by cases l <;> simp [xu]
theorem qaz (l r:List Mx) (n:Int) (d:Nat) (hn:-1<=n):xu (l ++ r) n d=xu r (xu l n d) d:=by
 induction l generalizing n with
 | nil=>simp [xu]
 | cons t l ih =>
   simp only [List.cons_append,xu]
   split
   · rw [kbd]
   · exact ih _ (Mx.room_bd t n d (by omega)).1
theorem vbw (l:List Mx) (k:Nat) (hk:k < l.length) (n:Int) (d:Nat) (hn:-1<=n):xu (l.take (k+1)) n d=if xu (l.take k) n d < 0 then -1 else (l[k]).room (xu (l.take k) n d) d:=by
 rw [List.take_succ_eq_append_getElem hk,qaz _ _ _ _ hn];simp [xu]
theorem jb4 (l:List Mx) (k:Nat) (n:Int) (d:Nat) (hn:-1<=n) (hk:k < l.length) (h:xu (l.take k) n d < 0):xu l n d=-1:=by
 have h1:l=l.take k ++ l.drop k:=(List.take_append_drop k l).symm;have hb:=(uaw (l.take k) n d hn).1;have h2:xu (l.take k) n d=-1:=by omega
 rw [h1,qaz _ _ _ _ hn,h2,kbd]
mutual
def Mx.sz : Mx -> Nat
 | .mk _ _ _ ks=>zy ks+1
def zy : List Mx -> Nat
 | []=>0
 | t :: r=>t.sz+zy r
end
mutual
def Mx.small : Mx -> Prop
 | .mk _ _ p ks=>(p.sz<=40/\p.dm<=4)/\xap ks
def xap : List Mx -> Prop
 | []=>True
 | t :: r=>t.small/\xap r
end
theorem xcf {l:List Mx} {t:Mx} (h:t ∈ l):t.sz<=zy l:=by
 induction l with
 | nil=>cases h
 | cons x r ih =>
   rcases List.mem_cons.1 h with rfl | h
   · rw [zy]; omega
   · have:=ih h; rw [zy]; omega
theorem qcf (l:List Mx):l.length<=zy l:=by
 induction l with
 | nil=>exact Nat.le_refl _
 | cons x r ih=>cases x; rw [zy,Mx.sz]; simp only [List.length_cons]; omega
theorem ja4 (a b:List Mx):zy (a ++ b)=zy a+zy b:=by
 induction a with
 | nil=>simp [zy]
 | cons x r ih=>simp only [List.cons_append,zy,ih]; omega
theorem jb6 (l:List Mx) (k:Nat) (hk:k < l.length):zy (l.take (k+1))=zy (l.take k)+l[k].sz:=by
 rw [List.take_succ_eq_append_getElem hk,ja4]; simp [zy]
mutual
theorem Mx.room_sz : ∀ (t : Mx) (n : Int) (d : Nat), 0 <= n -> 0 <= t.room n d -> t.room n d = n - t.sz /\ t.small
 | .mk _ _ p ks,n,deep,h,h'=>by
   cases deep with
   | zero=>simp only [Mx.room] at h'; omega
   | succ d =>
     simp only [Mx.room,Mx.sz,Mx.small] at h' ⊢
     split at h'
     · rename_i hc;rw [if_pos hc];have h1:=gbi ks (n - 1) d (by omega) h';exact ⟨by omega,Pl.few_le hc,h1.2⟩
     · omega
theorem gbi : ∀ (l : List Mx) (n : Int) (d : Nat), -1 <= n -> 0 <= xu l n d -> xu l n d = n - zy l /\ xap l
 | [],n,d,h,h'=>by simp only [xu,zy,xap]; exact ⟨by omega,trivial⟩
 | t :: r,n,d,h,h'=>by
   simp only [xu] at h' ⊢
   split at h'
   · omega
   · rename_i hn;rw [if_neg hn];have hb:=Mx.room_bd t n d (by omega);have h2:=gbi r (t.room n d) d hb.1 h';have hb2:=uaw r (t.room n d) d hb.1;have h1:=Mx.room_sz t n d (by omega) (by omega);simp only [zy,xap];exact ⟨by omega,h1.2,h2.2⟩
end
def Mx.few (m:Mx) (n:Nat):Bool:=decide (0<=m.room n 12)
theorem Mx.few_le {m:Mx} {n:Nat} (h:m.few n=true):m.sz<=n/\m.small:=by
 have h1:=Mx.room_sz m n 12 (by omega) (of_decide_eq_true h);have h2:=of_decide_eq_true h;exact ⟨by omega,h1.2⟩
def zt (w:World) (g:Nat) (m:Mx) (s A K:Value):Prop:=
 w.cell? ⟨g,0,none⟩=some (.int .i64 m.kind)/\w.cell? ⟨g,1,none⟩=some (.int .i64 m.rel)/\w.cell? ⟨g,2,none⟩=some (.int .i64 m.p.lv)/\w.cell? ⟨g,3,none⟩=some (.bool m.p.neg)/\w.cell? ⟨g,4,none⟩=some s/\w.cell? ⟨g,5,none⟩=some A/\w.cell? ⟨g,6,none⟩=some K
theorem zt.turn {w w':World} {g:Nat} {m:Mx} {s A K:Value} (h:zt w g m s A K) (hb:w'.heap[g]?=w.heap[g]?):zt w' g m s A K:=by
 obtain ⟨h0,h1,h2,h3,h4,h5,h6⟩:=h;have k:∀ i,w'.cell? ⟨g,i,none⟩=w.cell? ⟨g,i,none⟩:=fun i=>World.cell?_of_block (a:=⟨g,i,none⟩) hb
 exact ⟨(k _).trans h0,(k _).trans h1,(k _).trans h2,(k _).trans h3,(k _).trans h4,(k _).trans h5,(k _).trans h6⟩
theorem zt.ext {w w':World} {g:Nat} {m:Mx} {s A K:Value} (h:zt w g m s A K) (hx:Ext w w') (hg:g < w.heap.size):zt w' g m s A K:=h.turn (hx.below.block g hg)
theorem zt.new (w:World) (m:Mx) (s A K:Value) (T:TypeId):zt (w.alloc (.cells #[.int .i64 m.kind,.int .i64 m.rel,.int .i64 m.p.lv,.bool m.p.neg,s,A,K] T)) w.heap.size m s A K:=by
 refine ⟨?_,?_,?_,?_,?_,?_,?_⟩ <;> simp [go_sem]
theorem qb4 {p:Nat->Prop} (dd:Nat):∀ (t:Mx) (v:Value) (w:World) (n:Int) (deep:Nat),deep < dd->MxV w p t v->0<=n->n<=1000000->deep<=1000000 ->
 Calls Tryz.prog 81 #[v,.int .i64 n,.int .i64 deep] w (jo (t.room n deep) w):=by
 induction dd with
 | zero=>intro t v w n deep h; omega
 | succ dd ih =>
 intro t v w n deep hdd h hn hn' hd';have IH:=Lib.hid ih;obtain ⟨A0,n0,c0,A,n1,c1,K,c,rfl,hp,hl1,hl2,h4⟩:=h.open_;have HP:=Lib.hid hp;have H4:=Lib.hid h4;clear h4 ih h hp;unfold mxV;cases deep with
 | zero =>
   obtain ⟨kd,rl,pl,ks⟩:=t;show Calls _ _ _ _ (jo (-1) w);go_enter Tryz.func81,Tryz.ntmps81;go_wp2_with fail;go_ret;exact ⟨rfl,(Ext.refl w).alloc _⟩
 | succ deep =>
   have hde:(((deep+1:Nat):Int) == 0)=false:=by simp; omega
   have hroom:t.room n (deep+1)=if t.p.few 40 4=true then xu t.ks (n - 1) deep else -1:=by cases t; rfl
   obtain ⟨dI,hdI⟩:∃ dI:Int,((deep+1:Nat):Int)=dI:=⟨_,rfl⟩;rw [hdI] at hde ⊢;have hdI1:1<=dI:=by omega
   have hdI2:dI<=1000000:=by omega
   have HDI:Hid (dI - 1=(deep:Int)):=by
    have:dI - 1=(deep:Int):=by omega
    exact this
   clear hdI;obtain ⟨W,hW⟩:∃ W,w.alloc (.cells #[.int .i64 t.kind,.int .i64 t.rel,.int .i64 t.p.lv,.bool t.p.neg,.slice A0 n0 c0,.slice A n1 c1,.slice K t.ks.length c] 63)=W:=⟨_,rfl⟩;have hWx:Ext w W:=by rw [<- hW]; exact (Ext.refl w).alloc _
   have hWs:w.heap.size < W.heap.size:=by rw [<- hW]; simp
   have hbx:zt W w.heap.size t (.slice A0 n0 c0) (.slice A n1 c1) (.slice K t.ks.length c):=by rw [<- hW]; exact zt.new w t _ _ _ _
   have HBX:=Lib.hid hbx;obtain ⟨b0,b1,b2,b3,b4,b5,b6⟩:=hbx;have HFEW:=Lib.hid (ubr 4 40 (by omega) (by omega) t.p _ W (HP.out.ext hWx));have HRM:=Lib.hid hroom;clear hroom;unfold plV at HFEW;have HWX:=Lib.hid hWx;clear hWx;generalize t.p.few 40 4=fw at *;go_enter Tryz.func81,Tryz.ntmps81;go_wp2_with fail;clear hW b0 b1 b2 b3 b4 b5 b6;refine HFEW.out.mono ?_;rintro e w1 ⟨rfl,x1⟩;have X01:=Lib.hid x1;obtain ⟨b0,b1,b2,b3,b4,b5,b6⟩:=HBX.out.ext x1 hWs;have hWs1:w.heap.size < w1.heap.size:=by have:=x1.size; omega
   have D8:=Lib.hid b6;clear x1 HFEW;cases fw
   · have hr:=HRM.out;rw [if_neg (by decide)] at hr;have HR:=Lib.hid hr;clear hr;go_wp2_with fail;go_ret;exact ⟨by rw [HR.out]; rfl,HWX.out.trans X01.out⟩
   have hr:=HRM.out;rw [if_pos rfl] at hr;have HR:=Lib.hid hr;clear hr;go_wp2_with fail;clear b0 b1 b2 b3 b4 b5 b6
   go_loopw [1,21] (fun nv iv wr=>∃ (k:Nat) (m:Int),k<=t.ks.length/\iv=.int .i64 k/\nv=.int .i64 m/\-1<=m/\m<=1000000/\Hid (xu (t.ks.take k) (n - 1) deep=m/\Ext w1 wr)) (fun _ iv _=>t.ks.length - (intOf iv).toNat)
   case atStart=>exact ⟨0,n - 1,Nat.zero_le _,rfl,rfl,by omega,by omega,⟨by simp [xu],Ext.refl w1⟩⟩
   case round =>
    obtain ⟨k,m,hk,rfl,rfl,hm1,hm2,⟨hm,hxw⟩⟩:=hrel;have HM:=Lib.hid hm;have HXW:=Lib.hid hxw;have d8:wr.cell? ⟨w.heap.size,6,none⟩=some (.slice K t.ks.length c):=(hxw.cell (p:=⟨w.heap.size,6,none⟩) hWs1).trans D8.out
    by_cases hlt:k < t.ks.length
    · by_cases hneg:m < 0
      · have HF:Hid (xu t.ks (n - 1) deep=-1):=by
         have:xu t.ks (n - 1) deep=-1:=jb4 t.ks k (n - 1) deep (by omega) hlt (by omega);exact this
        clear hm hxw;go_wp2_with fail;go_ret;exact ⟨by rw [HR.out,HF.out]; rfl,(HWX.out.trans X01.out).trans HXW.out⟩
      · obtain ⟨ad,B0,m0,d0,B1,m1,d1,K2,n2,c2,rfl,hadb,⟨e0,e1,e2,e3,e4,e5,e6⟩,hkt⟩:=zi.kid (zi.ext H4.out ((HWX.out.trans X01.out).trans hxw)) k hlt;have HKT:=Lib.hid hkt;have HSTEP:Hid (xu (t.ks.take (k+1)) (n - 1) deep=(t.ks[k]).room m deep):=by
         have:xu (t.ks.take (k+1)) (n - 1) deep=(t.ks[k]).room m deep:=by rw [vbw _ _ hlt _ _ (by omega),hm,if_neg hneg]
         exact this
        clear hkt hm hxw hadb;have hm0:decide (m < 0)=false:=by simpa using hneg
        go_wp2_with fail;rw [HDI.out];have hbd:=Mx.room_bd (t.ks[k]) m deep (by omega);refine (IH.out (t.ks[k]) _ wr m deep (by omega) HKT.out (by omega) (by omega) (by omega)).mono ?_;rintro e w2 ⟨rfl,x2⟩;have X2:=Lib.hid x2;clear x2 e0 e1 e2 e3 e4 e5 e6 d8;generalize hrm:(t.ks[k]).room m deep=m2 at *;have HRM:=Lib.hid hrm;clear hrm;go_wp2_with fail
        go_roundw
        case rel=>exact ⟨k+1,m2,by omega,by go_num,rfl,by omega,by omega,⟨HSTEP.out,HXW.out.trans X2.out⟩⟩
        case measure=>simp [intOf]; omega
    · have hke:k=t.ks.length:=by omega
      have HF:Hid (xu t.ks (n - 1) deep=m):=by
       rw [hke,List.take_length] at hm;exact hm
      clear hm hxw hke;go_wp2_with fail;go_ret;exact ⟨by rw [HR.out,HF.out]; rfl,(HWX.out.trans X01.out).trans HXW.out⟩
theorem kbw {p:Nat->Prop} (t:Mx) (v:Value) (w:World) (n:Int) (deep:Nat) (h:MxV w p t v) (hn:0<=n) (hn':n<=1000000) (hd:deep<=1000000) :
 Calls Tryz.prog 81 #[v,.int .i64 n,.int .i64 deep] w (jo (t.room n deep) w):=qb4 (deep+1) t v w n deep (Nat.lt_succ_self _) h hn hn' hd
theorem xb8 {p:Nat->Prop} (n:Nat) (hn:n<=1000000) (t:Mx) (v:Value) (w:World) (h:MxV w p t v):Calls Tryz.prog 36 #[v,.int .i64 n] w fun e w'=>e=.returned (.bool (t.few n))/\Ext w w':=by
 have HH:=Lib.hid h;obtain ⟨A0,n0,c0,A,n1,c1,K,c,rfl,hp,hl1,hl2,h4⟩:=h.open_;obtain ⟨W,hW⟩:∃ W,w.alloc (.cells #[.int .i64 t.kind,.int .i64 t.rel,.int .i64 t.p.lv,.bool t.p.neg,.slice A0 n0 c0,.slice A n1 c1,.slice K t.ks.length c] 63)=W:=⟨_,rfl⟩;have hWx:Ext w W:=by rw [<- hW]; exact (Ext.refl w).alloc _
 obtain ⟨b0,b1,b2,b3,b4,b5,b6⟩:zt W w.heap.size t (.slice A0 n0 c0) (.slice A n1 c1) (.slice K t.ks.length c):=by rw [<- hW]; exact zt.new w t _ _ _ _
 have HWX:=Lib.hid hWx;have HC:=Lib.hid (kbw t _ W n 12 (HH.out.ext hWx) (by omega) (by omega) (by omega));have HE:Hid (t.few n=decide (t.room n 12 ≥ 0)):=rfl;clear h hp h4 hWx;generalize t.room n 12=rr at *;unfold mxV at *;go_enter Tryz.func36,Tryz.ntmps36;go_wp2_with fail;clear hW b0 b1 b2 b3 b4 b5 b6;refine HC.out.mono ?_;rintro e w2 ⟨rfl,x2⟩;have X2:=Lib.hid (HWX.out.trans x2);clear x2;go_wp2_with fail;go_ret;exact ⟨by rw [HE.out]; rfl,X2.out⟩
end Go.Proofs.YtcfcjabgkfehlaaGreat

/- Matrices that a call makes: rows of them that grow, results. -/
namespace Go.Proofs.YtcfcjabgkfehlaaGreat
open Go.RowKit
def uaa (q:Nat->Prop) (m:Mx) (w:World) (e:Ending) (w':World):Prop:=∃ v,e=.returned v/\MxV w' q m v/\Ext w w'
def wab (w:World) (g:Nat):Prop:=zt w g (.mk 0 0 Pl.zero []) (.slice none 0 0) (.slice none 0 0) (.slice none 0 0)/\∀ i,w.frozen? ⟨g,i,none⟩=false
theorem wab.ext {w w':World} {g:Nat} (h:wab w g) (hx:Ext w w') (hg:g < w.heap.size):wab w' g:=⟨h.1.ext hx hg,fun i=>(hx.frozen (p:=⟨g,i,none⟩) hg).trans (h.2 i)⟩
theorem wab.new (w:World) (T:TypeId):wab (w.alloc (.cells #[.int .i64 0,.int .i64 0,.int .i64 0,.bool false,.slice none 0 0,.slice none 0 0,.slice none 0 0] T)) w.heap.size:=
 ⟨zt.new w (.mk 0 0 Pl.zero []) _ _ _ T,fun i=>by simp [go_sem]⟩
theorem kb0 {W:World} {g:Nat} {m m':Mx} {A0 A1 K0 B0 B1 K1:Option Addr} {n0 c0 n1 c1 n2 c2 m0 d0 m1 d1 m2 d2:Nat} (h:zt W g m (.slice A0 n0 c0) (.slice A1 n1 c1) (.slice K0 n2 c2)) :
 (∀ v ds,jb W v ds->jb (((((((W.setCell ⟨g,0,none⟩ (.int .i64 m'.kind)).setCell ⟨g,1,none⟩ (.int .i64 m'.rel)).setCell ⟨g,2,none⟩ (.int .i64 m'.p.lv)).setCell ⟨g,3,none⟩ (.bool m'.p.neg)).setCell ⟨g,4,none⟩ (.slice B0 m0 d0)).setCell ⟨g,5,none⟩ (.slice B1 m1 d1)).setCell ⟨g,6,none⟩ (.slice K1 m2 d2)) v ds) /\
 (∀ b,b ≠ g->(((((((W.setCell ⟨g,0,none⟩ (.int .i64 m'.kind)).setCell ⟨g,1,none⟩ (.int .i64 m'.rel)).setCell ⟨g,2,none⟩ (.int .i64 m'.p.lv)).setCell ⟨g,3,none⟩ (.bool m'.p.neg)).setCell ⟨g,4,none⟩ (.slice B0 m0 d0)).setCell ⟨g,5,none⟩ (.slice B1 m1 d1)).setCell ⟨g,6,none⟩ (.slice K1 m2 d2)).heap[b]?=W.heap[b]?):=by
 obtain ⟨h0,h1,h2,h3,h4,h5,h6⟩:=h;refine ⟨fun v ds hv=>?_,fun b hb=>?_⟩
 · refine ((((((hv.box h0 rfl _).box (u:=.int .i64 m.rel) ?_ rfl _).box (u:=.int .i64 m.p.lv) ?_ rfl _).box (u:=.bool m.p.neg) ?_ rfl _).box (u:=.slice A0 n0 c0) ?_ rfl _).box (u:=.slice A1 n1 c1) ?_ rfl _).box (u:=.slice K0 n2 c2) ?_ rfl _
   all_goals
    repeat rw [World.cell?_setCell_other _ _ _ _ (by simp)]
    first | exact h1 | exact h2 | exact h3 | exact h4 | exact h5 | exact h6
 · have hb':b ≠ (⟨g,0,none⟩:Addr).block:=hb
   repeat rw [Below.heap_setCell _ _ _ b (by exact hb)]
theorem jaf {w W:World} {g:Nat} {m:Mx} {q q':Nat->Prop} {A0 A1 K:Option Addr} {n0 c0 n1 c1 n2 c2:Nat} (hx:Ext w W) (hg:w.heap.size<=g) (hz:wab W g) (hp:MxV W q m (mxV m (.slice A0 n0 c0) (.slice A1 n1 c1) (.slice K n2 c2))) (hq:∀ b,b < W.heap.size->q b->b ≠ g/\q' b) :
 uaa q' m w (.returned (mxV m (.slice A0 n0 c0) (.slice A1 n1 c1) (.slice K n2 c2))) (((((((W.setCell ⟨g,0,none⟩ (.int .i64 m.kind)).setCell ⟨g,1,none⟩ (.int .i64 m.rel)).setCell ⟨g,2,none⟩ (.int .i64 m.p.lv)).setCell ⟨g,3,none⟩ (.bool m.p.neg)).setCell ⟨g,4,none⟩ (.slice A0 n0 c0)).setCell ⟨g,5,none⟩ (.slice A1 n1 c1)).setCell ⟨g,6,none⟩ (.slice K n2 c2)):=by
 obtain ⟨hn,hb⟩:=kb0 (m':=m) (B0:=A0) (m0:=n0) (d0:=c0) (B1:=A1) (m1:=n1) (d1:=c1) (K1:=K) (m2:=n2) (d2:=c2) hz.1;refine ⟨_,rfl,MxV.turn_ (by simp [World.setCell]) hn (fun b hlt hqb=>⟨(hq b hlt hqb).2,hb b (hq b hlt hqb).1⟩) hp,((((((hx.setCell hg _).setCell hg _).setCell hg _).setCell hg _).setCell hg _).setCell hg _).setCell hg _⟩
theorem xbr:(Tryz.prog.info? 63).map (fun i=>(i.zero,i.size,i.bytes))=some (some (.agg #[.int .i64 0,.int .i64 0,.int .i64 0,.bool false,.slice none 0 0,.slice none 0 0,.slice none 0 0]),7,104):=by kernel_rfl
theorem zby : ka2 61 63 7 104 (.agg #[.int .i64 0, .int .i64 0, .int .i64 0, .bool false, .slice none 0 0, .slice none 0 0, .slice none 0 0]) where
 und:=Tryz.underlying61
 info:=xbr
 cells:=rfl
 pos:=by omega
 nodig:=by
  intro u hu;simp only [Value.cells] at hu;simp only [List.mem_cons,List.not_mem_nil,or_false] at hu;rcases hu with rfl | rfl | rfl | rfl | rfl | rfl | rfl <;> rfl
def mxC (r:Mx × Value × Value × Value):List Value:=[.int .i64 r.1.kind,.int .i64 r.1.rel,.int .i64 r.1.p.lv,.bool r.1.p.neg,r.2.1,r.2.2.1,r.2.2.2]
def yax (rs:List (Mx × Value × Value × Value)):List Value:=rs.flatMap mxC
theorem ybm (a b:List (Mx × Value × Value × Value)):yax (a ++ b)=yax a ++ yax b:=by simp [yax]
theorem yb8 (rs:List (Mx × Value × Value × Value)) (k:Nat) (hk:k < rs.length) (j:Nat) (hj:j < 7):(yax rs)[k * 7+j]?=(mxC rs[k])[j]?:=by
 induction rs generalizing k with
 | nil=>simp at hk
 | cons r rs ih =>
   have hl:(mxC r).length=7:=rfl;simp only [yax,List.flatMap_cons];cases k with
   | zero=>simp only [Nat.zero_mul,Nat.zero_add,List.getElem_cons_zero]; rw [List.getElem?_append_left (by omega)]
   | succ k =>
     rw [List.getElem?_append_right (by omega),hl,show (k+1) * 7+j - 7=k * 7+j by omega];exact ih k (by simpa using hk)
def qak (base:Nat) (W:World) (v:Value) (l:List Mx):Prop:=
 ∃ rs:List (Mx × Value × Value × Value),rs.map (fun r=>r.1)=l/\yx 63 7 base W v rs.length (yax rs)/\∀ r ∈ rs,MxV W (fun b=>v.ownBlock ≠ some b/\base<=b) r.1 (mxV r.1 r.2.1 r.2.2.1 r.2.2.2)
section
variable {base:Nat} {W W':World} {v:Value} {l:List Mx}
theorem qak.nil (base:Nat) (W:World):qak base W (.slice none 0 0) []:=⟨[],rfl,yx.nil _ _ _ _,by simp⟩
theorem qak.own (h:qak base W v l) {R:Nat} (hR:v.ownBlock=some R):base<=R/\R < W.heap.size:=by
 obtain ⟨rs,-,h2,-⟩:=h;exact h2.own hR
theorem qak.len (h:qak base W v l):∃ A c,v=.slice A l.length c/\l.length<=c/\c<=9223372036854775807:=by
 obtain ⟨rs,rfl,h2,-⟩:=h;rw [List.length_map];exact h2.len
theorem qak.turn (h:qak base W v l) (hs:W.heap.size<=W'.heap.size) (hb:∀ b,base<=b->b < W.heap.size->W'.heap[b]?=W.heap[b]?) (hn:∀ v ds,jb W v ds->jb W' v ds):qak base W' v l:=by
 have hown:∀ R,v.ownBlock=some R->base<=R/\R < W.heap.size:=fun R hR=>h.own hR
 obtain ⟨rs,e,h2,h3⟩:=h;exact ⟨rs,e,h2.turn (fun R hR=>hb R (hown R hR).1 (hown R hR).2),fun r hr=>MxV.turn_ hs hn (fun b hlt hp=>⟨hp,hb b hp.2 hlt⟩) (h3 r hr)⟩
theorem qak.at_ {A:Option Addr} {n c:Nat} (h:qak base W (.slice A n c) l):zi W (fun b=>base<=b) l A 0:=by
 obtain ⟨rs,rfl,h2,h3⟩:=h;refine zi.of _ _ 0 fun i hi=>?_
 rw [List.length_map] at hi;obtain ⟨g,c',e',-,-,hbg,hlt,-⟩:=h2.pos (by omega);injection e' with e1 e2 e3
 subst e1 e2 e3;have hcell:∀ j,j < 7->W.cell? ⟨g,i * 7+j,none⟩=(mxC rs[i])[j]?:=by
  intro j hj;rw [h2.cell (i * 7+j) (by omega)];exact yb8 rs i hi j hj
 refine ⟨⟨g,0,none⟩,rs[i].2.1,rs[i].2.2.1,rs[i].2.2.2,rfl,hlt,hbg,?_,?_⟩
 · rw [jq,Nat.zero_add,Nat.zero_add,List.getElem_map];exact ⟨hcell 0 (by omega),hcell 1 (by omega),hcell 2 (by omega),hcell 3 (by omega),hcell 4 (by omega),hcell 5 (by omega),hcell 6 (by omega)⟩
 · rw [List.getElem_map]; exact (h3 rs[i] (List.getElem_mem hi)).mono fun b hb=>hb.2
end
theorem qak.step {base:Nat} {wr w3:World} {ov:Value} {l:List Mx} {x:Mx} {A0 A1 K:Option Addr} {n0 c0 n1 c1 n2 c2:Nat} (h:qak base wr ov l) (hx:Ext wr w3) (hbase:base<=wr.heap.size) (ht:MxV w3 (fun b=>wr.heap.size<=b) x (mxV x (.slice A0 n0 c0) (.slice A1 n1 c1) (.slice K n2 c2))) (hlen:l.length<=1000000) (ty:TypeId) :
 ∃ v4 w4,(Builtin.append_ #[61,61] ty #[ov,.slice (some ⟨w3.heap.size,0,none⟩) 1 1]).run Tryz.prog (w3.alloc (.cells #[.int .i64 x.kind,.int .i64 x.rel,.int .i64 x.p.lv,.bool x.p.neg,.slice A0 n0 c0,.slice A1 n1 c1,.slice K n2 c2] 63))=.ok v4 w4/\w3.grownBy w4 ov.ownBlock/\(∀ v ds,jb w3 v ds->jb w4 v ds)/\qak base w4 v4 (l ++ [x]):=by
 have hown:∀ R,ov.ownBlock=some R->base<=R/\R < wr.heap.size:=fun R hR=>h.own hR
 have hw3:=hx.size;obtain ⟨rs,rfl,h2,h3⟩:=h;rw [List.length_map] at hlen;obtain ⟨v4,w4,e,r1,r2,r3,r4⟩:=(h2.ext hx).push zby (by omega) (mxC (x,.slice A0 n0 c0,.slice A1 n1 c1,.slice K n2 c2)) rfl (by
  intro u hu;simp only [mxC,List.mem_cons,List.not_mem_nil,or_false] at hu
  rcases hu with rfl | rfl | rfl | rfl | rfl | rfl | rfl <;> exact ⟨rfl,rfl⟩) (by omega) (by omega) ty
 refine ⟨v4,w4,e,r2,r3,rs ++ [(x,.slice A0 n0 c0,.slice A1 n1 c1,.slice K n2 c2)],by simp,?_,fun r hr=>?_⟩
 · rw [ybm,List.length_append]; exact r1
 · have hv4:∀ b,b < w3.heap.size->ov.ownBlock ≠ some b->v4.ownBlock ≠ some b:=by
    intro b hb hne e;rcases r4 with r4 | r4
    · exact hne (by rw [<- r4]; exact e)
    · rw [r4] at e; injection e with e; omega
   have hblk:∀ b,b < w3.heap.size->ov.ownBlock ≠ some b->w4.heap[b]?=w3.heap[b]?:=fun b hb hne=>World.grownBy.block r2 b hb (fun e=>hne e.symm)
   have hs4:=r2.size;rcases List.mem_append.1 hr with hr | hr
   · exact MxV.turn_ (by omega) (fun v ds hv=>r3 v ds (hv.ext hx)) (fun b hb hp=>⟨⟨hv4 b (by omega) hp.1,hp.2⟩,(hblk b (by omega) hp.1).trans (hx.below.block b hb)⟩) (h3 r hr)
   · obtain rfl:r=(x,.slice A0 n0 c0,.slice A1 n1 c1,.slice K n2 c2):=by simpa using hr
     exact MxV.turn_ (by omega) r3 (fun b hb hp=>⟨⟨hv4 b hb (fun e=>by have:=hown b e; omega),by omega⟩,hblk b hb (fun e=>by have:=hown b e; omega)⟩) ht
end Go.Proofs.YtcfcjabgkfehlaaGreat
