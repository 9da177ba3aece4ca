/- Layer 34: trees as values. -/
import Derived.Test.YtheefiaoimbeiaaGreatDoorMt2
import Derived.Test.YtheefiaoimbeiaaGreatDoorMt4
import Derived.Test.YtheefiaoimbeiaaGreatDoorMt0
import Derived.Maps.AppendAt
import Derived.Deep.RegionLawGrows
import Derived.RangeFuncBox
import Derived.Test.YtheefiaoimbeiaaGreatDoorMt1
import Derived.Test.YtheefiaoimbeiaaGreatDoorMt5
set_option linter.unusedSimpArgs false
set_option linter.unusedVariables false

namespace Go.Proofs.YtheefiaoimbeiaaGreatDoor
open Go.RowKit
structure Nd where
 kind:Int
 neg:Bool
 ds:List Nat
 name:ByteArray
 exp:Int
 rel:Int
 truth:Bool
 all:Bool
inductive Tr where
 | mk (d:Nd) (ks:List Tr)
def Tr.d : Tr -> Nd
 | .mk d _=>d
def Tr.ks : Tr -> List Tr
 | .mk _ ks=>ks
def ndV (d:Nd) (s A:Value):Value:=.agg #[.int .i64 d.kind,.bool d.neg,s,.string d.name,.int .i64 d.exp,.int .i64 d.rel,.bool d.truth,.bool d.all,A]
def zah (w:World) (ad:Addr) (d:Nd) (s A:Value):Prop:=
 w.cell? ad=some (.int .i64 d.kind)/\w.cell? ⟨ad.block,ad.off+1,none⟩=some (.bool d.neg)/\w.cell? ⟨ad.block,ad.off+2,none⟩=some s/\w.cell? ⟨ad.block,ad.off+3,none⟩=some (.string d.name)/\w.cell? ⟨ad.block,ad.off+4,none⟩=some (.int .i64 d.exp)/\w.cell? ⟨ad.block,ad.off+5,none⟩=some (.int .i64 d.rel)/\w.cell? ⟨ad.block,ad.off+6,none⟩=some (.bool d.truth)/\w.cell? ⟨ad.block,ad.off+7,none⟩=some (.bool d.all)/\w.cell? ⟨ad.block,ad.off+8,none⟩=some A
mutual
def TrV (w : World) (p : Nat -> Prop) : Tr -> Value -> Prop
 | .mk d ks,v=>∃ s A c,v=ndV d s (.slice A ks.length c)/\ja w s d.ds/\ks.length<=c/\c<=9223372036854775807/\ug w p ks A 0
def ug (w : World) (p : Nat -> Prop) : List Tr -> Option Addr -> Nat -> Prop
 | [],_,_=>True
 | t :: r,A,j=>(∃ ad s K,A=some ad/\ad.block < w.heap.size/\p ad.block/\zah w (ad.add (j * 9)) t.d s K/\TrV w p t (ndV t.d s K))/\ug w p r A (j+1)
end
section
variable {w w':World} {p q:Nat->Prop}
theorem ug.get_ (l:List Tr):∀ (A:Option Addr) (j:Nat),ug w p l A j->∀ i (h:i < l.length),∃ ad s K,A=some ad/\ad.block < w.heap.size/\p ad.block/\zah w (ad.add ((j+i) * 9)) l[i].d s K/\TrV w p l[i] (ndV l[i].d s K):=by
 induction l with
 | nil=>intro A j h i hi; simp at hi
 | cons t r ih =>
   intro A j h i hi;unfold ug at h;cases i with
   | zero=>exact h.1
   | succ i =>
     have:=ih A (j+1) h.2 i (by simpa using hi);rw [show j+(i+1)=j+1+i by omega];exact this
theorem ug.of (l:List Tr):∀ (A:Option Addr) (j:Nat),(∀ i (h:i < l.length),∃ ad s K,A=some ad/\ad.block < w.heap.size/\p ad.block/\zah w (ad.add ((j+i) * 9)) l[i].d s K/\TrV w p l[i] (ndV l[i].d s K))->ug w p l A j:=by
 induction l with
 | nil=>intro A j h; unfold ug; trivial
 | cons t r ih =>
   intro A j h;unfold ug;refine ⟨h 0 (by simp),ih A (j+1) fun i hi=>?_⟩;have:=h (i+1) (by simpa using hi);rw [show j+(i+1)=j+1+i by omega] at this;exact this
theorem zah.ext {ad:Addr} {d:Nd} {s A:Value} (h:zah w ad d s A) (hx:Ext w w') (hb:ad.block < w.heap.size):zah w' ad d s A:=by
 obtain ⟨h0,h1,h2,h3,h4,h5,h6,h7,h8⟩:=h;have k:∀ n,(⟨ad.block,ad.off+n,none⟩:Addr).block < w.heap.size:=fun n=>hb
 exact ⟨(hx.cell hb).trans h0,(hx.cell (k _)).trans h1,(hx.cell (k _)).trans h2,(hx.cell (k _)).trans h3,(hx.cell (k _)).trans h4,(hx.cell (k _)).trans h5,(hx.cell (k _)).trans h6,(hx.cell (k _)).trans h7,(hx.cell (k _)).trans h8⟩
mutual
theorem TrV.turn (hs : w.heap.size <= w'.heap.size) (hp : ∀ b, p b -> q b) (hn : ∀ v ds, ja w v ds -> ja w' v ds) (hc : ∀ (ad : Addr) d s A, ad.block < w.heap.size -> p ad.block -> zah w ad d s A -> zah w' ad d s A) : ∀ (t : Tr) (v : Value), TrV w p t v -> TrV w' q t v
 | .mk d ks,v,h=>by
   unfold TrV at h ⊢;obtain ⟨s,A,c,e,h1,h2,h3,h4⟩:=h;exact ⟨s,A,c,e,hn _ _ h1,h2,h3,ug.turn hs hp hn hc ks A 0 h4⟩
theorem ug.turn (hs : w.heap.size <= w'.heap.size) (hp : ∀ b, p b -> q b) (hn : ∀ v ds, ja w v ds -> ja w' v ds) (hc : ∀ (ad : Addr) d s A, ad.block < w.heap.size -> p ad.block -> zah w ad d s A -> zah w' ad d s A) : ∀ (l : List Tr) (A : Option Addr) (j : Nat), ug w p l A j -> ug w' q l A j
 | [],A,j,h=>by unfold ug; trivial
 | t :: r,A,j,h=>by
   unfold ug at h ⊢;obtain ⟨⟨ad,s,K,e,hb,hpb,h1,h2⟩,h3⟩:=h;exact ⟨⟨ad,s,K,e,Nat.lt_of_lt_of_le hb hs,hp _ hpb,hc _ _ _ _ (by rw [jb]; exact hb) (by rw [jb]; exact hpb) h1,TrV.turn hs hp hn hc t _ h2⟩,ug.turn hs hp hn hc r A (j+1) h3⟩
end
theorem TrV.ext {t:Tr} {v:Value} (h:TrV w p t v) (hx:Ext w w'):TrV w' p t v:=TrV.turn hx.size (fun _ h=>h) (fun _ _ h=>h.ext hx) (fun _ _ _ _ hb _ h=>h.ext hx hb) t v h
theorem ug.ext {l:List Tr} {A:Option Addr} {j:Nat} (h:ug w p l A j) (hx:Ext w w'):ug w' p l A j:=ug.turn hx.size (fun _ h=>h) (fun _ _ h=>h.ext hx) (fun _ _ _ _ hb _ h=>h.ext hx hb) l A j h
theorem TrV.mono {t:Tr} {v:Value} (h:TrV w p t v) (hp:∀ b,p b->q b):TrV w q t v:=TrV.turn (Nat.le_refl _) hp (fun _ _ h=>h) (fun _ _ _ _ _ _ h=>h) t v h
theorem TrV.open_ {t:Tr} {v:Value} (h:TrV w p t v):∃ A0 n0 c0 A c,v=ndV t.d (.slice A0 n0 c0) (.slice A t.ks.length c)/\ja w (.slice A0 n0 c0) t.d.ds/\t.ks.length<=c/\c<=9223372036854775807/\ug w p t.ks A 0:=by
 cases t with
 | mk d ks =>
   unfold TrV at h;obtain ⟨s,A,c,e,⟨A0,c0,rfl,hd⟩,h2,h3,h4⟩:=h;exact ⟨A0,_,c0,A,c,e,⟨A0,c0,rfl,hd⟩,h2,h3,h4⟩
theorem TrV.mk {t:Tr} {s:Value} {A:Option Addr} {c:Nat} (h1:ja w s t.d.ds) (h2:t.ks.length<=c) (h3:c<=9223372036854775807) (h4:ug w p t.ks A 0):TrV w p t (ndV t.d s (.slice A t.ks.length c)):=by
 cases t with
 | mk d ks=>unfold TrV; exact ⟨s,A,c,rfl,h1,h2,h3,h4⟩
theorem ug.kid {l:List Tr} {A:Option Addr} (h:ug w p l A 0) (k:Nat) (hk:k < l.length):∃ ad A0 n0 c0 A1 n1 c1,A=some ad/\ad.block < w.heap.size/\zah w (ad.add (k * 9)) l[k].d (.slice A0 n0 c0) (.slice A1 n1 c1)/\TrV w p l[k] (ndV l[k].d (.slice A0 n0 c0) (.slice A1 n1 c1)):=by
 obtain ⟨ad,s,K,e,hb,-,h1,h2⟩:=ug.get_ l A 0 h k hk;rw [Nat.zero_add] at h1;obtain ⟨A0,n0,c0,A1,c1,e2,-,-⟩:=h2.open_;unfold ndV at e2;simp only [Value.agg.injEq,Array.mk.injEq,List.cons.injEq,and_true,true_and] at e2;obtain ⟨rfl,rfl⟩:=e2;exact ⟨ad,A0,n0,c0,A1,_,c1,e,hb,h1,h2⟩
end
end Go.Proofs.YtheefiaoimbeiaaGreatDoor

/- Layer 34: trees of a call's own: each row of kids lies in a block of its own, in an interval of blocks. -/
namespace Go.Proofs.YtheefiaoimbeiaaGreatDoor
open Go.RowKit
section
variable {w w':World}
end
end Go.Proofs.YtheefiaoimbeiaaGreatDoor

/- Layer 22: recursive polynomials as values. -/
namespace Go.Proofs.YtheefiaoimbeiaaGreatDoor
open Go.RowKit
def plV (p:Pl) (s A:Value):Value:=.agg #[.int .i64 p.lv,.bool p.neg,s,A]
def qad (w:World) (ad:Addr) (p:Pl) (s A:Value):Prop:=
 w.cell? ad=some (.int .i64 p.lv)/\w.cell? ⟨ad.block,ad.off+1,none⟩=some (.bool p.neg)/\w.cell? ⟨ad.block,ad.off+2,none⟩=some s/\w.cell? ⟨ad.block,ad.off+3,none⟩=some A
mutual
def PlV (w : World) (q : Nat -> Prop) : Pl -> Value -> Prop
 | .mk l n d cs,v=>∃ s A c,v=.agg #[.int .i64 l,.bool n,s,.slice A cs.length c]/\ja w s d/\cs.length<=c/\c<=9223372036854775807/\jf w q cs A 0
def jf (w : World) (q : Nat -> Prop) : List Pl -> Option Addr -> Nat -> Prop
 | [],_,_=>True
 | t :: r,A,j=>(∃ ad s K,A=some ad/\ad.block < w.heap.size/\q ad.block/\qad w (ad.add (j * 4)) t s K/\PlV w q t (plV t s K))/\jf w q r A (j+1)
end
section
variable {w w':World} {p q:Nat->Prop}
theorem jf.get_ (l:List Pl):∀ (A:Option Addr) (j:Nat),jf w p l A j->∀ i (h:i < l.length),∃ ad s K,A=some ad/\ad.block < w.heap.size/\p ad.block/\qad w (ad.add ((j+i) * 4)) l[i] s K/\PlV w p l[i] (plV l[i] s K):=by
 induction l with
 | nil=>intro A j h i hi; simp at hi
 | cons t r ih =>
   intro A j h i hi;unfold jf at h;cases i with
   | zero=>exact h.1
   | succ i =>
     have:=ih A (j+1) h.2 i (by simpa using hi);rw [show j+(i+1)=j+1+i by omega];exact this
theorem jf.of (l:List Pl):∀ (A:Option Addr) (j:Nat),(∀ i (h:i < l.length),∃ ad s K,A=some ad/\ad.block < w.heap.size/\p ad.block/\qad w (ad.add ((j+i) * 4)) l[i] s K/\PlV w p l[i] (plV l[i] s K))->jf w p l A j:=by
 induction l with
 | nil=>intro A j h; unfold jf; trivial
 | cons t r ih =>
   intro A j h;unfold jf;refine ⟨h 0 (by simp),ih A (j+1) fun i hi=>?_⟩;have:=h (i+1) (by simpa using hi);rw [show j+(i+1)=j+1+i by omega] at this;exact this
theorem qad.same {ad:Addr} {t:Pl} {s A:Value} (h:qad w ad t s A) (k0:w'.cell? ad=w.cell? ad) (k:∀ n,n < 4->w'.cell? ⟨ad.block,ad.off+n,none⟩=w.cell? ⟨ad.block,ad.off+n,none⟩):qad w' ad t s A:=by
 obtain ⟨h0,h1,h2,h3⟩:=h;exact ⟨k0.trans h0,(k 1 (by omega)).trans h1,(k 2 (by omega)).trans h2,(k 3 (by omega)).trans h3⟩
theorem qad.ext {ad:Addr} {t:Pl} {s A:Value} (h:qad w ad t s A) (hx:Ext w w') (hb:ad.block < w.heap.size):qad w' ad t s A:=h.same (hx.cell hb) (fun n _=>hx.cell (p:=⟨ad.block,ad.off+n,none⟩) hb)
mutual
theorem PlV.turn (hs : w.heap.size <= w'.heap.size) (hn : ∀ v ds, ja w v ds -> ja w' v ds) (hc : ∀ b, b < w.heap.size -> p b -> q b /\ w'.heap[b]? = w.heap[b]?) : ∀ (t : Pl) (v : Value), PlV w p t v -> PlV w' q t v
 | .mk l n d cs,v,h=>by
   unfold PlV at h ⊢;obtain ⟨s,A,c,e,h1,h2,h3,h4⟩:=h;exact ⟨s,A,c,e,hn _ _ h1,h2,h3,jf.turn hs hn hc cs A 0 h4⟩
theorem jf.turn (hs : w.heap.size <= w'.heap.size) (hn : ∀ v ds, ja w v ds -> ja w' v ds) (hc : ∀ b, b < w.heap.size -> p b -> q b /\ w'.heap[b]? = w.heap[b]?) : ∀ (l : List Pl) (A : Option Addr) (j : Nat), jf w p l A j -> jf w' q l A j
 | [],A,j,h=>by unfold jf; trivial
 | t :: r,A,j,h=>by
   unfold jf at h ⊢;obtain ⟨⟨ad,s,K,e,hb,hpb,h1,h2⟩,h3⟩:=h;obtain ⟨hq,hk⟩:=hc _ hb hpb;exact ⟨⟨ad,s,K,e,Nat.lt_of_lt_of_le hb hs,hq,h1.same (World.cell?_of_block (by rw [jb]; exact hk)) (fun n _=>World.cell?_of_block (a:=⟨(ad.add (j * 4)).block,(ad.add (j * 4)).off+n,none⟩) (by show w'.heap[(ad.add (j * 4)).block]?=_; rw [jb]; exact hk)),PlV.turn hs hn hc t _ h2⟩,jf.turn hs hn hc r A (j+1) h3⟩
end
theorem PlV.turn_ {t:Pl} {v:Value} (hs:w.heap.size<=w'.heap.size) (hn:∀ v ds,ja w v ds->ja w' v ds) (hc:∀ b,b < w.heap.size->p b->q b/\w'.heap[b]?=w.heap[b]?) (h:PlV w p t v):PlV w' q t v:=PlV.turn hs hn hc t v h
theorem PlV.ext {t:Pl} {v:Value} (h:PlV w p t v) (hx:Ext w w'):PlV w' p t v:=PlV.turn hx.size (fun _ _ h=>h.ext hx) (fun b hb hp=>⟨hp,hx.below.block b hb⟩) t v h
theorem jf.ext {l:List Pl} {A:Option Addr} {j:Nat} (h:jf w p l A j) (hx:Ext w w'):jf w' p l A j:=jf.turn hx.size (fun _ _ h=>h.ext hx) (fun b hb hp=>⟨hp,hx.below.block b hb⟩) l A j h
theorem PlV.mono {t:Pl} {v:Value} (h:PlV w p t v) (hp:∀ b,p b->q b):PlV w q t v:=PlV.turn (Nat.le_refl _) (fun _ _ h=>h) (fun b _ h=>⟨hp b h,rfl⟩) t v h
theorem PlV.open_ {t:Pl} {v:Value} (h:PlV w p t v):∃ A0 n0 c0 A c,v=plV t (.slice A0 n0 c0) (.slice A t.cs.length c)/\ja w (.slice A0 n0 c0) t.ds/\t.cs.length<=c/\c<=9223372036854775807/\jf w p t.cs A 0:=by
 cases t with
 | mk l n d cs =>
   unfold PlV at h;obtain ⟨s,A,c,e,⟨A0,c0,rfl,hd⟩,h2,h3,h4⟩:=h;exact ⟨A0,_,c0,A,c,e,⟨A0,c0,rfl,hd⟩,h2,h3,h4⟩
theorem PlV.mk {t:Pl} {s:Value} {A:Option Addr} {c:Nat} (h1:ja w s t.ds) (h2:t.cs.length<=c) (h3:c<=9223372036854775807) (h4:jf w p t.cs A 0):PlV w p t (plV t s (.slice A t.cs.length c)):=by
 cases t with
 | mk l n d cs=>unfold PlV; exact ⟨s,A,c,rfl,h1,h2,h3,h4⟩
theorem jf.kid {l:List Pl} {A:Option Addr} (h:jf w p l A 0) (k:Nat) (hk:k < l.length):∃ ad A0 n0 c0 A1 n1 c1,A=some ad/\ad.block < w.heap.size/\qad w (ad.add (k * 4)) l[k] (.slice A0 n0 c0) (.slice A1 n1 c1)/\PlV w p l[k] (plV l[k] (.slice A0 n0 c0) (.slice A1 n1 c1)):=by
 obtain ⟨ad,s,K,e,hb,-,h1,h2⟩:=jf.get_ l A 0 h k hk;rw [Nat.zero_add] at h1;obtain ⟨A0,n0,c0,A1,c1,e2,-,-⟩:=h2.open_;unfold plV at e2;simp only [Value.agg.injEq,Array.mk.injEq,List.cons.injEq,and_true,true_and] at e2;obtain ⟨rfl,rfl⟩:=e2;exact ⟨ad,A0,n0,c0,A1,_,c1,e,hb,h1,h2⟩
end
def ql (w:World) (g:Nat) (p:Pl) (s A:Value):Prop:=
 w.cell? ⟨g,0,none⟩=some (.int .i64 p.lv)/\w.cell? ⟨g,1,none⟩=some (.bool p.neg)/\w.cell? ⟨g,2,none⟩=some s/\w.cell? ⟨g,3,none⟩=some A
theorem ql.turn {w w':World} {g:Nat} {p:Pl} {s A:Value} (h:ql w g p s A) (hb:w'.heap[g]?=w.heap[g]?):ql w' g p s A:=by
 obtain ⟨h0,h1,h2,h3⟩:=h;have k:∀ i,w'.cell? ⟨g,i,none⟩=w.cell? ⟨g,i,none⟩:=fun i=>World.cell?_of_block (a:=⟨g,i,none⟩) hb
 exact ⟨(k _).trans h0,(k _).trans h1,(k _).trans h2,(k _).trans h3⟩
theorem ql.ext {w w':World} {g:Nat} {p:Pl} {s A:Value} (h:ql w g p s A) (hx:Ext w w') (hg:g < w.heap.size):ql w' g p s A:=h.turn (hx.below.block g hg)
theorem ql.new (w:World) (p:Pl) (s A:Value) (T:TypeId):ql (w.alloc (.cells #[.int .i64 p.lv,.bool p.neg,s,A] T)) w.heap.size p s A:=by
 refine ⟨?_,?_,?_,?_⟩ <;> simp [go_sem]
end Go.Proofs.YtheefiaoimbeiaaGreatDoor

/- The builtin append where the two slices' types have different names. -/
namespace Go.Proofs.YtheefiaoimbeiaaGreatDoor
open Go.RowKit
section
variable {P:Program} {w:World}
theorem wpList_append_run {ops : Array Oper} {rest : List Oper} {o : Oper} {a : Act} {Q : Exit -> Act -> World -> Prop} (hgd : o.guard = none) (s x : Operand) (t t' : TypeId)
 (ho:o.op=.call { callee:=.builtin .append,args:=#[s,x],argTypes:=#[t,t'] }) (vs vx v':Value) (w':World) (hs:a.eval s=vs) (hx:a.eval x=vx) (hr:(Builtin.append_ #[t,t'] o.type #[vs,vx]).run P w=.ok v' w')
 (h:wpList P ops Q rest (a.put o.dst v') w'):wpList P ops Q (o :: rest) a w:=by
 refine wpList_plain hgd fun K hK=>?_
 unfold Oper.wp execOp;simp only [ho,resolve,invoke,builtin,Sem.run_bind,Sem.run_pure,Result.andThen_ok,List.map_toArray,List.map_cons,List.map_nil,hs,hx,hr];exact hK _ _ h
theorem wam {ops : Array Oper} {o : Oper} {a : Act} {K : Act -> World -> Prop} {Q : Exit -> Act -> World -> Prop} {E : Prop} (hg : o.guard = none) (s x : Operand) (t t' : TypeId)
 (hop:o.op=.call { callee:=.builtin .append,args:=#[s,x],argTypes:=#[t,t'] }) (vs vx v':Value) (w':World) (hs:a.eval s=vs) (hx:a.eval x=vx) (hr:(Builtin.append_ #[t,t'] o.type #[vs,vx]).run P w=.ok v' w')
 (hK:K (a.put o.dst v') w'):if Region.wanted o (yielded ops a.tmps)=true then Oper.wp P o a w K Q else E:=by
 have hw:Region.wanted o (yielded ops a.tmps)=true:=by simp [Region.wanted,hg]
 rw [if_pos hw];unfold Oper.wp;simp [execOp,hop,resolve,invoke,builtin,hs,hx,hr,Result.andThen];exact hK
end
end Go.Proofs.YtheefiaoimbeiaaGreatDoor

/- Growing rows of the call's own, of any type of element that holds no digits. -/
set_option maxRecDepth 100000
set_option maxHeartbeats 8000000
namespace Go.Proofs.YtheefiaoimbeiaaGreatDoor
open Go.RowKit
def wa2 (W:World) (v:Value):Prop:=∀ R cur T fr,v.ownBlock=some R->W.heap[R]?=some (.cells cur T fr)->∀ u ∈ cur.toList,uu u=false
theorem xbx {W W':World} {v s:Value} {ds:List Nat} (h:ja W s ds) (hg:W.grownBy W' v.ownBlock) (hn:wa2 W v) (hr:∀ R,v.ownBlock=some R->∃ cur T fr,W.heap[R]?=some (.cells cur T fr)):ja W' s ds:=by
 obtain ⟨A,c,e,h1,h2,h3,h4⟩:=h;refine ⟨A,c,e,h1,h2,h3,fun hd=>?_⟩;obtain ⟨ad,e4,hlt,hc⟩:=h4 hd;refine ⟨ad,e4,Nat.lt_of_lt_of_le hlt hg.size,fun j hj=>?_⟩;have hne:v.ownBlock ≠ some ad.block:=fun e=>by
  obtain ⟨cur,T,fr,hb⟩:=hr _ e;have h0:=hc 0 hd;rw [World.cell?,jb,hb] at h0;have hmem:∃ k:Nat,cur[k]?=some (.int .u32 (ds[0]:Nat)):=by
   revert h0
   simp only
   split <;> intro h0
   · cases h0
   · exact ⟨_,h0⟩
  obtain ⟨k,hk⟩:=hmem;have:=hn _ _ _ _ e hb (.int .u32 (ds[0]:Nat)) (by
   obtain ⟨hk1,hk2⟩:=Array.getElem?_eq_some_iff.1 hk
   rw [<- hk2]; simp)
  cases this
 exact (World.cell?_of_block (a:=ad.add j) (by rw [jb]; exact World.grownBy.block hg _ hlt (fun e=>hne e.symm))).trans (hc j hj)
theorem ubp {W:World} {base size n:Nat} {e:TypeId} {v:Value} {xs:List Value} (h:W.ownsRow base e size v n xs):∀ R,v.ownBlock=some R->∃ cur T fr,W.heap[R]?=some (.cells cur T fr):=by
 intro R hR;obtain ⟨-,⟨rfl,-⟩ | ⟨g,cap,cur,rfl,-,hg,-⟩⟩:=h
 · cases hR
 · have:g=R:=by simpa [Value.ownBlock] using hR
   subst this;exact ⟨cur,_,_,hg⟩
theorem wa2.ext {W W':World} {v:Value} (h:wa2 W v) (hx:∀ R,v.ownBlock=some R->W'.heap[R]?=W.heap[R]?):wa2 W' v:=fun R cur T fr e hb=>h R cur T fr e ((hx R e).symm.trans hb)
structure yas (S T : TypeId) (k bytes : Nat) (Z : Value) : Prop where
 und:Tryz.prog.underlying S=some (.slice T)
 info:(Tryz.prog.info? T).map (fun i=>(i.zero,i.size,i.bytes))=some (some Z,k,bytes)
 cells:Z.cells.size=k
 pos:0 < k
 nodig:∀ u ∈ Z.cells.toList,uu u=false
theorem zbo {S T:TypeId} {k bytes:Nat} {Z:Value} (R:yas S T k bytes Z) (n:Nat):∀ u ∈ (Builtin.zeroCells Z.cells n).toList,uu u=false:=by
 intro u hu;unfold Builtin.zeroCells at hu;simp only [Array.toList_map,List.mem_map] at hu;obtain ⟨i,-,rfl⟩:=hu;have hp:=R.pos;have hlt:i % Z.cells.size < Z.cells.size:=Nat.mod_lt _ (by rw [R.cells]; exact hp);rw [getElem!_pos Z.cells (i % Z.cells.size) hlt];exact R.nodig _ (by simp)
def yj (T k base:Nat) (W:World) (v:Value) (n:Nat) (xs:List Value):Prop:=W.ownsRow base T k v n xs/\wa2 W v
theorem yj.nil (T k base:Nat) (W:World):yj T k base W (.slice none 0 0) 0 []:=⟨World.ownsRow_nil _ _ _ _,fun R _ _ _ e=>by cases e⟩
section
variable {T k base base':Nat} {W W':World} {v:Value} {n:Nat} {xs:List Value}
theorem yj.own (h:yj T k base W v n xs) {R:Nat} (hR:v.ownBlock=some R):base<=R/\R < W.heap.size:=World.ownsRow.lt h.1 R hR
theorem yj.len (h:yj T k base W v n xs):∃ A c,v=.slice A n c/\n<=c/\c<=9223372036854775807:=by
 obtain ⟨h3,⟨rfl,h0⟩ | ⟨g,cap,cur,rfl,hb,hg,hc,hm,-⟩⟩:=h.1
 · exact ⟨none,0,by rw [h0],by omega,by omega⟩
 · exact ⟨some ⟨g,0,none⟩,cap,rfl,hc,by unfold maxLen at hm; omega⟩
theorem yj.pos (h:yj T k base W v n xs) (hn:0 < n):∃ g c,v=.slice (some ⟨g,0,none⟩) n c/\n<=c/\c<=9223372036854775807/\base<=g/\g < W.heap.size/\∀ i,W.frozen? ⟨g,i,none⟩=false:=by
 obtain ⟨h3,⟨rfl,h0⟩ | ⟨g,cap,cur,rfl,hb,hg,hc,hm,-⟩⟩:=h.1
 · omega
 · exact ⟨g,cap,rfl,hc,by unfold maxLen at hm; omega,hb,(Array.getElem?_eq_some_iff.1 hg).1,fun i=>by simp [World.frozen?,hg]⟩
theorem yj.turn (h:yj T k base W v n xs) (hb:∀ R,v.ownBlock=some R->W'.heap[R]?=W.heap[R]?):yj T k base W' v n xs:=by
 obtain ⟨⟨h1,h2⟩,h3⟩:=h;refine ⟨⟨h1,?_⟩,h3.ext hb⟩;rcases h2 with h2 | ⟨g,cap,cur,rfl,hbg,hg,h6⟩
 · exact .inl h2
 · exact .inr ⟨g,cap,cur,rfl,hbg,(hb g rfl).trans hg,h6⟩
theorem yj.ext (h:yj T k base W v n xs) (hx:Ext W W'):yj T k base W' v n xs:=h.turn fun R hR=>hx.below.block R (h.own hR).2
theorem yj.cell {g c:Nat} (h:yj T k base W (.slice (some ⟨g,0,none⟩) n c) n xs) (j:Nat) (hj:j < n * k):W.cell? ⟨g,j,none⟩=xs[j]?:=World.ownsRow.cellAt h.1 j hj
end
theorem yj.append {S T : TypeId} {k bytes : Nat} {Z : Value} (R : yas S T k bytes Z) {base : Nat} {W : World} {ov : Value} {n : Nat} {xs : List Value} (h : yj T k base W ov n xs) (hbase : base <= W.heap.size) (a : Addr) (m c : Nat) (news : List Value)
 (hnl:news.length=m * k) (hnc:∀ j u,news[j]?=some u->W.cell? (a.add j)=some u) (h1:∀ u ∈ news,u.oneCell'=true/\uu u=false) (hm:0 < m) (hlen:(n+m) * bytes<=140737488355328) (hlen2:n+m<=140737488355328) (ty:TypeId) :
 ∃ v4 w4,(Builtin.append_ #[S,S] ty #[ov,.slice (some a) m c]).run Tryz.prog W=.ok v4 w4/\yj T k base w4 v4 (n+m) (xs ++ news)/\W.grownBy w4 ov.ownBlock/\(∀ v ds,ja W v ds->ja w4 v ds)/\(v4.ownBlock=ov.ownBlock\/v4.ownBlock=some W.heap.size):=by
 obtain ⟨o1,hnd⟩:=h;obtain ⟨i0,hi,hz0,hz1,hz2⟩:=info_parts R.info;have hk:=R.pos;obtain ⟨v4,w4,hrun,r1,r2,-,r3⟩:=run_append_own_at (P:=Tryz.prog) W base S ty T i0 Z k bytes R.und hi hz0 hz1 hz2 R.cells hk ov n xs o1 a m c news hnl hnc (fun u hu=>(h1 u hu).1) (by unfold maxLen; omega) hlen hbase;refine ⟨v4,w4,hrun,⟨r1,?_⟩,r2,fun v ds hv=>xbx hv r2 hnd (ubp o1),r3⟩;have fin:∀ (xs:List Value) (q:Nat) (w5:World) (l cap:Nat),(∀ u ∈ xs,uu u=false)->w5.heap.size=W.heap.size->wa2 (w5.alloc (.cells (xs.toArray ++ news.toArray ++ Builtin.zeroCells Z.cells q) T)) (.slice (some ⟨W.heap.size,0,none⟩) l cap):=by
  intro xs q w5 l cap hxs h5 R' cur T' fr hR hb u hu;have hR':W.heap.size=R':=by simpa [Value.ownBlock] using hR
  rw [<- hR',<- h5,heap_alloc_new] at hb;injection hb with hb
  injection hb with hb
  rw [<- hb] at hu;simp only [Array.toList_append,List.mem_append] at hu;rcases hu with (hu | hu) | hu
  · exact hxs u hu
  · exact (h1 u hu).2
  · exact zbo R q u hu
 have hold:∀ g cur,ov.ownBlock=some g->W.heap[g]?=some (.cells cur T (0,0))->∀ u ∈ cur.toList,uu u=false:=fun g cur e hb=>hnd g cur _ _ e hb
 have hone:m<=m * bytes\/bytes=0:=by
  rcases Nat.eq_zero_or_pos bytes with h | h
  · exact .inr h
  · exact .inl (Nat.le_mul_of_pos_right _ h)
 rcases o1.2 with ⟨rfl,hn0⟩ | ⟨g,cap,cur,rfl,hbg,hg,hncap,hcm,hcs,htake⟩
 · subst hn0;have hr:=run_append_nil (P:=Tryz.prog) W S ty T i0 _ R.und hi hz0 a m c news (by rw [hz1]; exact hnl) hnc hm (by omega) (by rw [hz2]; rw [Nat.zero_add] at hlen; omega);rw [hrun] at hr;injection hr with e1 e2
   subst e1 e2;have:=fin [] (grownCap W m 0 T - m) W.drew m (grownCap W m 0 T) (by simp) rfl;simpa using this
 · by_cases hroom:n+m<=cap
   · have hfit:n * k+news.length<=cur.size:=by
      rw [hcs,hnl,<- Nat.add_mul];exact Nat.mul_le_mul_right _ hroom
     have hr:=run_append_room (P:=Tryz.prog) W S ty T i0 R.und hi g n cap cur hg a m c news (by rw [hz1]; exact hnl) hnc (fun u hu=>(h1 u hu).1) hroom (by rw [hz1]; exact hfit);rw [hrun] at hr;injection hr with e1 e2
     subst e1 e2;intro R' cur' T' fr hR hb u hu;have hR':g=R':=by simpa [Value.ownBlock] using hR
     rw [<- hR',setRow_heap W g cur _ _ _ hg] at hb;injection hb with hb
     injection hb with hb
     rw [<- hb] at hu;simp only [List.mem_append] at hu;rcases hu with (hu | hu) | hu
     · exact hold g cur rfl hg u (List.mem_of_mem_take hu)
     · exact (h1 u hu).2
     · exact hold g cur rfl hg u (List.mem_of_mem_drop hu)
   · have hr:=run_append_grow (P:=Tryz.prog) W S ty T i0 _ R.und hi hz0 ⟨g,0,none⟩ n cap xs (by rw [hz1]; exact o1.1) (o1.cells (g:=g) rfl) a m c news (by rw [hz1]; exact hnl) hnc (by omega) (by omega) (growslice_fits (by omega) (by rw [hz2]; exact hlen));rw [hrun] at hr;injection hr with e1 e2
     subst e1 e2;exact fin xs _ W.drew _ _ (fun u hu=>hold g cur rfl hg u (List.mem_of_mem_take (by rw [htake]; exact hu))) rfl
theorem yj.push {S T : TypeId} {k bytes : Nat} {Z : Value} (R : yas S T k bytes Z) {base : Nat} {W : World} {ov : Value} {n : Nat} {xs : List Value} (h : yj T k base W ov n xs) (hbase : base <= W.heap.size) (news : List Value)
 (hnl:news.length=k) (h1:∀ u ∈ news,u.oneCell'=true/\uu u=false) (hlen:(n+1) * bytes<=140737488355328) (hlen2:n+1<=140737488355328) (ty:TypeId) :
 ∃ v4 w4,(Builtin.append_ #[S,S] ty #[ov,.slice (some ⟨W.heap.size,0,none⟩) 1 1]).run Tryz.prog (W.alloc (.cells news.toArray T))=.ok v4 w4/\yj T k base w4 v4 (n+1) (xs ++ news)/\W.grownBy w4 ov.ownBlock/\(∀ v ds,ja W v ds->ja w4 v ds)/\(v4.ownBlock=ov.ownBlock\/v4.ownBlock=some (W.heap.size+1)):=by
 have hx:Ext W (W.alloc (.cells news.toArray T)):=(Ext.refl W).alloc _;obtain ⟨v4,w4,e,h2,h3,h4,h5⟩:=yj.append R (h.ext hx) (by have:=hx.size; omega) ⟨W.heap.size,0,none⟩ 1 1 news (by omega) (fun j u hu=>by
  rw [yx,Nat.zero_add,cell_of_row _ _ j _ _ (0,0) (heap_alloc_new W _)]; simpa using hu) h1 (by omega) hlen hlen2 ty
 refine ⟨v4,w4,e,h2,⟨h3.os.trans hx.below.os,h3.tape.trans hx.below.tape,h3.output.trans hx.below.output,Nat.le_trans hx.size h3.size,fun i hi hne=>(World.grownBy.block h3 i (Nat.lt_of_lt_of_le hi hx.size) hne).trans (hx.below.block i hi)⟩,fun v ds hv=>h4 v ds (hv.ext hx),?_⟩
 rwa [World.size_alloc] at h5
end Go.Proofs.YtheefiaoimbeiaaGreatDoor

/- Layer 20: sums of terms as values. -/
namespace Go.Proofs.YtheefiaoimbeiaaGreatDoor
open Go.RowKit
section
variable {w w':World} {k:Option Nat} {x:Value} {z:Int}
end
section
variable {k:Option Nat} {base base':Nat} {W W':World} {v:Value} {l:Sp}
end
end Go.Proofs.YtheefiaoimbeiaaGreatDoor

/- Layer 22: recpoly.isLevel, isZero, isCanonical. -/
set_option maxRecDepth 100000
set_option maxHeartbeats 8000000
namespace Go.Proofs.YtheefiaoimbeiaaGreatDoor
open Go.RowKit
theorem jav (l:Int) (w:World):Calls Tryz.prog 132 #[.int .i64 l] w fun e w'=>e=.returned (.bool (decide (1<=l) && decide (l<=4)))/\w'=w:=by
 by_cases h:1<=l
 · go_enter Tryz.func132,Tryz.ntmps132;go_wp2_with fail;go_ret;simp [h]
 · go_enter Tryz.func132,Tryz.ntmps132;go_wp2_with fail;go_ret;have h':l < 1:=by omega
   simp [h]; omega
theorem uah {w:World} {q:Nat->Prop} (p:Pl) (v:Value) (h:PlV w q p v):Calls Tryz.prog 146 #[v] w fun e w'=>e=.returned (.bool p.isZ)/\Ext w w':=by
 obtain ⟨A0,n0,c0,A,c,rfl,⟨A0',c0',e,-,-,-⟩,hl1,hl2,h4⟩:=h.open_;injection e with e1 e2 e3
 subst e1 e2 e3;have HX:Hid (∀ o,Ext w (w.alloc o)):=fun o=>(Ext.refl w).alloc o
 unfold plV Pl.isZ;clear h h4
 by_cases hl:p.lv=0
 · go_enter Tryz.func146,Tryz.ntmps146;go_wp2_with fail;go_ret;exact ⟨by simp [hl]; cases p.ds <;> simp <;> omega,HX.out _⟩
 · go_enter Tryz.func146,Tryz.ntmps146;go_wp2_with fail;go_ret;exact ⟨by simp [hl],HX.out _⟩
def jcu (w0:World) (q:Nat->Prop) (n:Nat):Prop:=∀ (p:Pl) (v:Value) (w:World),p.sz < n->PlV w0 q p v->Ext w0 w->Calls Tryz.prog 127 #[v] w fun e w'=>e=.returned (.bool p.isCan)/\Ext w w'
theorem yby {w0 w:World} {q:Nat->Prop} (p:Pl) (v:Value) (h:PlV w0 q p v) (hx0:Ext w0 w) (hl:p.lv=0):Calls Tryz.prog 127 #[v] w fun e w'=>e=.returned (.bool p.isCan)/\Ext w w':=by
 obtain ⟨A0,n0,c0,A,c,rfl,⟨A0',c0',e,hd1,hd2,hd⟩,hl1,hl2,h4⟩:=h.open_;injection e with e1 e2 e3
 subst e1 e2 e3;obtain ⟨l,ng,ds,cs⟩:=p
 change l=0 at hl
 subst hl;have HX:Hid (∀ o,Ext w (w.alloc o)):=fun o=>(Ext.refl w).alloc o
 have HDX:Hid (jk (w.alloc (.cells #[.int .i64 0,.bool ng,.slice A0 ds.length c0,.slice A cs.length c] 44)) A0 ds):=hd.ext (hx0.trans ((Ext.refl w).alloc _));simp only [Pl.cs,Pl.ds,Pl.lv,Pl.neg,plV] at *;clear h h4 hd
 by_cases hc:0 < cs.length
 · have HF:Hid ((Pl.mk 0 ng ds cs).isCan=false):=by
    have:(Pl.mk 0 ng ds cs).isCan=false:=by rw [Pl.isCan,if_pos rfl,if_pos hc]
    exact this
   go_enter Tryz.func127,Tryz.ntmps127;go_wp2_with fail;go_ret;exact ⟨by rw [HF.out]; rfl,HX.out _⟩
 · have HF:Hid ((Pl.mk 0 ng ds cs).isCan=((decide (ds.length=0) && !ng) || (decide (0 < ds.length) && decide (ds.getLast? ≠ some 0)))):=by
    have:(Pl.mk 0 ng ds cs).isCan=((decide (ds.length=0) && !ng) || (decide (0 < ds.length) && decide (ds.getLast? ≠ some 0))):=by rw [Pl.isCan,if_pos rfl,if_neg hc]
    exact this
   by_cases hds:0 < ds.length
   · obtain ⟨ad,x,rfl,hb,hcell,hx,HG⟩:=HDX.out.get_ (ds.length - 1) (by omega);obtain ⟨k,hk⟩:∃ k:Nat,ds.length - 1=k:=⟨_,rfl⟩;have hk2:ds.length=k+1:=by omega
     rw [hk] at hcell HG;have HG2:Hid (ds.getLast?=some x):=by
      have:ds.getLast?=some x:=by rw [List.getLast?_eq_getElem?,hk]; exact HG.out
      exact this
     generalize ds.length=N at *;subst hk2;have hwr:IntKind.i64.wrap (((k+1:Nat):Int) - 1)=k:=by simp [IntKind.wrap,IntKind.bits,IntKind.signed]; omega
     go_enter Tryz.func127,Tryz.ntmps127;go_wp2_with fail;go_ret;exact ⟨by rw [HF.out,HG2.out]; simp; by_cases hx0:x=0 <;> simp [hx0] <;> omega,HX.out _⟩
   · have hN:ds.length=0:=by omega
     rw [hN] at HF HDX;rw [hN];cases ng
     · go_enter Tryz.func127,Tryz.ntmps127;go_wp2_with fail;go_ret;exact ⟨by rw [HF.out]; rfl,HX.out _⟩
     · go_enter Tryz.func127,Tryz.ntmps127;go_wp2_with fail;go_ret;exact ⟨by rw [HF.out]; rfl,HX.out _⟩
theorem vch (w0:World) (q:Nat->Prop) (n:Nat):jcu w0 q n:=by
 induction n with
 | zero=>intro p v w h; omega
 | succ n ih =>
 intro p v w hn h hx0
 by_cases hl:p.lv=0
 · exact yby p v h hx0 hl
 obtain ⟨A0,n0,c0,A,c,rfl,⟨A0',c0',e,hd1,hd2,hd⟩,hl1,hl2,h4⟩:=h.open_;injection e with e1 e2 e3
 subst e1 e2 e3;obtain ⟨l,ng,ds,cs⟩:=p;simp only [Pl.cs,Pl.ds,Pl.lv,Pl.neg,plV] at *;have IH:=Lib.hid ih;have H4:=Lib.hid h4;have HX0:=Lib.hid hx0;have HSZ:Hid (∀ k (hk:k < cs.length),cs[k].sz < n):=by
  have:∀ k (hk:k < cs.length),cs[k].sz < n:=fun k hk=>by
   have h1:=vax (List.getElem_mem hk);have h2:(Pl.mk l ng ds cs).sz=wad cs+1:=by rw [Pl.sz]
   omega
  exact this
 clear h h4 hd ih hx0;obtain ⟨W,hW⟩:=n_m (w.alloc (.cells #[.int .i64 l,.bool ng,.slice A0 ds.length c0,.slice A cs.length c] 44));have hWx:Ext w W:=by rw [<- hW]; exact (Ext.refl w).alloc _
 have hWs:W.heap.size=w.heap.size+1:=by rw [<- hW]; simp
 have hbx:ql W w.heap.size (.mk l ng ds cs) (.slice A0 ds.length c0) (.slice A cs.length c):=by rw [<- hW]; exact ql.new w (.mk l ng ds cs) _ _ _
 have HWX:=Lib.hid hWx;have HBX:=Lib.hid hbx;obtain ⟨b0,b1,b2,b3⟩:=hbx;simp only [Pl.lv,Pl.neg] at b0 b1;have hl0:(l == 0)=false:=by simpa using hl
 by_cases hg:(l < 1\/4 < l)\/0 < ds.length\/ng=true\/cs.length < 2
 · have HF:Hid ((Pl.mk l ng ds cs).isCan=false):=by
    have:(Pl.mk l ng ds cs).isCan=false:=by rw [Pl.isCan,if_neg hl,if_pos hg]
    exact this
   clear hWx;go_enter Tryz.func127,Tryz.ntmps127;go_wp2_with fail;refine (jav l _).mono ?_;rintro e w1 ⟨rfl,rfl⟩
   by_cases hg1:1<=l/\l<=4
   · have hg2:(decide (1<=l) && decide (l<=4))=true:=by simp [hg1]
     rw [hg2]
     by_cases hg3:0 < ds.length
     · have hg4:decide ((ds.length:Int) > 0)=true:=decide_eq_true (by omega);go_wp2_with fail;go_ret;exact ⟨by rw [HF.out]; rfl,HWX.out⟩
     · obtain rfl:ds=[]:=List.eq_nil_of_length_eq_zero (by omega);simp only [List.length_nil] at *;cases ng
       · have hg5:decide ((cs.length:Int) < 2)=true:=decide_eq_true (by
          have:cs.length < 2:=by
           rcases hg with h | h | h | h
           · omega
           · exact absurd h (by decide)
           · cases h
           · exact h
          omega)
         go_wp2_with fail;go_ret;exact ⟨by rw [HF.out]; rfl,HWX.out⟩
       · go_wp2_with fail;go_ret;exact ⟨by rw [HF.out]; rfl,HWX.out⟩
   · have hg2:(decide (1<=l) && decide (l<=4))=false:=by simp at hg1 ⊢; omega
     rw [hg2];go_wp2_with fail;go_ret;exact ⟨by rw [HF.out]; rfl,HWX.out⟩
 · have hg2:(decide (1<=l) && decide (l<=4))=true:=by simp; omega
   obtain rfl:ds=[]:=List.eq_nil_of_length_eq_zero (by omega);have hng:ng=false:=by
    cases ng
    · rfl
    · exact absurd (.inr (.inr (.inl rfl))) hg
   have hg5:decide ((cs.length:Int) < 2)=false:=decide_eq_false (by omega);have hlen:2<=cs.length:=by omega
   have HG:=Lib.hid hg;have HL:=Lib.hid hl;subst hng;clear hWx hg;simp only [List.length_nil] at *;go_enter Tryz.func127,Tryz.ntmps127;go_wp2_with fail;refine (jav l _).mono ?_;rintro e w1 ⟨rfl,rfl⟩;rw [hg2];go_wp2_with fail;clear hW b0 b1 b2 b3
   go_loopw [63] (fun iv wr=>∃ k:Nat,k<=cs.length/\iv=.int .i64 k/\Hid ((∀ c ∈ cs.take k,c.lv < l/\c.isCan=true)/\Ext w1 wr)) (fun iv _=>cs.length - (intOf iv).toNat)
   case atStart=>exact ⟨0,Nat.zero_le _,rfl,⟨by simp,Ext.refl _⟩⟩
   case round =>
    obtain ⟨k,hk,rfl,⟨hall,hx⟩⟩:=hrel;have HALL:=Lib.hid hall;have HX:=Lib.hid hx;obtain ⟨b0,b1,b2,b3⟩:=HBX.out.ext hx (by omega);simp only [Pl.lv,Pl.neg] at b0 b1;have hws:w.heap.size < wr.heap.size:=by have:=hx.size; omega
    by_cases hlt:k < cs.length
    · obtain ⟨ad,B0,m0,d0,B1,m1,d1,rfl,hadb,hnd,hkt⟩:=jf.kid H4.out k hlt;have hxx:Ext w0 wr:=(HX0.out.trans HWX.out).trans hx;obtain ⟨e0,e1,e2,e3⟩:=hnd.ext hxx (by rw [jb]; exact hadb);have hsz:=HSZ.out k hlt;have HC:=Lib.hid (fun W (hxW:Ext wr W)=>IH.out cs[k] _ W hsz hkt (hxx.trans hxW));have HBAD:Hid (l<=cs[k].lv\/cs[k].isCan=false->(Pl.mk l false [] cs).isCan=false):=fun h=>Pl.isCan_bad HL.out (List.getElem_mem hlt) h
      have HGOOD:Hid (cs[k].lv < l->cs[k].isCan=true->∀ c ∈ cs.take (k+1),c.lv < l/\c.isCan=true):=fun h1 h2 c hc=>by
       rw [List.take_succ_eq_append_getElem hlt] at hc;rcases List.mem_append.1 hc with hc | hc
       · exact HALL.out c hc
       · rw [List.mem_singleton.1 hc]; exact ⟨h1,h2⟩
      generalize cs[k]=ck at *;clear hx hall hnd hkt hadb hsz hxx
      by_cases hlv:l<=ck.lv
      · have hq:decide (ck.lv ≥ l)=true:=by simpa using hlv
        go_wp2_with fail;go_ret;exact ⟨by rw [HBAD.out (.inl hlv)]; rfl,(HWX.out.trans HX.out).alloc _⟩
      · have hq:decide (ck.lv ≥ l)=false:=by simpa using hlv
        go_wp2_with fail;refine (HC.out _ ((Ext.refl _).alloc _)).mono ?_;rintro e w2 ⟨rfl,x2⟩;have X2:Hid (Ext w1 w2):=(HX.out.trans ((Ext.refl _).alloc _)).trans x2;clear x2 HC;cases hci:ck.isCan
        · go_wp2_with fail;go_ret;exact ⟨by rw [HBAD.out (.inr hci)]; rfl,HWX.out.trans X2.out⟩
        · go_wp2_with fail
          go_roundw
          case rel=>exact ⟨k+1,by omega,by go_num,HGOOD.out (by omega) hci,X2.out⟩
          case measure=>simp [intOf]; omega
    · have hke:k=cs.length:=by omega
      rw [hke,List.take_length] at HALL;obtain ⟨j,hj⟩:∃ j:Nat,cs.length=j+1:=⟨cs.length - 1,by omega⟩;have hjl:j < cs.length:=by omega
      obtain ⟨ad,B0,m0,d0,B1,m1,d1,rfl,hadb,hnd,hkt⟩:=jf.kid H4.out j hjl;have hxx:Ext w0 wr:=(HX0.out.trans HWX.out).trans hx;obtain ⟨e0,e1,e2,e3⟩:=hnd.ext hxx (by rw [jb]; exact hadb);have HKT:=Lib.hid (hkt.ext hxx);have HFIN:Hid ((Pl.mk l false [] cs).isCan=!(cs[j]).isZ):=by
       have h:=Pl.isCan_fin (n:=false) (d:=[]) HL.out HG.out HALL.out (by omega);have hj':cs.length - 1=j:=by omega
       simp only [hj'] at h;exact h
      generalize cs[j]=cj at *;rw [hj] at hke;subst hke;have hwr:IntKind.i64.wrap (((j+1:Nat):Int) - 1)=j:=by simp [IntKind.wrap,IntKind.bits,IntKind.signed]; omega
      clear hx hall hnd hkt hadb hxx;rw [hj];go_wp2_with fail;refine (uah _ _ HKT.out).mono ?_;rintro e w2 ⟨rfl,x2⟩;have X2:=Lib.hid (HX.out.trans x2);clear x2;go_wp2_with fail;go_ret;exact ⟨by rw [HFIN.out]; rfl,HWX.out.trans X2.out⟩
theorem jb6 {w:World} {q:Nat->Prop} (p:Pl) (v:Value) (h:PlV w q p v):Calls Tryz.prog 127 #[v] w fun e w'=>e=.returned (.bool p.isCan)/\Ext w w':=
 vch w q (p.sz+1) p v w (Nat.lt_succ_self _) h (Ext.refl w)
end Go.Proofs.YtheefiaoimbeiaaGreatDoor

/- Rows of polynomials that a call makes and fills; what a call that returns a polynomial leaves. -/
namespace Go.Proofs.YtheefiaoimbeiaaGreatDoor
open Go.RowKit
def ji (q:Nat->Prop) (p:Pl) (w:World) (e:Ending) (w':World):Prop:=∃ v,e=.returned v/\PlV w' q p v/\Ext w w'
theorem Pl.zero_v (w:World) (q:Nat->Prop) (A:Option Addr) (c:Nat) (hc:c<=9223372036854775807):PlV w q Pl.zero (plV Pl.zero (.slice none 0 0) (.slice A 0 c)):=
 PlV.mk (t:=Pl.zero) (c:=c) (ja.nil w) (by simp [Pl.zero,Pl.cs]) hc (by unfold Pl.zero Pl.cs jf; trivial)
def wap (W:World) (q:Nat->Prop) (R:Nat) (l:List Pl):Prop:=
 R < W.heap.size/\(∀ i,W.frozen? ⟨R,i,none⟩=false)/\∀ i (h:i < l.length),∃ A0 n0 c0 A1 n1 c1,qad W ⟨R,i * 4,none⟩ l[i] (.slice A0 n0 c0) (.slice A1 n1 c1)/\PlV W (fun b=>q b/\b ≠ R) l[i] (plV l[i] (.slice A0 n0 c0) (.slice A1 n1 c1))
section
variable {W W':World} {q q':Nat->Prop} {R:Nat} {l:List Pl}
theorem wap.ext (h:wap W q R l) (hx:Ext W W'):wap W' q R l:=by
 obtain ⟨h1,h2,h3⟩:=h;refine ⟨Nat.lt_of_lt_of_le h1 hx.size,fun i=>(hx.frozen (p:=⟨R,i,none⟩) h1).trans (h2 i),fun i hi=>?_⟩;obtain ⟨A0,n0,c0,A1,n1,c1,h4,h5⟩:=h3 i hi;exact ⟨A0,n0,c0,A1,n1,c1,h4.ext hx h1,h5.ext hx⟩
theorem wap.fin (h:wap W q R l) (hR:q R):jf W q l (some ⟨R,0,none⟩) 0:=by
 obtain ⟨h1,h2,h3⟩:=h;refine jf.of l _ 0 fun i hi=>?_
 obtain ⟨A0,n0,c0,A1,n1,c1,h4,h5⟩:=h3 i hi;refine ⟨⟨R,0,none⟩,_,_,rfl,h1,hR,?_,h5.mono fun b hb=>hb.1⟩;rw [yx,Nat.zero_add,Nat.zero_add];exact h4
theorem wap.set_ (h:wap W q R l) (k:Nat) (hk:k < l.length) (p:Pl) {A0 A1:Option Addr} {n0 c0 n1 c1:Nat} (hp:PlV W (fun b=>q b/\b ≠ R) p (plV p (.slice A0 n0 c0) (.slice A1 n1 c1))) :
 wap ((((W.setCell ⟨R,k * 4,none⟩ (.int .i64 p.lv)).setCell ⟨R,k * 4+1,none⟩ (.bool p.neg)).setCell ⟨R,k * 4+2,none⟩ (.slice A0 n0 c0)).setCell ⟨R,k * 4+3,none⟩ (.slice A1 n1 c1)) q R (l.set k p) /\
 ∀ v ds,ja W v ds->ja ((((W.setCell ⟨R,k * 4,none⟩ (.int .i64 p.lv)).setCell ⟨R,k * 4+1,none⟩ (.bool p.neg)).setCell ⟨R,k * 4+2,none⟩ (.slice A0 n0 c0)).setCell ⟨R,k * 4+3,none⟩ (.slice A1 n1 c1)) v ds:=by
 obtain ⟨h1,h2,h3⟩:=h;obtain ⟨B0,m0,d0,B1,m1,d1,⟨g0,g1,g2,g3⟩,-⟩:=h3 k hk;simp only at g0 g1 g2 g3;obtain ⟨W1,hW1⟩:=n_m (W.setCell ⟨R,k * 4,none⟩ (.int .i64 p.lv));obtain ⟨W2,hW2⟩:=n_m (W1.setCell ⟨R,k * 4+1,none⟩ (.bool p.neg));obtain ⟨W3,hW3⟩:=n_m (W2.setCell ⟨R,k * 4+2,none⟩ (.slice A0 n0 c0));obtain ⟨W4,hW4⟩:=n_m (W3.setCell ⟨R,k * 4+3,none⟩ (.slice A1 n1 c1));rw [hW1,hW2,hW3,hW4];have e1:∀ i,i ≠ k * 4->W1.cell? ⟨R,i,none⟩=W.cell? ⟨R,i,none⟩:=fun i hi=>by rw [<- hW1,World.cell?_setCell_other _ _ _ _ (by intro e; injection e; omega)]
 have e2:∀ i,i ≠ k * 4+1->W2.cell? ⟨R,i,none⟩=W1.cell? ⟨R,i,none⟩:=fun i hi=>by rw [<- hW2,World.cell?_setCell_other _ _ _ _ (by intro e; injection e; omega)]
 have e3:∀ i,i ≠ k * 4+2->W3.cell? ⟨R,i,none⟩=W2.cell? ⟨R,i,none⟩:=fun i hi=>by rw [<- hW3,World.cell?_setCell_other _ _ _ _ (by intro e; injection e; omega)]
 have e4:∀ i,i ≠ k * 4+3->W4.cell? ⟨R,i,none⟩=W3.cell? ⟨R,i,none⟩:=fun i hi=>by rw [<- hW4,World.cell?_setCell_other _ _ _ _ (by intro e; injection e; omega)]
 have s1:W1.cell? ⟨R,k * 4,none⟩=some (.int .i64 p.lv):=by rw [<- hW1]; exact World.cell?_setCell_same _ _ _ g0
 have q1:W1.cell? ⟨R,k * 4+1,none⟩=some (.bool l[k].neg):=(e1 _ (by omega)).trans g1;have s2:W2.cell? ⟨R,k * 4+1,none⟩=some (.bool p.neg):=by rw [<- hW2]; exact World.cell?_setCell_same _ _ _ q1
 have q2:W2.cell? ⟨R,k * 4+2,none⟩=some (.slice B0 m0 d0):=((e2 _ (by omega)).trans (e1 _ (by omega))).trans g2;have s3:W3.cell? ⟨R,k * 4+2,none⟩=some (.slice A0 n0 c0):=by rw [<- hW3]; exact World.cell?_setCell_same _ _ _ q2
 have q3:W3.cell? ⟨R,k * 4+3,none⟩=some (.slice B1 m1 d1):=((e3 _ (by omega)).trans ((e2 _ (by omega)).trans (e1 _ (by omega)))).trans g3;have s4:W4.cell? ⟨R,k * 4+3,none⟩=some (.slice A1 n1 c1):=by rw [<- hW4]; exact World.cell?_setCell_same _ _ _ q3
 have hnat:∀ v ds,ja W v ds->ja W4 v ds:=fun v ds hv=>by
  rw [<- hW4];refine ja.box ?_ q3 rfl _;rw [<- hW3];refine ja.box ?_ q2 rfl _;rw [<- hW2];refine ja.box ?_ q1 rfl _;rw [<- hW1];exact hv.box g0 rfl _
 have hother:∀ b,b ≠ R->W4.heap[b]?=W.heap[b]?:=fun b hb=>by
  rw [<- hW4,<- hW3,<- hW2,<- hW1];rw [Below.heap_setCell _ _ _ b hb,Below.heap_setCell _ _ _ b hb,Below.heap_setCell _ _ _ b hb,Below.heap_setCell _ _ _ b hb]
 have hsz:W4.heap.size=W.heap.size:=by rw [<- hW4,<- hW3,<- hW2,<- hW1]; simp [World.setCell]
 have hfr:∀ i,W4.frozen? ⟨R,i,none⟩=false:=fun i=>by rw [<- hW4,<- hW3,<- hW2,<- hW1]; simp only [World.frozen?_setCell]; exact h2 i
 refine ⟨⟨by omega,hfr,fun i hi=>?_⟩,hnat⟩;rw [List.length_set] at hi;have keep:∀ t v,PlV W (fun b=>q b/\b ≠ R) t v->PlV W4 (fun b=>q b/\b ≠ R) t v:=fun t v ht=>PlV.turn_ (by omega) hnat (fun b hb hq=>⟨hq,hother b hq.2⟩) ht
 by_cases hik:i=k
 · subst hik;rw [List.getElem_set_self];refine ⟨A0,n0,c0,A1,n1,c1,⟨?_,?_,?_,s4⟩,keep _ _ hp⟩
   · exact (e4 (i * 4) (by omega)).trans ((e3 (i * 4) (by omega)).trans ((e2 (i * 4) (by omega)).trans s1))
   · exact (e4 (i * 4+1) (by omega)).trans ((e3 (i * 4+1) (by omega)).trans s2)
   · exact (e4 (i * 4+2) (by omega)).trans s3
 · rw [List.getElem_set_ne (Ne.symm hik)];obtain ⟨C0,j0,f0,C1,j1,f1,h4,h5⟩:=h3 i hi;have far:∀ j,j < 4->W4.cell? ⟨R,i * 4+j,none⟩=W.cell? ⟨R,i * 4+j,none⟩:=fun j hj=>(e4 _ (by omega)).trans ((e3 _ (by omega)).trans ((e2 _ (by omega)).trans (e1 _ (by omega))))
   exact ⟨C0,j0,f0,C1,j1,f1,h4.same (far 0 (by omega)) (fun n hn=>far n hn),keep _ _ h5⟩
end
theorem kbe:(Tryz.prog.info? 44).map (fun i=>(i.zero,i.size,i.bytes))=some (some (.agg #[.int .i64 0,.bool false,.slice none 0 0,.slice none 0 0]),4,64):=by kernel_rfl
theorem xaq (n:Int) (h0:0<=n) (h1:n<=1099511627776) (w:World) :
 ∃ w',(Instr.makeSlice 42 (.int .i64 n) (.int .i64 n)).run Tryz.prog w=.ok (.slice (some ⟨w.heap.size,0,none⟩) n.toNat n.toNat) w'/\Ext w w'/\w'.heap.size=w.heap.size+1/\∀ q,wap w' q w.heap.size (List.replicate n.toNat Pl.zero):=by
 obtain ⟨i0,hi,hz0,hz1,hz2⟩:=info_parts kbe;refine ⟨_,run_make w 42 44 i0 _ Tryz.underlying42 hi hz0 .i64 .i64 n n h0 (by omega) (by rw [hz2]; omega) (by omega),(Ext.refl w).alloc _,by simp,fun q=>⟨by simp,fun i=>by simp [go_sem],fun i hi2=>?_⟩⟩;rw [List.length_replicate] at hi2;have hc:∀ j,j < 4->(w.alloc (.cells (madeCells (Value.agg #[.int .i64 0,.bool false,.slice none 0 0,.slice none 0 0]).cells (n.toNat * i0.size)) 44)).cell? ⟨w.heap.size,i * 4+j,none⟩=#[Value.int .i64 0,.bool false,.slice none 0 0,.slice none 0 0][j]?:=by
  intro j hj;have hlt:i * 4+j < n.toNat * 4:=by omega
  have hmod:(i * 4+j) % 4=j:=by omega
  rw [cell_of_row _ _ (i * 4+j) _ _ (0,0) (heap_alloc_new w _)];rw [hz1];unfold madeCells;rw [Array.getElem?_map,Array.getElem?_range,if_pos hlt];show some ((#[Value.int .i64 0,.bool false,.slice none 0 0,.slice none 0 0]:Array Value)[(i * 4+j) % 4]!)=_;rw [hmod];rcases (show j=0\/j=1\/j=2\/j=3 by omega) with rfl | rfl | rfl | rfl <;> rfl
 rw [List.getElem_replicate];exact ⟨none,0,0,none,0,0,⟨hc 0 (by omega),hc 1 (by omega),hc 2 (by omega),hc 3 (by omega)⟩,Pl.zero_v _ _ none 0 (by omega)⟩
def yh (w:World) (g:Nat):Prop:=(w.cell? ⟨g,0,none⟩=some (.int .i64 0)/\w.cell? ⟨g,1,none⟩=some (.bool false)/\w.cell? ⟨g,2,none⟩=some (.slice none 0 0)/\w.cell? ⟨g,3,none⟩=some (.slice none 0 0))/\∀ i,w.frozen? ⟨g,i,none⟩=false
theorem yh.ext {w w':World} {g:Nat} (h:yh w g) (hx:Ext w w') (hg:g < w.heap.size):yh w' g:=by
 obtain ⟨⟨h0,h1,h2,h3⟩,h4⟩:=h;have k:∀ i,w'.cell? ⟨g,i,none⟩=w.cell? ⟨g,i,none⟩:=fun i=>hx.cell (p:=⟨g,i,none⟩) hg
 exact ⟨⟨(k _).trans h0,(k _).trans h1,(k _).trans h2,(k _).trans h3⟩,fun i=>(hx.frozen (p:=⟨g,i,none⟩) hg).trans (h4 i)⟩
theorem yh.new (w:World) (T:TypeId):yh (w.alloc (.cells #[.int .i64 0,.bool false,.slice none 0 0,.slice none 0 0] T)) w.heap.size:=by
 refine ⟨⟨?_,?_,?_,?_⟩,fun i=>?_⟩ <;> simp [go_sem]
theorem qi {w W:World} {g:Nat} {p:Pl} {q q':Nat->Prop} {A0 A1:Option Addr} {n0 c0 n1 c1:Nat} (hx:Ext w W) (hg:w.heap.size<=g) (hz:yh W g) (hp:PlV W q p (plV p (.slice A0 n0 c0) (.slice A1 n1 c1))) (hq:∀ b,b < W.heap.size->q b->b ≠ g/\q' b) :
 ji q' p w (.returned (plV p (.slice A0 n0 c0) (.slice A1 n1 c1))) ((((W.setCell ⟨g,0,none⟩ (.int .i64 p.lv)).setCell ⟨g,1,none⟩ (.bool p.neg)).setCell ⟨g,2,none⟩ (.slice A0 n0 c0)).setCell ⟨g,3,none⟩ (.slice A1 n1 c1)):=by
 obtain ⟨⟨z0,z1,z2,z3⟩,-⟩:=hz;refine ⟨_,rfl,?_,(((hx.setCell hg _).setCell hg _).setCell hg _).setCell hg _⟩;refine PlV.turn_ (by simp [World.setCell]) (fun v ds hv=>?_) (fun b hlt hb=>⟨(hq b hlt hb).2,?_⟩) hp
 · refine (((hv.box z0 rfl _).box (u:=.bool false) ?_ rfl _).box (u:=.slice none 0 0) ?_ rfl _).box (u:=.slice none 0 0) ?_ rfl _
   · rw [World.cell?_setCell_other _ _ _ _ (by simp)]; exact z1
   · rw [World.cell?_setCell_other _ _ _ _ (by simp),World.cell?_setCell_other _ _ _ _ (by simp)]; exact z2
   · rw [World.cell?_setCell_other _ _ _ _ (by simp),World.cell?_setCell_other _ _ _ _ (by simp),World.cell?_setCell_other _ _ _ _ (by simp)]; exact z3
 · have hne:=(hq b hlt hb).1;rw [Below.heap_setCell _ _ _ b hne,Below.heap_setCell _ _ _ b hne,Below.heap_setCell _ _ _ b hne,Below.heap_setCell _ _ _ b hne]
theorem xai {α:Type} (L l:List α) (k:Nat) (h:L.take k=l.take k) (hL:k < L.length) (hl:k < l.length):(L.set k l[k]).take (k+1)=l.take (k+1):=by
 have h1:k < (L.set k l[k]).length:=by rw [List.length_set]; exact hL
 rw [List.take_succ_eq_append_getElem h1,List.take_succ_eq_append_getElem hl,List.getElem_set_self,List.take_set_of_le (Nat.le_refl _),h]
end Go.Proofs.YtheefiaoimbeiaaGreatDoor

/- Layer 4: integer.Sum; rows of integers. -/
set_option maxRecDepth 100000
set_option maxHeartbeats 8000000
namespace Go.Proofs.YtheefiaoimbeiaaGreatDoor
open Go.RowKit
def qab : List Int -> Int
 | []=>0
 | z :: r=>z+qab r
def inr : List Int -> Nat
 | []=>0
 | z :: r=>z.natAbs+inr r
theorem ybq (a b:List Int):qab (a ++ b)=qab a+qab b:=by
 induction a with
 | nil=>simp [qab]
 | cons x a ih=>rw [List.cons_append,qab,qab,ih]; omega
theorem qb6 (l:List Int) (k:Nat) (h:k < l.length):qab (l.take (k+1))=qab (l.take k)+l[k]:=by
 rw [List.take_succ_eq_append_getElem h,ybq]; simp [qab]
theorem ych (l:List Int) (k:Nat):(qab (l.take k)).natAbs<=inr l:=by
 induction l generalizing k with
 | nil=>simp [qab,inr]
 | cons x l ih =>
   cases k with
   | zero=>simp [qab]
   | succ k =>
     rw [List.take_succ_cons,qab,inr];have:=ih k;omega
theorem ucr {l:List Int} {z:Int} (h:z ∈ l):z.natAbs<=inr l:=by
 induction l with
 | nil=>cases h
 | cons x l ih =>
   rw [inr];rcases List.mem_cons.1 h with rfl | h
   · omega
   · have:=ih h; omega
def IsV (w:World) (v:Value) (zs:List Int):Prop:=
 ∃ A c,v=.slice A zs.length c/\zs.length<=c/\c<=9223372036854775807/\∀ k (h:k < zs.length),∃ ad B n d,A=some ad/\ad.block < w.heap.size/\w.cell? (ad.add (k * 2))=some (.bool (decide (zs[k] < 0)))/\w.cell? ⟨(ad.add (k * 2)).block,(ad.add (k * 2)).off+1,none⟩=some (.slice B n d)/\ja w (.slice B n d) (dg zs[k].natAbs)
theorem IsV.ext {w w':World} {v:Value} {l:List Int} (h:IsV w v l) (hx:Ext w w'):IsV w' v l:=by
 obtain ⟨A,c,rfl,h1,h2,h3⟩:=h;refine ⟨A,c,rfl,h1,h2,fun k hk=>?_⟩;obtain ⟨ad,B,n,d,rfl,h4,h5,h6,h7⟩:=h3 k hk;have hb:(ad.add (k * 2)).block < w.heap.size:=by rw [jb]; exact h4
 exact ⟨ad,B,n,d,rfl,Nat.lt_of_lt_of_le h4 hx.size,(hx.cell hb).trans h5,(hx.cell (p:=⟨(ad.add (k * 2)).block,(ad.add (k * 2)).off+1,none⟩) hb).trans h6,h7.ext hx⟩
def kau (w:World) (g:Nat) (z:Int):Prop:=(∃ A n c,w.cell? ⟨g,0,none⟩=some (.bool (decide (z < 0)))/\w.cell? ⟨g,1,none⟩=some (.slice A n c)/\ja w (.slice A n c) (dg z.natAbs))/\∀ i,w.frozen? ⟨g,i,none⟩=false
theorem kau.ext {w w':World} {g:Nat} {z:Int} (h:kau w g z) (hx:Ext w w') (hg:g < w.heap.size):kau w' g z:=by
 obtain ⟨⟨A,n,c,h1,h2,h3⟩,h4⟩:=h;exact ⟨⟨A,n,c,(hx.cell (p:=⟨g,0,none⟩) hg).trans h1,(hx.cell (p:=⟨g,1,none⟩) hg).trans h2,h3.ext hx⟩,fun i=>(hx.frozen (p:=⟨g,i,none⟩) hg).trans (h4 i)⟩
theorem kau.set {w:World} {g:Nat} {z y:Int} {A:Option Addr} {n c:Nat} (h:kau w g z) (hy:ja w (.slice A n c) (dg y.natAbs)):kau ((w.setCell ⟨g,0,none⟩ (.bool (decide (y < 0)))).setCell ⟨g,1,none⟩ (.slice A n c)) g y:=by
 obtain ⟨⟨B,m,d,h1,h2,-⟩,h4⟩:=h;have e1:(w.setCell ⟨g,0,none⟩ (.bool (decide (y < 0)))).cell? ⟨g,1,none⟩=some (.slice B m d):=by rw [World.cell?_setCell_other _ _ _ _ (by simp)]; exact h2
 refine ⟨⟨A,n,c,?_,World.cell?_setCell_same _ _ _ e1,(hy.box h1 rfl _).box e1 rfl _⟩,fun i=>?_⟩
 · rw [World.cell?_setCell_other _ _ _ _ (by simp)]; exact World.cell?_setCell_same _ _ _ h1
 · rw [World.frozen?_setCell,World.frozen?_setCell]; exact h4 i
theorem jcm {w:World} {v:Value} {zs:List Int} {D:Nat} (h:IsV w v zs) (hn:inr zs < B32 ^ D) (hD:D<=17592186044000):Calls Tryz.prog 125 #[v] w (gag (qab zs) w):=by
 have HH:=Lib.hid h;obtain ⟨A,c,rfl,h1,h2,-⟩:=h;have HL:Hid (∀ k,(dg (qab (zs.take k)).natAbs).length<=D):=Lib.hid (fun k=>zh (Nat.lt_of_le_of_lt (ych zs k) hn));have HZ:Hid (∀ k (hk:k < zs.length),(dg zs[k].natAbs).length<=D):=Lib.hid (fun k hk=>zh (Nat.lt_of_le_of_lt (ucr (List.getElem_mem hk)) hn));clear hn;obtain ⟨W,hW⟩:=n_m ((w.alloc (.cells #[.bool false,.slice none 0 0] 25)).alloc (.cells #[.bool false,.slice none 0 0] 25));have hWx:Ext w W:=by rw [<- hW]; exact ((Ext.refl w).alloc _).alloc _
 have hWs:W.heap.size=w.heap.size+1+1:=by rw [<- hW]; simp
 have hb1:kau W w.heap.size 0:=by
  rw [<- hW];refine ⟨⟨none,0,0,by simp [go_sem],by simp [go_sem],by rw [Int.natAbs_zero,jm]; exact ja.nil _⟩,fun i=>by simp [go_sem]⟩
 have hb2:kau W (w.heap.size+1) 0:=by
  rw [<- hW];refine ⟨⟨none,0,0,by simp [go_sem],by simp [go_sem],by rw [Int.natAbs_zero,jm]; exact ja.nil _⟩,fun i=>by simp [go_sem]⟩
 have HWX:=Lib.hid hWx;have HB1:=Lib.hid hb1;have HB2:=Lib.hid hb2;have HW:=Lib.hid hW;clear hWx hb1 hb2 hW;go_enter Tryz.func125,Tryz.ntmps125;go_wp2_with fail;rw [HW.out];clear HW
 go_loopw [9] (fun iv wr=>∃ k:Nat,k<=zs.length/\iv=.int .i64 k/\Hid (Ext w wr/\W.heap.size<=wr.heap.size/\kau wr w.heap.size 0/\kau wr (w.heap.size+1) (qab (zs.take k)))) (fun iv _=>zs.length - (intOf iv).toNat)
 case atStart=>exact ⟨0,Nat.zero_le _,rfl,⟨HWX.out,Nat.le_refl _,HB1.out,HB2.out⟩⟩
 case round =>
  obtain ⟨k,hk,rfl,⟨hx,hws,hi1,hi2⟩⟩:=hrel;have HX:=Lib.hid hx;have HI1:=Lib.hid hi1;have HI2:=Lib.hid hi2;clear hx hi1
  by_cases hlt:k < zs.length
  · obtain ⟨A',c',e',-,-,h3⟩:=HH.out.ext HX.out;injection e' with e1 e2 e3
    obtain ⟨ad,B,n,d,e4,hb,c0,c1,hnz⟩:=h3 k hlt;obtain rfl:A=some ad:=e1.trans e4;obtain ⟨⟨SA,sn,sc,s0,s1,hs⟩,sf⟩:=hi2;obtain ⟨U,hU⟩:=n_m (wr.alloc (.cells #[.bool (decide (zs[k] < 0)),.slice B n d] 25));have hUx:Ext wr U:=by rw [<- hU]; exact (Ext.refl _).alloc _
    have hUs:U.heap.size=wr.heap.size+1:=by rw [<- hU]; simp
    have u0:U.cell? ⟨wr.heap.size,0,none⟩=some (.bool (decide (zs[k] < 0))):=by rw [<- hU]; simp [go_sem]
    have u1:U.cell? ⟨wr.heap.size,1,none⟩=some (.slice B n d):=by rw [<- hU]; simp [go_sem]
    have s0':=(hUx.cell (p:=⟨w.heap.size+1,0,none⟩) (by show w.heap.size+1 < _; omega)).trans s0;have s1':=(hUx.cell (p:=⟨w.heap.size+1,1,none⟩) (by show w.heap.size+1 < _; omega)).trans s1;have HADD:=Lib.hid (ga2 _ _ (qab (zs.take k)) zs[k] D D U ⟨_,_,_,rfl,hs.ext hUx,by rw [je,wal],HL.out k⟩ ⟨_,_,_,rfl,hnz.ext hUx,by rw [je,wal],HZ.out k hlt⟩ (by omega));have HST:=Lib.hid (qb6 zs k hlt);have HUX:=Lib.hid hUx;clear h3 e1 e3 e4 hnz hs hUx;generalize qab (zs.take k)=S at *;generalize zs[k]=z at *;go_wp2_with fail;clear hU u0 u1 s0 s1 s0' s1' c0 c1;refine HADD.out.mono ?_;rintro e w2 ⟨z2,rfl,⟨y2,rfl,m2⟩,x2⟩;obtain ⟨C2,k2,rfl,-⟩:=id m2;have hs2:=x2.size;have hib:=HI2.out.ext (HUX.out.trans x2) (by omega);have HIB:=Lib.hid (hib.set m2);have HIB1:Hid (kau ((w2.setCell ⟨w.heap.size+1,0,none⟩ (.bool (decide (S+z < 0)))).setCell ⟨w.heap.size+1,1,none⟩ (.slice C2 (dg (S+z).natAbs).length k2)) w.heap.size 0):=by
     obtain ⟨⟨F,m,f,f0,f1,f2⟩,ff⟩:=HI1.out.ext (HUX.out.trans x2) (by omega);obtain ⟨⟨G,gm,gf,g0,g1,-⟩,-⟩:=hib;have e1:(w2.setCell ⟨w.heap.size+1,0,none⟩ (.bool (decide (S+z < 0)))).cell? ⟨w.heap.size+1,1,none⟩=some (.slice G gm gf):=by rw [World.cell?_setCell_other _ _ _ _ (by simp)]; exact g1
     exact ⟨⟨F,m,f,by rw [World.cell?_setCell_other _ _ _ _ (by simp),World.cell?_setCell_other _ _ _ _ (by simp)]; exact f0,by rw [World.cell?_setCell_other _ _ _ _ (by simp),World.cell?_setCell_other _ _ _ _ (by simp)]; exact f1,(f2.box g0 rfl _).box e1 rfl _⟩,fun i=>by rw [World.frozen?_setCell,World.frozen?_setCell]; exact ff i⟩
    have HXN:Hid (Ext w ((w2.setCell ⟨w.heap.size+1,0,none⟩ (.bool (decide (S+z < 0)))).setCell ⟨w.heap.size+1,1,none⟩ (.slice C2 (dg (S+z).natAbs).length k2))):=Lib.hid (((HX.out.trans (HUX.out.trans x2)).setCell (by show w.heap.size<=w.heap.size+1; omega) _).setCell (by show w.heap.size<=w.heap.size+1; omega) _);obtain ⟨⟨G,gm,gf,g0,g1,-⟩,gff⟩:=hib;clear x2 m2 HADD HI1 HI2 sf;go_wp2_with fail
    go_roundw
    case rel=>exact ⟨k+1,by omega,by go_num,⟨HXN.out,by simp [World.setCell]; omega,HIB1.out,by rw [HST.out]; exact HIB.out⟩⟩
    case measure=>simp [intOf]; omega
  · have hke:k=zs.length:=by omega
    obtain ⟨⟨SA,sn,sc,s0,s1,hs⟩,sf⟩:=HI2.out;obtain ⟨⟨F,m,f,f0,f1,f2⟩,ff⟩:=HI1.out;rw [hke,List.take_length] at s0 hs;have HF:=Lib.hid (wz (g:=w.heap.size) (z:=qab zs) HX.out (Nat.le_refl _) f0 f1 rfl rfl ⟨_,rfl,hs⟩);clear hke hs hi2 HI1 HI2;generalize qab zs=S at *;go_wp2_with fail;exact bodyPost_ret (v:=.agg #[.bool (decide (S < 0)),.slice SA sn sc]) (by simp [results,Tryz.results125,go_sem,f0,f1]) rfl HF.out
end Go.Proofs.YtheefiaoimbeiaaGreatDoor
