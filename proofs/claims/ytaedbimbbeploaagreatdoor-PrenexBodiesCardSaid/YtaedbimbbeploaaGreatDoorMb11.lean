/- Layer 34: trees of a call's own: each row of kids lies in a block of its own, in an interval of blocks. -/
import Derived.Test.YtaedbimbbeploaaGreatDoorMb10
import Derived.Test.YtaedbimbbeploaaGreatDoorMb5
import Derived.Test.YtaedbimbbeploaaGreatDoorMb0
import Derived.Maps.AppendAt
import Derived.Deep.RegionLawGrows
import Derived.RangeFuncBox
import Derived.Test.YtaedbimbbeploaaGreatDoorMb4
set_option linter.unusedSimpArgs false
set_option linter.unusedVariables false

namespace Go.Proofs.YtaedbimbbeploaaGreatDoor
open Go.RowKit
mutual
def TrO (w : World) : Nat -> Nat -> Tr -> Value -> Prop
 | lo,hi,.mk d ks,v=>∃ s A c,v=ndV d s (.slice A ks.length c)/\jb w s d.ds/\ks.length<=c/\c<=9223372036854775807/\(ks=[]\/∃ b,A=some ⟨b,0,none⟩/\lo<=b/\b < hi/\b < w.heap.size/\(∀ o,w.frozen? ⟨b,o,none⟩=false)/\wae w lo b ks b 0)
def wae (w : World) : Nat -> Nat -> List Tr -> Nat -> Nat -> Prop
 | _,_,[],_,_=>True
 | lo,hi,t :: r,b,j=>∃ m s K,lo<=m/\m<=hi/\uad w ⟨b,j * 9,none⟩ t.d s K/\TrO w lo m t (ndV t.d s K)/\wae w m hi r b (j+1)
end
section
variable {w w':World}
theorem uad.same {ad:Addr} {d:Nd} {s A:Value} (h:uad w ad d s A) (k0:w'.cell? ad=w.cell? ad) (k:∀ n,n < 9->w'.cell? ⟨ad.block,ad.off+n,none⟩=w.cell? ⟨ad.block,ad.off+n,none⟩):uad w' ad d s A:=by
 obtain ⟨h0,h1,h2,h3,h4,h5,h6,h7,h8⟩:=h;exact ⟨k0.trans h0,(k 1 (by omega)).trans h1,(k 2 (by omega)).trans h2,(k 3 (by omega)).trans h3,(k 4 (by omega)).trans h4,(k 5 (by omega)).trans h5,(k 6 (by omega)).trans h6,(k 7 (by omega)).trans h7,(k 8 (by omega)).trans h8⟩
theorem qba {a:Addr} (h:w'.heap[a.block]?=w.heap[a.block]?):w'.frozen? a=w.frozen? a:=by
 unfold World.frozen?; rw [h]
mutual
theorem TrO.turn (hs : w.heap.size <= w'.heap.size) (hn : ∀ v ds, jb w v ds -> jb w' v ds) : ∀ (t : Tr) (v : Value) (lo hi lo' hi' : Nat), lo' <= lo -> hi <= hi' -> (∀ i, lo <= i -> i < hi -> i < w.heap.size -> w'.heap[i]? = w.heap[i]?) -> TrO w lo hi t v -> TrO w' lo' hi' t v
 | .mk d ks,v,lo,hi,lo',hi',hl,hh,hc,h=>by
   unfold TrO at h ⊢;obtain ⟨s,A,c,e,h1,h2,h3,h4⟩:=h;refine ⟨s,A,c,e,hn _ _ h1,h2,h3,?_⟩;rcases h4 with h4 | ⟨b,eA,hb1,hb2,hb3,hf,h4⟩
   · exact .inl h4
   · exact .inr ⟨b,eA,by omega,by omega,by omega,fun o=>(qba (hc b hb1 hb2 hb3)).trans (hf o),wae.turn hs hn ks b 0 lo b lo' b hl (Nat.le_refl _) (fun i h1 h2 h3=>hc i h1 (by omega) h3) (hc b hb1 hb2 hb3) h4⟩
theorem wae.turn (hs : w.heap.size <= w'.heap.size) (hn : ∀ v ds, jb w v ds -> jb w' v ds) : ∀ (l : List Tr) (b j lo hi lo' hi' : Nat), lo' <= lo -> hi <= hi' -> (∀ i, lo <= i -> i < hi -> i < w.heap.size -> w'.heap[i]? = w.heap[i]?) -> w'.heap[b]? = w.heap[b]? -> wae w lo hi l b j -> wae w' lo' hi' l b j
 | [],b,j,lo,hi,lo',hi',hl,hh,hc,hb,h=>by unfold wae; trivial
 | t :: r,b,j,lo,hi,lo',hi',hl,hh,hc,hb,h=>by
   unfold wae at h ⊢;obtain ⟨m,s,K,h1,h2,h3,h4,h5⟩:=h;exact ⟨m,s,K,by omega,by omega,h3.same (World.cell?_of_block hb) (fun n _=>World.cell?_of_block hb),TrO.turn hs hn t _ lo m lo' m hl (Nat.le_refl _) (fun i h1 h2 h3=>hc i h1 (by omega) h3) h4,wae.turn hs hn r b (j+1) m hi m hi' (Nat.le_refl _) hh (fun i h1 h2 h3=>hc i (by omega) h2 h3) hb h5⟩
end
theorem TrO.ext {t:Tr} {v:Value} {lo hi:Nat} (h:TrO w lo hi t v) (hx:Ext w w'):TrO w' lo hi t v:=TrO.turn hx.size (fun _ _ h=>h.ext hx) t v lo hi lo hi (Nat.le_refl _) (Nat.le_refl _) (fun i _ _ hi=>hx.below.block i hi) h
theorem TrO.mono {t:Tr} {v:Value} {lo hi lo' hi':Nat} (h:TrO w lo hi t v) (hl:lo'<=lo) (hh:hi<=hi'):TrO w lo' hi' t v:=TrO.turn (Nat.le_refl _) (fun _ _ h=>h) t v lo hi lo' hi' hl hh (fun i _ _ _=>rfl) h
mutual
theorem TrO.trV_ {p : Nat -> Prop} : ∀ (t : Tr) (v : Value) (lo hi : Nat), (∀ b, lo <= b -> b < hi -> p b) -> TrO w lo hi t v -> TrV w p t v
 | .mk d ks,v,lo,hi,hp,h=>by
   unfold TrO at h;unfold TrV;obtain ⟨s,A,c,e,h1,h2,h3,h4⟩:=h;refine ⟨s,A,c,e,h1,h2,h3,?_⟩;rcases h4 with rfl | ⟨b,rfl,hb1,hb2,hb3,-,h4⟩
   · unfold ui; trivial
   · exact wae.trsAt ks b 0 lo b (fun i h1 h2=>hp i h1 (by omega)) hb3 (hp b hb1 hb2) h4
theorem wae.trsAt {p : Nat -> Prop} : ∀ (l : List Tr) (b j lo hi : Nat), (∀ i, lo <= i -> i < hi -> p i) -> b < w.heap.size -> p b -> wae w lo hi l b j -> ui w p l (some ⟨b, 0, none⟩) j
 | [],b,j,lo,hi,hp,hb,hpb,h=>by unfold ui; trivial
 | t :: r,b,j,lo,hi,hp,hb,hpb,h=>by
   unfold wae at h;unfold ui;obtain ⟨m,s,K,h1,h2,h3,h4,h5⟩:=h;exact ⟨⟨⟨b,0,none⟩,s,K,rfl,hb,hpb,by rw [gp,Nat.zero_add]; exact h3,TrO.trV_ t _ lo m (fun i h1 h2=>hp i h1 (by omega)) h4⟩,wae.trsAt r b (j+1) m hi (fun i h1 h2=>hp i (by omega) h2) hb hpb h5⟩
end
theorem TrO.trV {t:Tr} {v:Value} {lo hi:Nat} (h:TrO w lo hi t v):TrV w (fun b=>lo<=b) t v:=TrO.trV_ t v lo hi (fun _ h _=>h) h
theorem TrO.open_ {t:Tr} {v:Value} {lo hi:Nat} (h:TrO w lo hi t v):∃ A0 n0 c0 A c,v=ndV t.d (.slice A0 n0 c0) (.slice A t.ks.length c)/\jb w (.slice A0 n0 c0) t.d.ds/\t.ks.length<=c/\c<=9223372036854775807/\(t.ks=[]\/∃ b,A=some ⟨b,0,none⟩/\lo<=b/\b < hi/\b < w.heap.size/\(∀ o,w.frozen? ⟨b,o,none⟩=false)/\wae w lo b t.ks b 0):=by
 cases t with
 | mk d ks =>
   unfold TrO at h;obtain ⟨s,A,c,e,⟨A0,c0,rfl,hd⟩,h2,h3,h4⟩:=h;exact ⟨A0,_,c0,A,c,e,⟨A0,c0,rfl,hd⟩,h2,h3,h4⟩
theorem TrO.mk {t:Tr} {s:Value} {A:Option Addr} {c lo hi:Nat} (h1:jb w s t.d.ds) (h2:t.ks.length<=c) (h3:c<=9223372036854775807) (h4:t.ks=[]\/∃ b,A=some ⟨b,0,none⟩/\lo<=b/\b < hi/\b < w.heap.size/\(∀ o,w.frozen? ⟨b,o,none⟩=false)/\wae w lo b t.ks b 0):TrO w lo hi t (ndV t.d s (.slice A t.ks.length c)):=by
 cases t with
 | mk d ks=>unfold TrO; exact ⟨s,A,c,rfl,h1,h2,h3,h4⟩
end
end Go.Proofs.YtaedbimbbeploaaGreatDoor

/- Layer 22: recursive polynomials as values. -/
namespace Go.Proofs.YtaedbimbbeploaaGreatDoor
open Go.RowKit
def plV (p:Pl) (s A:Value):Value:=.agg #[.int .i64 p.lv,.bool p.neg,s,A]
def kab (w:World) (ad:Addr) (p:Pl) (s A:Value):Prop:=
 w.cell? ad=some (.int .i64 p.lv)/\w.cell? ⟨ad.block,ad.off+1,none⟩=some (.bool p.neg)/\w.cell? ⟨ad.block,ad.off+2,none⟩=some s/\w.cell? ⟨ad.block,ad.off+3,none⟩=some A
mutual
def PlV (w : World) (q : Nat -> Prop) : Pl -> Value -> Prop
 | .mk l n d cs,v=>∃ s A c,v=.agg #[.int .i64 l,.bool n,s,.slice A cs.length c]/\jb w s d/\cs.length<=c/\c<=9223372036854775807/\jd w q cs A 0
def jd (w : World) (q : Nat -> Prop) : List Pl -> Option Addr -> Nat -> Prop
 | [],_,_=>True
 | t :: r,A,j=>(∃ ad s K,A=some ad/\ad.block < w.heap.size/\q ad.block/\kab w (ad.add (j * 4)) t s K/\PlV w q t (plV t s K))/\jd w q r A (j+1)
end
section
variable {w w':World} {p q:Nat->Prop}
theorem jd.get_ (l:List Pl):∀ (A:Option Addr) (j:Nat),jd w p l A j->∀ i (h:i < l.length),∃ ad s K,A=some ad/\ad.block < w.heap.size/\p ad.block/\kab w (ad.add ((j+i) * 4)) l[i] s K/\PlV w p l[i] (plV l[i] s K):=by
 induction l with
 | nil=>intro A j h i hi; simp at hi
 | cons t r ih =>
   intro A j h i hi;unfold jd at h;cases i with
   | zero=>exact h.1
   | succ i =>
     have:=ih A (j+1) h.2 i (by simpa using hi);rw [show j+(i+1)=j+1+i by omega];exact this
theorem jd.of (l:List Pl):∀ (A:Option Addr) (j:Nat),(∀ i (h:i < l.length),∃ ad s K,A=some ad/\ad.block < w.heap.size/\p ad.block/\kab w (ad.add ((j+i) * 4)) l[i] s K/\PlV w p l[i] (plV l[i] s K))->jd w p l A j:=by
 induction l with
 | nil=>intro A j h; unfold jd; trivial
 | cons t r ih =>
   intro A j h;unfold jd;refine ⟨h 0 (by simp),ih A (j+1) fun i hi=>?_⟩;have:=h (i+1) (by simpa using hi);rw [show j+(i+1)=j+1+i by omega] at this;exact this
theorem kab.same {ad:Addr} {t:Pl} {s A:Value} (h:kab w ad t s A) (k0:w'.cell? ad=w.cell? ad) (k:∀ n,n < 4->w'.cell? ⟨ad.block,ad.off+n,none⟩=w.cell? ⟨ad.block,ad.off+n,none⟩):kab w' ad t s A:=by
 obtain ⟨h0,h1,h2,h3⟩:=h;exact ⟨k0.trans h0,(k 1 (by omega)).trans h1,(k 2 (by omega)).trans h2,(k 3 (by omega)).trans h3⟩
theorem kab.ext {ad:Addr} {t:Pl} {s A:Value} (h:kab w ad t s A) (hx:Ext w w') (hb:ad.block < w.heap.size):kab w' ad t s A:=h.same (hx.cell hb) (fun n _=>hx.cell (p:=⟨ad.block,ad.off+n,none⟩) hb)
mutual
theorem PlV.turn (hs : w.heap.size <= w'.heap.size) (hn : ∀ v ds, jb w v ds -> jb w' v ds) (hc : ∀ b, b < w.heap.size -> p b -> q b /\ w'.heap[b]? = w.heap[b]?) : ∀ (t : Pl) (v : Value), PlV w p t v -> PlV w' q t v
 | .mk l n d cs,v,h=>by
   unfold PlV at h ⊢;obtain ⟨s,A,c,e,h1,h2,h3,h4⟩:=h;exact ⟨s,A,c,e,hn _ _ h1,h2,h3,jd.turn hs hn hc cs A 0 h4⟩
theorem jd.turn (hs : w.heap.size <= w'.heap.size) (hn : ∀ v ds, jb w v ds -> jb w' v ds) (hc : ∀ b, b < w.heap.size -> p b -> q b /\ w'.heap[b]? = w.heap[b]?) : ∀ (l : List Pl) (A : Option Addr) (j : Nat), jd w p l A j -> jd w' q l A j
 | [],A,j,h=>by unfold jd; trivial
 | t :: r,A,j,h=>by
   unfold jd at h ⊢;obtain ⟨⟨ad,s,K,e,hb,hpb,h1,h2⟩,h3⟩:=h;obtain ⟨hq,hk⟩:=hc _ hb hpb;exact ⟨⟨ad,s,K,e,Nat.lt_of_lt_of_le hb hs,hq,h1.same (World.cell?_of_block (by rw [ja]; exact hk)) (fun n _=>World.cell?_of_block (a:=⟨(ad.add (j * 4)).block,(ad.add (j * 4)).off+n,none⟩) (by show w'.heap[(ad.add (j * 4)).block]?=_; rw [ja]; exact hk)),PlV.turn hs hn hc t _ h2⟩,jd.turn hs hn hc r A (j+1) h3⟩
end
theorem PlV.turn_ {t:Pl} {v:Value} (hs:w.heap.size<=w'.heap.size) (hn:∀ v ds,jb w v ds->jb w' v ds) (hc:∀ b,b < w.heap.size->p b->q b/\w'.heap[b]?=w.heap[b]?) (h:PlV w p t v):PlV w' q t v:=PlV.turn hs hn hc t v h
theorem PlV.ext {t:Pl} {v:Value} (h:PlV w p t v) (hx:Ext w w'):PlV w' p t v:=PlV.turn hx.size (fun _ _ h=>h.ext hx) (fun b hb hp=>⟨hp,hx.below.block b hb⟩) t v h
theorem jd.ext {l:List Pl} {A:Option Addr} {j:Nat} (h:jd w p l A j) (hx:Ext w w'):jd w' p l A j:=jd.turn hx.size (fun _ _ h=>h.ext hx) (fun b hb hp=>⟨hp,hx.below.block b hb⟩) l A j h
theorem PlV.mono {t:Pl} {v:Value} (h:PlV w p t v) (hp:∀ b,p b->q b):PlV w q t v:=PlV.turn (Nat.le_refl _) (fun _ _ h=>h) (fun b _ h=>⟨hp b h,rfl⟩) t v h
theorem PlV.open_ {t:Pl} {v:Value} (h:PlV w p t v):∃ A0 n0 c0 A c,v=plV t (.slice A0 n0 c0) (.slice A t.cs.length c)/\jb w (.slice A0 n0 c0) t.ds/\t.cs.length<=c/\c<=9223372036854775807/\jd w p t.cs A 0:=by
 cases t with
 | mk l n d cs =>
   unfold PlV at h;obtain ⟨s,A,c,e,⟨A0,c0,rfl,hd⟩,h2,h3,h4⟩:=h;exact ⟨A0,_,c0,A,c,e,⟨A0,c0,rfl,hd⟩,h2,h3,h4⟩
theorem PlV.mk {t:Pl} {s:Value} {A:Option Addr} {c:Nat} (h1:jb w s t.ds) (h2:t.cs.length<=c) (h3:c<=9223372036854775807) (h4:jd w p t.cs A 0):PlV w p t (plV t s (.slice A t.cs.length c)):=by
 cases t with
 | mk l n d cs=>unfold PlV; exact ⟨s,A,c,rfl,h1,h2,h3,h4⟩
theorem jd.kid {l:List Pl} {A:Option Addr} (h:jd w p l A 0) (k:Nat) (hk:k < l.length):∃ ad A0 n0 c0 A1 n1 c1,A=some ad/\ad.block < w.heap.size/\kab w (ad.add (k * 4)) l[k] (.slice A0 n0 c0) (.slice A1 n1 c1)/\PlV w p l[k] (plV l[k] (.slice A0 n0 c0) (.slice A1 n1 c1)):=by
 obtain ⟨ad,s,K,e,hb,-,h1,h2⟩:=jd.get_ l A 0 h k hk;rw [Nat.zero_add] at h1;obtain ⟨A0,n0,c0,A1,c1,e2,-,-⟩:=h2.open_;unfold plV at e2;simp only [Value.agg.injEq,Array.mk.injEq,List.cons.injEq,and_true,true_and] at e2;obtain ⟨rfl,rfl⟩:=e2;exact ⟨ad,A0,n0,c0,A1,_,c1,e,hb,h1,h2⟩
end
def zg (w:World) (g:Nat) (p:Pl) (s A:Value):Prop:=
 w.cell? ⟨g,0,none⟩=some (.int .i64 p.lv)/\w.cell? ⟨g,1,none⟩=some (.bool p.neg)/\w.cell? ⟨g,2,none⟩=some s/\w.cell? ⟨g,3,none⟩=some A
theorem zg.turn {w w':World} {g:Nat} {p:Pl} {s A:Value} (h:zg w g p s A) (hb:w'.heap[g]?=w.heap[g]?):zg w' g p s A:=by
 obtain ⟨h0,h1,h2,h3⟩:=h;have k:∀ i,w'.cell? ⟨g,i,none⟩=w.cell? ⟨g,i,none⟩:=fun i=>World.cell?_of_block (a:=⟨g,i,none⟩) hb
 exact ⟨(k _).trans h0,(k _).trans h1,(k _).trans h2,(k _).trans h3⟩
theorem zg.ext {w w':World} {g:Nat} {p:Pl} {s A:Value} (h:zg w g p s A) (hx:Ext w w') (hg:g < w.heap.size):zg w' g p s A:=h.turn (hx.below.block g hg)
theorem zg.new (w:World) (p:Pl) (s A:Value) (T:TypeId):zg (w.alloc (.cells #[.int .i64 p.lv,.bool p.neg,s,A] T)) w.heap.size p s A:=by
 refine ⟨?_,?_,?_,?_⟩ <;> simp [go_sem]
end Go.Proofs.YtaedbimbbeploaaGreatDoor

/- The builtin append where the two slices' types have different names. -/
namespace Go.Proofs.YtaedbimbbeploaaGreatDoor
open Go.RowKit
theorem uas {P:Program} {t t' e e' ty:TypeId} (ht:P.underlying t=some (.slice e)) (ht':P.underlying t'=some (.slice e')) (s x:Value) (w:World) :
 (Builtin.append_ #[t,t'] ty #[s,x]).run P w=(Builtin.append_ #[t,t] ty #[s,x]).run P w:=by
 cases s with
 | slice b n c =>
   simp only [Builtin.append_,List.getElem?_toArray,List.getElem?_cons_zero,List.getElem?_cons_succ];simp only [Sem.run_bind,run_underlying ht,Result.andThen_ok]
   congr 1
   funext size w'
   rw [run_underlying ht']
   rfl
 | _=>simp [Builtin.append_,run_underlying ht]
section
variable {P:Program} {w:World}
theorem wpList_append_run {ops : Array Oper} {rest : List Oper} {o : Oper} {a : Act} {Q : Exit -> Act -> World -> Prop} (hgd : o.guard = none) (s x : Operand) (t t' : TypeId)
 (ho:o.op=.call { callee:=.builtin .append,args:=#[s,x],argTypes:=#[t,t'] }) (vs vx v':Value) (w':World) (hs:a.eval s=vs) (hx:a.eval x=vx) (hr:(Builtin.append_ #[t,t'] o.type #[vs,vx]).run P w=.ok v' w')
 (h:wpList P ops Q rest (a.put o.dst v') w'):wpList P ops Q (o :: rest) a w:=by
 refine wpList_plain hgd fun K hK=>?_
 unfold Oper.wp execOp;simp only [ho,resolve,invoke,builtin,Sem.run_bind,Sem.run_pure,Result.andThen_ok,List.map_toArray,List.map_cons,List.map_nil,hs,hx,hr];exact hK _ _ h
theorem yab {ops : Array Oper} {o : Oper} {a : Act} {K : Act -> World -> Prop} {Q : Exit -> Act -> World -> Prop} {E : Prop} (hg : o.guard = none) (s x : Operand) (t t' : TypeId)
 (hop:o.op=.call { callee:=.builtin .append,args:=#[s,x],argTypes:=#[t,t'] }) (vs vx v':Value) (w':World) (hs:a.eval s=vs) (hx:a.eval x=vx) (hr:(Builtin.append_ #[t,t'] o.type #[vs,vx]).run P w=.ok v' w')
 (hK:K (a.put o.dst v') w'):if Region.wanted o (yielded ops a.tmps)=true then Oper.wp P o a w K Q else E:=by
 have hw:Region.wanted o (yielded ops a.tmps)=true:=by simp [Region.wanted,hg]
 rw [if_pos hw];unfold Oper.wp;simp [execOp,hop,resolve,invoke,builtin,hs,hx,hr,Result.andThen];exact hK
end
theorem gbg:(Tryz.prog.info? 180).map (fun i=>(i.zero,i.size,i.bytes))=some (some (.int .u32 0),1,4):=by kernel_rfl
theorem jb.of_own {w:World} {base g n cap:Nat} {ds:List Nat} (h:w.ownsRow base 180 1 (.slice (some ⟨g,0,none⟩) n cap) n (yw ds)) (hd:xg ds):jb w (.slice (some ⟨g,0,none⟩) n cap) ds/\base<=g:=by
 have h':=h;obtain ⟨hl,hr⟩:=h;rw [zu,Nat.mul_one] at hl;rcases hr with ⟨hr,-⟩ | ⟨g',cap',cur,e,hb,hg,hc,hm,-⟩
 · cases hr
 · injection e with e1 e2 e3
   injection e1 with e1
   injection e1 with e1
   subst e1 e3;subst hl;refine ⟨⟨_,_,rfl,hc,by unfold maxLen at hm; omega,hd,fun _=>⟨_,rfl,(Array.getElem?_eq_some_iff.1 hg).1,fun j hj=>?_⟩⟩,hb⟩;rw [gp,Nat.zero_add,World.ownsRow.cellAt h' j (by omega)];exact kal ds j hj
theorem xa4 {w:World} {A:Option Addr} {n c:Nat} {ds:List Nat} (h:jb w (.slice A n c) ds) (hpos:0 < ds.length) (hL:ds.length<=35184372088) (b:Addr) (ty:TypeId) :
 ∃ g' cap w',(Builtin.append_ #[22,23] ty #[.slice (some b) 0 0,.slice A n c]).run Tryz.prog w=.ok (.slice (some ⟨g',0,none⟩) n cap) w'/\w'.ownsRow w.heap.size 180 1 (.slice (some ⟨g',0,none⟩) n cap) n (yw ds)/\Ext w w':=by
 obtain ⟨i0,hi,hz0,hz1,hz2⟩:=info_parts gbg;obtain ⟨A',c',e,h1,h2,h3⟩:=h;injection e with e1 e2 e3
 subst e1 e2 e3;obtain ⟨ad,rfl,hb,hcell⟩:=h3.2 hpos;obtain ⟨v',w',hrun,r1,r2⟩:=run_append_arg_grows (P:=Tryz.prog) w 22 ty 180 i0 (.int .u32 0) 1 4 Tryz.underlying22 hi hz0 hz1 hz2 rfl (by omega) b 0 0 [] rfl (by intro j u hu; simp at hu) ad ds.length c (yw ds) (by rw [zu,Nat.mul_one]) (fun j u hu=>by
  have hj:j < ds.length:=by
   have:=(List.getElem?_eq_some_iff.1 hu).1
   rwa [zu] at this
  rw [kal ds j hj] at hu
  rw [hcell j hj]; exact hu) (by omega) (by unfold maxLen; omega) (by omega)
 rw [Nat.zero_add,List.nil_append] at r1;obtain ⟨k,hk⟩:∃ k,ds.length=k+1:=⟨ds.length - 1,by omega⟩;rw [hk] at r1;obtain ⟨g',cap',rfl⟩:=ownsRow_succ r1;rw [<- hk] at r1 hrun;refine ⟨g',cap',w',?_,r1,⟨r2.os,r2.tape,r2.output,r2.size,fun i hi=>r2.block i hi (by simp)⟩⟩;rw [uas Tryz.underlying22 Tryz.underlying23];exact hrun
end Go.Proofs.YtaedbimbbeploaaGreatDoor

/- Growing rows of the call's own, of any type of element that holds no digits. -/
set_option maxRecDepth 100000
set_option maxHeartbeats 8000000
namespace Go.Proofs.YtaedbimbbeploaaGreatDoor
open Go.RowKit
def ja3 (W:World) (v:Value):Prop:=∀ R cur T fr,v.ownBlock=some R->W.heap[R]?=some (.cells cur T fr)->∀ u ∈ cur.toList,yaa u=false
theorem ua9 {W W':World} {v s:Value} {ds:List Nat} (h:jb W s ds) (hg:W.grownBy W' v.ownBlock) (hn:ja3 W v) (hr:∀ R,v.ownBlock=some R->∃ cur T fr,W.heap[R]?=some (.cells cur T fr)):jb W' s ds:=by
 obtain ⟨A,c,e,h1,h2,h3,h4⟩:=h;refine ⟨A,c,e,h1,h2,h3,fun hd=>?_⟩;obtain ⟨ad,e4,hlt,hc⟩:=h4 hd;refine ⟨ad,e4,Nat.lt_of_lt_of_le hlt hg.size,fun j hj=>?_⟩;have hne:v.ownBlock ≠ some ad.block:=fun e=>by
  obtain ⟨cur,T,fr,hb⟩:=hr _ e;have h0:=hc 0 hd;rw [World.cell?,ja,hb] at h0;have hmem:∃ k:Nat,cur[k]?=some (.int .u32 (ds[0]:Nat)):=by
   revert h0
   simp only
   split <;> intro h0
   · cases h0
   · exact ⟨_,h0⟩
  obtain ⟨k,hk⟩:=hmem;have:=hn _ _ _ _ e hb (.int .u32 (ds[0]:Nat)) (by
   obtain ⟨hk1,hk2⟩:=Array.getElem?_eq_some_iff.1 hk
   rw [<- hk2]; simp)
  cases this
 exact (World.cell?_of_block (a:=ad.add j) (by rw [ja]; exact World.grownBy.block hg _ hlt (fun e=>hne e.symm))).trans (hc j hj)
theorem xa5 {W:World} {base size n:Nat} {e:TypeId} {v:Value} {xs:List Value} (h:W.ownsRow base e size v n xs):∀ R,v.ownBlock=some R->∃ cur T fr,W.heap[R]?=some (.cells cur T fr):=by
 intro R hR;obtain ⟨-,⟨rfl,-⟩ | ⟨g,cap,cur,rfl,-,hg,-⟩⟩:=h
 · cases hR
 · have:g=R:=by simpa [Value.ownBlock] using hR
   subst this;exact ⟨cur,_,_,hg⟩
theorem ja3.ext {W W':World} {v:Value} (h:ja3 W v) (hx:∀ R,v.ownBlock=some R->W'.heap[R]?=W.heap[R]?):ja3 W' v:=fun R cur T fr e hb=>h R cur T fr e ((hx R e).symm.trans hb)
structure vap (S T : TypeId) (k bytes : Nat) (Z : Value) : Prop where
 und:Tryz.prog.underlying S=some (.slice T)
 info:(Tryz.prog.info? T).map (fun i=>(i.zero,i.size,i.bytes))=some (some Z,k,bytes)
 cells:Z.cells.size=k
 pos:0 < k
 nodig:∀ u ∈ Z.cells.toList,yaa u=false
theorem kbs {S T:TypeId} {k bytes:Nat} {Z:Value} (R:vap S T k bytes Z) (n:Nat):∀ u ∈ (Builtin.zeroCells Z.cells n).toList,yaa u=false:=by
 intro u hu;unfold Builtin.zeroCells at hu;simp only [Array.toList_map,List.mem_map] at hu;obtain ⟨i,-,rfl⟩:=hu;have hp:=R.pos;have hlt:i % Z.cells.size < Z.cells.size:=Nat.mod_lt _ (by rw [R.cells]; exact hp);rw [getElem!_pos Z.cells (i % Z.cells.size) hlt];exact R.nodig _ (by simp)
def zh (T k base:Nat) (W:World) (v:Value) (n:Nat) (xs:List Value):Prop:=W.ownsRow base T k v n xs/\ja3 W v
theorem zh.nil (T k base:Nat) (W:World):zh T k base W (.slice none 0 0) 0 []:=⟨World.ownsRow_nil _ _ _ _,fun R _ _ _ e=>by cases e⟩
section
variable {T k base base':Nat} {W W':World} {v:Value} {n:Nat} {xs:List Value}
theorem zh.own (h:zh T k base W v n xs) {R:Nat} (hR:v.ownBlock=some R):base<=R/\R < W.heap.size:=World.ownsRow.lt h.1 R hR
theorem zh.len (h:zh T k base W v n xs):∃ A c,v=.slice A n c/\n<=c/\c<=9223372036854775807:=by
 obtain ⟨h3,⟨rfl,h0⟩ | ⟨g,cap,cur,rfl,hb,hg,hc,hm,-⟩⟩:=h.1
 · exact ⟨none,0,by rw [h0],by omega,by omega⟩
 · exact ⟨some ⟨g,0,none⟩,cap,rfl,hc,by unfold maxLen at hm; omega⟩
theorem zh.pos (h:zh T k base W v n xs) (hn:0 < n):∃ g c,v=.slice (some ⟨g,0,none⟩) n c/\n<=c/\c<=9223372036854775807/\base<=g/\g < W.heap.size/\∀ i,W.frozen? ⟨g,i,none⟩=false:=by
 obtain ⟨h3,⟨rfl,h0⟩ | ⟨g,cap,cur,rfl,hb,hg,hc,hm,-⟩⟩:=h.1
 · omega
 · exact ⟨g,cap,rfl,hc,by unfold maxLen at hm; omega,hb,(Array.getElem?_eq_some_iff.1 hg).1,fun i=>by simp [World.frozen?,hg]⟩
theorem zh.turn (h:zh T k base W v n xs) (hb:∀ R,v.ownBlock=some R->W'.heap[R]?=W.heap[R]?):zh T k base W' v n xs:=by
 obtain ⟨⟨h1,h2⟩,h3⟩:=h;refine ⟨⟨h1,?_⟩,h3.ext hb⟩;rcases h2 with h2 | ⟨g,cap,cur,rfl,hbg,hg,h6⟩
 · exact .inl h2
 · exact .inr ⟨g,cap,cur,rfl,hbg,(hb g rfl).trans hg,h6⟩
theorem zh.ext (h:zh T k base W v n xs) (hx:Ext W W'):zh T k base W' v n xs:=h.turn fun R hR=>hx.below.block R (h.own hR).2
theorem zh.cell {g c:Nat} (h:zh T k base W (.slice (some ⟨g,0,none⟩) n c) n xs) (j:Nat) (hj:j < n * k):W.cell? ⟨g,j,none⟩=xs[j]?:=World.ownsRow.cellAt h.1 j hj
end
theorem zh.append {S T : TypeId} {k bytes : Nat} {Z : Value} (R : vap S T k bytes Z) {base : Nat} {W : World} {ov : Value} {n : Nat} {xs : List Value} (h : zh T k base W ov n xs) (hbase : base <= W.heap.size) (a : Addr) (m c : Nat) (news : List Value)
 (hnl:news.length=m * k) (hnc:∀ j u,news[j]?=some u->W.cell? (a.add j)=some u) (h1:∀ u ∈ news,u.oneCell'=true/\yaa u=false) (hm:0 < m) (hlen:(n+m) * bytes<=140737488355328) (hlen2:n+m<=140737488355328) (ty:TypeId) :
 ∃ v4 w4,(Builtin.append_ #[S,S] ty #[ov,.slice (some a) m c]).run Tryz.prog W=.ok v4 w4/\zh T k base w4 v4 (n+m) (xs ++ news)/\W.grownBy w4 ov.ownBlock/\(∀ v ds,jb W v ds->jb w4 v ds)/\(v4.ownBlock=ov.ownBlock\/v4.ownBlock=some W.heap.size):=by
 obtain ⟨o1,hnd⟩:=h;obtain ⟨i0,hi,hz0,hz1,hz2⟩:=info_parts R.info;have hk:=R.pos;obtain ⟨v4,w4,hrun,r1,r2,-,r3⟩:=run_append_own_at (P:=Tryz.prog) W base S ty T i0 Z k bytes R.und hi hz0 hz1 hz2 R.cells hk ov n xs o1 a m c news hnl hnc (fun u hu=>(h1 u hu).1) (by unfold maxLen; omega) hlen hbase;refine ⟨v4,w4,hrun,⟨r1,?_⟩,r2,fun v ds hv=>ua9 hv r2 hnd (xa5 o1),r3⟩;have fin:∀ (xs:List Value) (q:Nat) (w5:World) (l cap:Nat),(∀ u ∈ xs,yaa u=false)->w5.heap.size=W.heap.size->ja3 (w5.alloc (.cells (xs.toArray ++ news.toArray ++ Builtin.zeroCells Z.cells q) T)) (.slice (some ⟨W.heap.size,0,none⟩) l cap):=by
  intro xs q w5 l cap hxs h5 R' cur T' fr hR hb u hu;have hR':W.heap.size=R':=by simpa [Value.ownBlock] using hR
  rw [<- hR',<- h5,heap_alloc_new] at hb;injection hb with hb
  injection hb with hb
  rw [<- hb] at hu;simp only [Array.toList_append,List.mem_append] at hu;rcases hu with (hu | hu) | hu
  · exact hxs u hu
  · exact (h1 u hu).2
  · exact kbs R q u hu
 have hold:∀ g cur,ov.ownBlock=some g->W.heap[g]?=some (.cells cur T (0,0))->∀ u ∈ cur.toList,yaa u=false:=fun g cur e hb=>hnd g cur _ _ e hb
 have hone:m<=m * bytes\/bytes=0:=by
  rcases Nat.eq_zero_or_pos bytes with h | h
  · exact .inr h
  · exact .inl (Nat.le_mul_of_pos_right _ h)
 rcases o1.2 with ⟨rfl,hn0⟩ | ⟨g,cap,cur,rfl,hbg,hg,hncap,hcm,hcs,htake⟩
 · subst hn0;have hr:=run_append_nil (P:=Tryz.prog) W S ty T i0 _ R.und hi hz0 a m c news (by rw [hz1]; exact hnl) hnc hm (by omega) (by rw [hz2]; rw [Nat.zero_add] at hlen; omega);rw [hrun] at hr;injection hr with e1 e2
   subst e1 e2;have:=fin [] (grownCap W m 0 T - m) W.drew m (grownCap W m 0 T) (by simp) rfl;simpa using this
 · by_cases hroom:n+m<=cap
   · have hfit:n * k+news.length<=cur.size:=by
      rw [hcs,hnl,<- Nat.add_mul];exact Nat.mul_le_mul_right _ hroom
     have hr:=run_append_room (P:=Tryz.prog) W S ty T i0 R.und hi g n cap cur hg a m c news (by rw [hz1]; exact hnl) hnc (fun u hu=>(h1 u hu).1) hroom (by rw [hz1]; exact hfit);rw [hrun] at hr;injection hr with e1 e2
     subst e1 e2;intro R' cur' T' fr hR hb u hu;have hR':g=R':=by simpa [Value.ownBlock] using hR
     rw [<- hR',setRow_heap W g cur _ _ _ hg] at hb;injection hb with hb
     injection hb with hb
     rw [<- hb] at hu;simp only [List.mem_append] at hu;rcases hu with (hu | hu) | hu
     · exact hold g cur rfl hg u (List.mem_of_mem_take hu)
     · exact (h1 u hu).2
     · exact hold g cur rfl hg u (List.mem_of_mem_drop hu)
   · have hr:=run_append_grow (P:=Tryz.prog) W S ty T i0 _ R.und hi hz0 ⟨g,0,none⟩ n cap xs (by rw [hz1]; exact o1.1) (o1.cells (g:=g) rfl) a m c news (by rw [hz1]; exact hnl) hnc (by omega) (by omega) (growslice_fits (by omega) (by rw [hz2]; exact hlen));rw [hrun] at hr;injection hr with e1 e2
     subst e1 e2;exact fin xs _ W.drew _ _ (fun u hu=>hold g cur rfl hg u (List.mem_of_mem_take (by rw [htake]; exact hu))) rfl
theorem zh.push {S T : TypeId} {k bytes : Nat} {Z : Value} (R : vap S T k bytes Z) {base : Nat} {W : World} {ov : Value} {n : Nat} {xs : List Value} (h : zh T k base W ov n xs) (hbase : base <= W.heap.size) (news : List Value)
 (hnl:news.length=k) (h1:∀ u ∈ news,u.oneCell'=true/\yaa u=false) (hlen:(n+1) * bytes<=140737488355328) (hlen2:n+1<=140737488355328) (ty:TypeId) :
 ∃ v4 w4,(Builtin.append_ #[S,S] ty #[ov,.slice (some ⟨W.heap.size,0,none⟩) 1 1]).run Tryz.prog (W.alloc (.cells news.toArray T))=.ok v4 w4/\zh T k base w4 v4 (n+1) (xs ++ news)/\W.grownBy w4 ov.ownBlock/\(∀ v ds,jb W v ds->jb w4 v ds)/\(v4.ownBlock=ov.ownBlock\/v4.ownBlock=some (W.heap.size+1)):=by
 have hx:Ext W (W.alloc (.cells news.toArray T)):=(Ext.refl W).alloc _;obtain ⟨v4,w4,e,h2,h3,h4,h5⟩:=zh.append R (h.ext hx) (by have:=hx.size; omega) ⟨W.heap.size,0,none⟩ 1 1 news (by omega) (fun j u hu=>by
  rw [gp,Nat.zero_add,cell_of_row _ _ j _ _ (0,0) (heap_alloc_new W _)]; simpa using hu) h1 (by omega) hlen hlen2 ty
 refine ⟨v4,w4,e,h2,⟨h3.os.trans hx.below.os,h3.tape.trans hx.below.tape,h3.output.trans hx.below.output,Nat.le_trans hx.size h3.size,fun i hi hne=>(World.grownBy.block h3 i (Nat.lt_of_lt_of_le hi hx.size) hne).trans (hx.below.block i hi)⟩,fun v ds hv=>h4 v ds (hv.ext hx),?_⟩
 rwa [World.size_alloc] at h5
end Go.Proofs.YtaedbimbbeploaaGreatDoor
