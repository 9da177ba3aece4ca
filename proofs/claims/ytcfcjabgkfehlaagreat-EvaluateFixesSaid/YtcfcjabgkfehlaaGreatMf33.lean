/- Layer 22: recursive polynomials as values. -/
import Derived.Test.YtcfcjabgkfehlaaGreatMf29
import Derived.Test.YtcfcjabgkfehlaaGreatMf32
import Derived.Test.YtcfcjabgkfehlaaGreatMf0
import Derived.Maps.AppendAt
import Derived.Deep.RegionLawGrows
import Derived.RangeFuncBox
import Derived.Test.YtcfcjabgkfehlaaGreatMf12
import Derived.Test.YtcfcjabgkfehlaaGreatMoMap
set_option linter.unusedSimpArgs false
set_option linter.unusedVariables false

namespace Go.Proofs.YtcfcjabgkfehlaaGreat
open Go.RowKit
def plV (p:Pl) (s A:Value):Value:=.agg #[.int .i64 p.lv,.bool p.neg,s,A]
def xal (w:World) (ad:Addr) (p:Pl) (s A:Value):Prop:=
 w.cell? ad=some (.int .i64 p.lv)/\w.cell? ⟨ad.block,ad.off+1,none⟩=some (.bool p.neg)/\w.cell? ⟨ad.block,ad.off+2,none⟩=some s/\w.cell? ⟨ad.block,ad.off+3,none⟩=some A
mutual
def PlV (w : World) (q : Nat -> Prop) : Pl -> Value -> Prop
 | .mk l n d cs,v=>∃ s A c,v=.agg #[.int .i64 l,.bool n,s,.slice A cs.length c]/\jb w s d/\cs.length<=c/\c<=9223372036854775807/\jd w q cs A 0
def jd (w : World) (q : Nat -> Prop) : List Pl -> Option Addr -> Nat -> Prop
 | [],_,_=>True
 | t :: r,A,j=>(∃ ad s K,A=some ad/\ad.block < w.heap.size/\q ad.block/\xal w (ad.add (j * 4)) t s K/\PlV w q t (plV t s K))/\jd w q r A (j+1)
end
section
variable {w w':World} {p q:Nat->Prop}
theorem jd.get_ (l:List Pl):∀ (A:Option Addr) (j:Nat),jd w p l A j->∀ i (h:i < l.length),∃ ad s K,A=some ad/\ad.block < w.heap.size/\p ad.block/\xal w (ad.add ((j+i) * 4)) l[i] s K/\PlV w p l[i] (plV l[i] s K):=by
 induction l with
 | nil=>intro A j h i hi; simp at hi
 | cons t r ih =>
   intro A j h i hi;unfold jd at h;cases i with
   | zero=>exact h.1
   | succ i =>
     have:=ih A (j+1) h.2 i (by simpa using hi);rw [show j+(i+1)=j+1+i by omega];exact this
theorem jd.of (l:List Pl):∀ (A:Option Addr) (j:Nat),(∀ i (h:i < l.length),∃ ad s K,A=some ad/\ad.block < w.heap.size/\p ad.block/\xal w (ad.add ((j+i) * 4)) l[i] s K/\PlV w p l[i] (plV l[i] s K))->jd w p l A j:=by
 induction l with
 | nil=>intro A j h; unfold jd; trivial
 | cons t r ih =>
   intro A j h;unfold jd;refine ⟨h 0 (by simp),ih A (j+1) fun i hi=>?_⟩;have:=h (i+1) (by simpa using hi);rw [show j+(i+1)=j+1+i by omega] at this;exact this
theorem xal.same {ad:Addr} {t:Pl} {s A:Value} (h:xal w ad t s A) (k0:w'.cell? ad=w.cell? ad) (k:∀ n,n < 4->w'.cell? ⟨ad.block,ad.off+n,none⟩=w.cell? ⟨ad.block,ad.off+n,none⟩):xal w' ad t s A:=by
 obtain ⟨h0,h1,h2,h3⟩:=h;exact ⟨k0.trans h0,(k 1 (by omega)).trans h1,(k 2 (by omega)).trans h2,(k 3 (by omega)).trans h3⟩
theorem xal.ext {ad:Addr} {t:Pl} {s A:Value} (h:xal w ad t s A) (hx:Ext w w') (hb:ad.block < w.heap.size):xal w' ad t s A:=h.same (hx.cell hb) (fun n _=>hx.cell (p:=⟨ad.block,ad.off+n,none⟩) hb)
mutual
theorem PlV.turn (hs : w.heap.size <= w'.heap.size) (hn : ∀ v ds, jb w v ds -> jb w' v ds) (hc : ∀ b, b < w.heap.size -> p b -> q b /\ w'.heap[b]? = w.heap[b]?) : ∀ (t : Pl) (v : Value), PlV w p t v -> PlV w' q t v
 | .mk l n d cs,v,h=>by
   unfold PlV at h ⊢;obtain ⟨s,A,c,e,h1,h2,h3,h4⟩:=h;exact ⟨s,A,c,e,hn _ _ h1,h2,h3,jd.turn hs hn hc cs A 0 h4⟩
theorem jd.turn (hs : w.heap.size <= w'.heap.size) (hn : ∀ v ds, jb w v ds -> jb w' v ds) (hc : ∀ b, b < w.heap.size -> p b -> q b /\ w'.heap[b]? = w.heap[b]?) : ∀ (l : List Pl) (A : Option Addr) (j : Nat), jd w p l A j -> jd w' q l A j
 | [],A,j,h=>by unfold jd; trivial
 | t :: r,A,j,h=>by
   unfold jd at h ⊢;obtain ⟨⟨ad,s,K,e,hb,hpb,h1,h2⟩,h3⟩:=h;obtain ⟨hq,hk⟩:=hc _ hb hpb;exact ⟨⟨ad,s,K,e,Nat.lt_of_lt_of_le hb hs,hq,h1.same (World.cell?_of_block (by rw [ja]; exact hk)) (fun n _=>World.cell?_of_block (a:=⟨(ad.add (j * 4)).block,(ad.add (j * 4)).off+n,none⟩) (by show w'.heap[(ad.add (j * 4)).block]?=_; rw [ja]; exact hk)),PlV.turn hs hn hc t _ h2⟩,jd.turn hs hn hc r A (j+1) h3⟩
end
theorem PlV.turn_ {t:Pl} {v:Value} (hs:w.heap.size<=w'.heap.size) (hn:∀ v ds,jb w v ds->jb w' v ds) (hc:∀ b,b < w.heap.size->p b->q b/\w'.heap[b]?=w.heap[b]?) (h:PlV w p t v):PlV w' q t v:=PlV.turn hs hn hc t v h
theorem PlV.ext {t:Pl} {v:Value} (h:PlV w p t v) (hx:Ext w w'):PlV w' p t v:=PlV.turn hx.size (fun _ _ h=>h.ext hx) (fun b hb hp=>⟨hp,hx.below.block b hb⟩) t v h
theorem jd.ext {l:List Pl} {A:Option Addr} {j:Nat} (h:jd w p l A j) (hx:Ext w w'):jd w' p l A j:=jd.turn hx.size (fun _ _ h=>h.ext hx) (fun b hb hp=>⟨hp,hx.below.block b hb⟩) l A j h
theorem PlV.mono {t:Pl} {v:Value} (h:PlV w p t v) (hp:∀ b,p b->q b):PlV w q t v:=PlV.turn (Nat.le_refl _) (fun _ _ h=>h) (fun b _ h=>⟨hp b h,rfl⟩) t v h
theorem PlV.open_ {t:Pl} {v:Value} (h:PlV w p t v):∃ A0 n0 c0 A c,v=plV t (.slice A0 n0 c0) (.slice A t.cs.length c)/\jb w (.slice A0 n0 c0) t.ds/\t.cs.length<=c/\c<=9223372036854775807/\jd w p t.cs A 0:=by
 cases t with
 | mk l n d cs =>
   unfold PlV at h;obtain ⟨s,A,c,e,⟨A0,c0,rfl,hd⟩,h2,h3,h4⟩:=h;exact ⟨A0,_,c0,A,c,e,⟨A0,c0,rfl,hd⟩,h2,h3,h4⟩
theorem PlV.mk {t:Pl} {s:Value} {A:Option Addr} {c:Nat} (h1:jb w s t.ds) (h2:t.cs.length<=c) (h3:c<=9223372036854775807) (h4:jd w p t.cs A 0):PlV w p t (plV t s (.slice A t.cs.length c)):=by
 cases t with
 | mk l n d cs=>unfold PlV; exact ⟨s,A,c,rfl,h1,h2,h3,h4⟩
theorem jd.kid {l:List Pl} {A:Option Addr} (h:jd w p l A 0) (k:Nat) (hk:k < l.length):∃ ad A0 n0 c0 A1 n1 c1,A=some ad/\ad.block < w.heap.size/\xal w (ad.add (k * 4)) l[k] (.slice A0 n0 c0) (.slice A1 n1 c1)/\PlV w p l[k] (plV l[k] (.slice A0 n0 c0) (.slice A1 n1 c1)):=by
 obtain ⟨ad,s,K,e,hb,-,h1,h2⟩:=jd.get_ l A 0 h k hk;rw [Nat.zero_add] at h1;obtain ⟨A0,n0,c0,A1,c1,e2,-,-⟩:=h2.open_;unfold plV at e2;simp only [Value.agg.injEq,Array.mk.injEq,List.cons.injEq,and_true,true_and] at e2;obtain ⟨rfl,rfl⟩:=e2;exact ⟨ad,A0,n0,c0,A1,_,c1,e,hb,h1,h2⟩
end
def uf (w:World) (g:Nat) (p:Pl) (s A:Value):Prop:=
 w.cell? ⟨g,0,none⟩=some (.int .i64 p.lv)/\w.cell? ⟨g,1,none⟩=some (.bool p.neg)/\w.cell? ⟨g,2,none⟩=some s/\w.cell? ⟨g,3,none⟩=some A
theorem uf.turn {w w':World} {g:Nat} {p:Pl} {s A:Value} (h:uf w g p s A) (hb:w'.heap[g]?=w.heap[g]?):uf w' g p s A:=by
 obtain ⟨h0,h1,h2,h3⟩:=h;have k:∀ i,w'.cell? ⟨g,i,none⟩=w.cell? ⟨g,i,none⟩:=fun i=>World.cell?_of_block (a:=⟨g,i,none⟩) hb
 exact ⟨(k _).trans h0,(k _).trans h1,(k _).trans h2,(k _).trans h3⟩
theorem uf.ext {w w':World} {g:Nat} {p:Pl} {s A:Value} (h:uf w g p s A) (hx:Ext w w') (hg:g < w.heap.size):uf w' g p s A:=h.turn (hx.below.block g hg)
theorem uf.new (w:World) (p:Pl) (s A:Value) (T:TypeId):uf (w.alloc (.cells #[.int .i64 p.lv,.bool p.neg,s,A] T)) w.heap.size p s A:=by
 refine ⟨?_,?_,?_,?_⟩ <;> simp [go_sem]
end Go.Proofs.YtcfcjabgkfehlaaGreat

/- The builtin append where the two slices' types have different names. -/
namespace Go.Proofs.YtcfcjabgkfehlaaGreat
open Go.RowKit
section
variable {P:Program} {w:World}
theorem wpList_append_run {ops : Array Oper} {rest : List Oper} {o : Oper} {a : Act} {Q : Exit -> Act -> World -> Prop} (hgd : o.guard = none) (s x : Operand) (t t' : TypeId)
 (ho:o.op=.call { callee:=.builtin .append,args:=#[s,x],argTypes:=#[t,t'] }) (vs vx v':Value) (w':World) (hs:a.eval s=vs) (hx:a.eval x=vx) (hr:(Builtin.append_ #[t,t'] o.type #[vs,vx]).run P w=.ok v' w')
 (h:wpList P ops Q rest (a.put o.dst v') w'):wpList P ops Q (o :: rest) a w:=by
 refine wpList_plain hgd fun K hK=>?_
 unfold Oper.wp execOp;simp only [ho,resolve,invoke,builtin,Sem.run_bind,Sem.run_pure,Result.andThen_ok,List.map_toArray,List.map_cons,List.map_nil,hs,hx,hr];exact hK _ _ h
theorem xai {ops : Array Oper} {o : Oper} {a : Act} {K : Act -> World -> Prop} {Q : Exit -> Act -> World -> Prop} {E : Prop} (hg : o.guard = none) (s x : Operand) (t t' : TypeId)
 (hop:o.op=.call { callee:=.builtin .append,args:=#[s,x],argTypes:=#[t,t'] }) (vs vx v':Value) (w':World) (hs:a.eval s=vs) (hx:a.eval x=vx) (hr:(Builtin.append_ #[t,t'] o.type #[vs,vx]).run P w=.ok v' w')
 (hK:K (a.put o.dst v') w'):if Region.wanted o (yielded ops a.tmps)=true then Oper.wp P o a w K Q else E:=by
 have hw:Region.wanted o (yielded ops a.tmps)=true:=by simp [Region.wanted,hg]
 rw [if_pos hw];unfold Oper.wp;simp [execOp,hop,resolve,invoke,builtin,hs,hx,hr,Result.andThen];exact hK
end
end Go.Proofs.YtcfcjabgkfehlaaGreat

/- Growing rows of the call's own, of any type of element that holds no digits. -/
set_option maxRecDepth 100000
set_option maxHeartbeats 8000000
namespace Go.Proofs.YtcfcjabgkfehlaaGreat
open Go.RowKit
theorem xbk {w:World} {base base' size n:Nat} {e:TypeId} {v:Value} {xs:List Value} (h:w.ownsRow base e size v n xs) (hb:base'<=base):w.ownsRow base' e size v n xs:=by
 obtain ⟨h1,h2⟩:=h;refine ⟨h1,?_⟩;rcases h2 with h2 | ⟨g,cap,cur,e1,e2,e3⟩
 · exact .inl h2
 · exact .inr ⟨g,cap,cur,e1,Nat.le_trans hb e2,e3⟩
def va2 (W:World) (v:Value):Prop:=∀ R cur T fr,v.ownBlock=some R->W.heap[R]?=some (.cells cur T fr)->∀ u ∈ cur.toList,ku u=false
theorem qa8 {W W':World} {v s:Value} {ds:List Nat} (h:jb W s ds) (hg:W.grownBy W' v.ownBlock) (hn:va2 W v) (hr:∀ R,v.ownBlock=some R->∃ cur T fr,W.heap[R]?=some (.cells cur T fr)):jb W' s ds:=by
 obtain ⟨A,c,e,h1,h2,h3,h4⟩:=h;refine ⟨A,c,e,h1,h2,h3,fun hd=>?_⟩;obtain ⟨ad,e4,hlt,hc⟩:=h4 hd;refine ⟨ad,e4,Nat.lt_of_lt_of_le hlt hg.size,fun j hj=>?_⟩;have hne:v.ownBlock ≠ some ad.block:=fun e=>by
  obtain ⟨cur,T,fr,hb⟩:=hr _ e;have h0:=hc 0 hd;rw [World.cell?,ja,hb] at h0;have hmem:∃ k:Nat,cur[k]?=some (.int .u32 (ds[0]:Nat)):=by
   revert h0
   simp only
   split <;> intro h0
   · cases h0
   · exact ⟨_,h0⟩
  obtain ⟨k,hk⟩:=hmem;have:=hn _ _ _ _ e hb (.int .u32 (ds[0]:Nat)) (by
   obtain ⟨hk1,hk2⟩:=Array.getElem?_eq_some_iff.1 hk
   rw [<- hk2]; simp)
  cases this
 exact (World.cell?_of_block (a:=ad.add j) (by rw [ja]; exact World.grownBy.block hg _ hlt (fun e=>hne e.symm))).trans (hc j hj)
theorem qa4 {W:World} {base size n:Nat} {e:TypeId} {v:Value} {xs:List Value} (h:W.ownsRow base e size v n xs):∀ R,v.ownBlock=some R->∃ cur T fr,W.heap[R]?=some (.cells cur T fr):=by
 intro R hR;obtain ⟨-,⟨rfl,-⟩ | ⟨g,cap,cur,rfl,-,hg,-⟩⟩:=h
 · cases hR
 · have:g=R:=by simpa [Value.ownBlock] using hR
   subst this;exact ⟨cur,_,_,hg⟩
theorem va2.ext {W W':World} {v:Value} (h:va2 W v) (hx:∀ R,v.ownBlock=some R->W'.heap[R]?=W.heap[R]?):va2 W' v:=fun R cur T fr e hb=>h R cur T fr e ((hx R e).symm.trans hb)
structure ka2 (S T : TypeId) (k bytes : Nat) (Z : Value) : Prop where
 und:Tryz.prog.underlying S=some (.slice T)
 info:(Tryz.prog.info? T).map (fun i=>(i.zero,i.size,i.bytes))=some (some Z,k,bytes)
 cells:Z.cells.size=k
 pos:0 < k
 nodig:∀ u ∈ Z.cells.toList,ku u=false
theorem kbo {S T:TypeId} {k bytes:Nat} {Z:Value} (R:ka2 S T k bytes Z) (n:Nat):∀ u ∈ (Builtin.zeroCells Z.cells n).toList,ku u=false:=by
 intro u hu;unfold Builtin.zeroCells at hu;simp only [Array.toList_map,List.mem_map] at hu;obtain ⟨i,-,rfl⟩:=hu;have hp:=R.pos;have hlt:i % Z.cells.size < Z.cells.size:=Nat.mod_lt _ (by rw [R.cells]; exact hp);rw [getElem!_pos Z.cells (i % Z.cells.size) hlt];exact R.nodig _ (by simp)
def yx (T k base:Nat) (W:World) (v:Value) (n:Nat) (xs:List Value):Prop:=W.ownsRow base T k v n xs/\va2 W v
theorem yx.nil (T k base:Nat) (W:World):yx T k base W (.slice none 0 0) 0 []:=⟨World.ownsRow_nil _ _ _ _,fun R _ _ _ e=>by cases e⟩
section
variable {T k base base':Nat} {W W':World} {v:Value} {n:Nat} {xs:List Value}
theorem yx.own (h:yx T k base W v n xs) {R:Nat} (hR:v.ownBlock=some R):base<=R/\R < W.heap.size:=World.ownsRow.lt h.1 R hR
theorem yx.less (h:yx T k base W v n xs) (hb:base'<=base):yx T k base' W v n xs:=⟨xbk h.1 hb,h.2⟩
theorem yx.len (h:yx T k base W v n xs):∃ A c,v=.slice A n c/\n<=c/\c<=9223372036854775807:=by
 obtain ⟨h3,⟨rfl,h0⟩ | ⟨g,cap,cur,rfl,hb,hg,hc,hm,-⟩⟩:=h.1
 · exact ⟨none,0,by rw [h0],by omega,by omega⟩
 · exact ⟨some ⟨g,0,none⟩,cap,rfl,hc,by unfold maxLen at hm; omega⟩
theorem yx.pos (h:yx T k base W v n xs) (hn:0 < n):∃ g c,v=.slice (some ⟨g,0,none⟩) n c/\n<=c/\c<=9223372036854775807/\base<=g/\g < W.heap.size/\∀ i,W.frozen? ⟨g,i,none⟩=false:=by
 obtain ⟨h3,⟨rfl,h0⟩ | ⟨g,cap,cur,rfl,hb,hg,hc,hm,-⟩⟩:=h.1
 · omega
 · exact ⟨g,cap,rfl,hc,by unfold maxLen at hm; omega,hb,(Array.getElem?_eq_some_iff.1 hg).1,fun i=>by simp [World.frozen?,hg]⟩
theorem yx.turn (h:yx T k base W v n xs) (hb:∀ R,v.ownBlock=some R->W'.heap[R]?=W.heap[R]?):yx T k base W' v n xs:=by
 obtain ⟨⟨h1,h2⟩,h3⟩:=h;refine ⟨⟨h1,?_⟩,h3.ext hb⟩;rcases h2 with h2 | ⟨g,cap,cur,rfl,hbg,hg,h6⟩
 · exact .inl h2
 · exact .inr ⟨g,cap,cur,rfl,hbg,(hb g rfl).trans hg,h6⟩
theorem yx.ext (h:yx T k base W v n xs) (hx:Ext W W'):yx T k base W' v n xs:=h.turn fun R hR=>hx.below.block R (h.own hR).2
theorem yx.cell {g c:Nat} (h:yx T k base W (.slice (some ⟨g,0,none⟩) n c) n xs) (j:Nat) (hj:j < n * k):W.cell? ⟨g,j,none⟩=xs[j]?:=World.ownsRow.cellAt h.1 j hj
end
theorem yx.append {S T : TypeId} {k bytes : Nat} {Z : Value} (R : ka2 S T k bytes Z) {base : Nat} {W : World} {ov : Value} {n : Nat} {xs : List Value} (h : yx T k base W ov n xs) (hbase : base <= W.heap.size) (a : Addr) (m c : Nat) (news : List Value)
 (hnl:news.length=m * k) (hnc:∀ j u,news[j]?=some u->W.cell? (a.add j)=some u) (h1:∀ u ∈ news,u.oneCell'=true/\ku u=false) (hm:0 < m) (hlen:(n+m) * bytes<=140737488355328) (hlen2:n+m<=140737488355328) (ty:TypeId) :
 ∃ v4 w4,(Builtin.append_ #[S,S] ty #[ov,.slice (some a) m c]).run Tryz.prog W=.ok v4 w4/\yx T k base w4 v4 (n+m) (xs ++ news)/\W.grownBy w4 ov.ownBlock/\(∀ v ds,jb W v ds->jb w4 v ds)/\(v4.ownBlock=ov.ownBlock\/v4.ownBlock=some W.heap.size):=by
 obtain ⟨o1,hnd⟩:=h;obtain ⟨i0,hi,hz0,hz1,hz2⟩:=info_parts R.info;have hk:=R.pos;obtain ⟨v4,w4,hrun,r1,r2,-,r3⟩:=run_append_own_at (P:=Tryz.prog) W base S ty T i0 Z k bytes R.und hi hz0 hz1 hz2 R.cells hk ov n xs o1 a m c news hnl hnc (fun u hu=>(h1 u hu).1) (by unfold maxLen; omega) hlen hbase;refine ⟨v4,w4,hrun,⟨r1,?_⟩,r2,fun v ds hv=>qa8 hv r2 hnd (qa4 o1),r3⟩;have fin:∀ (xs:List Value) (q:Nat) (w5:World) (l cap:Nat),(∀ u ∈ xs,ku u=false)->w5.heap.size=W.heap.size->va2 (w5.alloc (.cells (xs.toArray ++ news.toArray ++ Builtin.zeroCells Z.cells q) T)) (.slice (some ⟨W.heap.size,0,none⟩) l cap):=by
  intro xs q w5 l cap hxs h5 R' cur T' fr hR hb u hu;have hR':W.heap.size=R':=by simpa [Value.ownBlock] using hR
  rw [<- hR',<- h5,heap_alloc_new] at hb;injection hb with hb
  injection hb with hb
  rw [<- hb] at hu;simp only [Array.toList_append,List.mem_append] at hu;rcases hu with (hu | hu) | hu
  · exact hxs u hu
  · exact (h1 u hu).2
  · exact kbo R q u hu
 have hold:∀ g cur,ov.ownBlock=some g->W.heap[g]?=some (.cells cur T (0,0))->∀ u ∈ cur.toList,ku u=false:=fun g cur e hb=>hnd g cur _ _ e hb
 have hone:m<=m * bytes\/bytes=0:=by
  rcases Nat.eq_zero_or_pos bytes with h | h
  · exact .inr h
  · exact .inl (Nat.le_mul_of_pos_right _ h)
 rcases o1.2 with ⟨rfl,hn0⟩ | ⟨g,cap,cur,rfl,hbg,hg,hncap,hcm,hcs,htake⟩
 · subst hn0;have hr:=run_append_nil (P:=Tryz.prog) W S ty T i0 _ R.und hi hz0 a m c news (by rw [hz1]; exact hnl) hnc hm (by omega) (by rw [hz2]; rw [Nat.zero_add] at hlen; omega);rw [hrun] at hr;injection hr with e1 e2
   subst e1 e2;have:=fin [] (grownCap W m 0 T - m) W.drew m (grownCap W m 0 T) (by simp) rfl;simpa using this
 · by_cases hroom:n+m<=cap
   · have hfit:n * k+news.length<=cur.size:=by
      rw [hcs,hnl,<- Nat.add_mul];exact Nat.mul_le_mul_right _ hroom
     have hr:=run_append_room (P:=Tryz.prog) W S ty T i0 R.und hi g n cap cur hg a m c news (by rw [hz1]; exact hnl) hnc (fun u hu=>(h1 u hu).1) hroom (by rw [hz1]; exact hfit);rw [hrun] at hr;injection hr with e1 e2
     subst e1 e2;intro R' cur' T' fr hR hb u hu;have hR':g=R':=by simpa [Value.ownBlock] using hR
     rw [<- hR',setRow_heap W g cur _ _ _ hg] at hb;injection hb with hb
     injection hb with hb
     rw [<- hb] at hu;simp only [List.mem_append] at hu;rcases hu with (hu | hu) | hu
     · exact hold g cur rfl hg u (List.mem_of_mem_take hu)
     · exact (h1 u hu).2
     · exact hold g cur rfl hg u (List.mem_of_mem_drop hu)
   · have hr:=run_append_grow (P:=Tryz.prog) W S ty T i0 _ R.und hi hz0 ⟨g,0,none⟩ n cap xs (by rw [hz1]; exact o1.1) (o1.cells (g:=g) rfl) a m c news (by rw [hz1]; exact hnl) hnc (by omega) (by omega) (growslice_fits (by omega) (by rw [hz2]; exact hlen));rw [hrun] at hr;injection hr with e1 e2
     subst e1 e2;exact fin xs _ W.drew _ _ (fun u hu=>hold g cur rfl hg u (List.mem_of_mem_take (by rw [htake]; exact hu))) rfl
theorem yx.push {S T : TypeId} {k bytes : Nat} {Z : Value} (R : ka2 S T k bytes Z) {base : Nat} {W : World} {ov : Value} {n : Nat} {xs : List Value} (h : yx T k base W ov n xs) (hbase : base <= W.heap.size) (news : List Value)
 (hnl:news.length=k) (h1:∀ u ∈ news,u.oneCell'=true/\ku u=false) (hlen:(n+1) * bytes<=140737488355328) (hlen2:n+1<=140737488355328) (ty:TypeId) :
 ∃ v4 w4,(Builtin.append_ #[S,S] ty #[ov,.slice (some ⟨W.heap.size,0,none⟩) 1 1]).run Tryz.prog (W.alloc (.cells news.toArray T))=.ok v4 w4/\yx T k base w4 v4 (n+1) (xs ++ news)/\W.grownBy w4 ov.ownBlock/\(∀ v ds,jb W v ds->jb w4 v ds)/\(v4.ownBlock=ov.ownBlock\/v4.ownBlock=some (W.heap.size+1)):=by
 have hx:Ext W (W.alloc (.cells news.toArray T)):=(Ext.refl W).alloc _;obtain ⟨v4,w4,e,h2,h3,h4,h5⟩:=yx.append R (h.ext hx) (by have:=hx.size; omega) ⟨W.heap.size,0,none⟩ 1 1 news (by omega) (fun j u hu=>by
  rw [jq,Nat.zero_add,cell_of_row _ _ j _ _ (0,0) (heap_alloc_new W _)]; simpa using hu) h1 (by omega) hlen hlen2 ty
 refine ⟨v4,w4,e,h2,⟨h3.os.trans hx.below.os,h3.tape.trans hx.below.tape,h3.output.trans hx.below.output,Nat.le_trans hx.size h3.size,fun i hi hne=>(World.grownBy.block h3 i (Nat.lt_of_lt_of_le hi hx.size) hne).trans (hx.below.block i hi)⟩,fun v ds hv=>h4 v ds (hv.ext hx),?_⟩
 rwa [World.size_alloc] at h5
end Go.Proofs.YtcfcjabgkfehlaaGreat

/- Layer 20: sums of terms as values. -/
namespace Go.Proofs.YtcfcjabgkfehlaaGreat
open Go.RowKit
def Cf (w:World) (k:Option Nat) (x:Value) (z:Int):Prop:=match k with
 | none=>uab w x z
 | some L=>yh w x z L
section
variable {w w':World} {k:Option Nat} {x:Value} {z:Int}
theorem Cf.turn (h:Cf w k x z) (hn:∀ v ds,jb w v ds->jb w' v ds):Cf w' k x z:=by
 cases k with
 | none=>obtain ⟨v,e,hv⟩:=h; exact ⟨v,e,hn _ _ hv⟩
 | some L=>obtain ⟨neg,v,ds,e,hv,h1,h2⟩:=h; exact ⟨neg,v,ds,e,hn _ _ hv,h1,h2⟩
theorem Cf.ext (h:Cf w k x z) (hx:Ext w w'):Cf w' k x z:=h.turn fun _ _ hv=>hv.ext hx
theorem Cf.unpack (h:Cf w k x z):∃ b A n c,x=.agg #[.bool b,.slice A n c]:=by
 cases k with
 | none=>exact uab.unpack h
 | some L=>exact yh.unpack h
theorem Cf.raw (h:Cf w k x z):yh w x z (k.getD (dg z.natAbs).length):=by
 cases k with
 | none=>exact uab.raw h
 | some L=>exact h
end
def tmC (b:Bool) (s:Value) (m:Mo):List Value:=[.bool b,s,.int .i64 m.a,.int .i64 m.b,.int .i64 m.c,.int .i64 m.d]
def wax (w:World) (ad:Addr) (b:Bool) (s:Value) (m:Mo):Prop:=
 w.cell? ad=some (.bool b)/\w.cell? ⟨ad.block,ad.off+1,none⟩=some s/\w.cell? ⟨ad.block,ad.off+2,none⟩=some (.int .i64 m.a)/\w.cell? ⟨ad.block,ad.off+3,none⟩=some (.int .i64 m.b)/\w.cell? ⟨ad.block,ad.off+4,none⟩=some (.int .i64 m.c)/\w.cell? ⟨ad.block,ad.off+5,none⟩=some (.int .i64 m.d)
theorem wax.same {w w':World} {ad:Addr} {b:Bool} {s:Value} {m:Mo} (h:wax w ad b s m) (k0:w'.cell? ad=w.cell? ad) (k:∀ n,n < 6->w'.cell? ⟨ad.block,ad.off+n,none⟩=w.cell? ⟨ad.block,ad.off+n,none⟩):wax w' ad b s m:=by
 obtain ⟨h0,h1,h2,h3,h4,h5⟩:=h;exact ⟨k0.trans h0,(k 1 (by omega)).trans h1,(k 2 (by omega)).trans h2,(k 3 (by omega)).trans h3,(k 4 (by omega)).trans h4,(k 5 (by omega)).trans h5⟩
theorem wax.ext {w w':World} {ad:Addr} {b:Bool} {s:Value} {m:Mo} (h:wax w ad b s m) (hx:Ext w w') (hb:ad.block < w.heap.size):wax w' ad b s m:=h.same (hx.cell hb) (fun n _=>hx.cell (p:=⟨ad.block,ad.off+n,none⟩) hb)
def qa1 (w:World) (k:Option Nat) (A:Option Addr) (l:Sp):Prop:=
 ∀ i (h:i < l.length),∃ ad b B n c,A=some ad/\ad.block < w.heap.size/\wax w (ad.add (i * 6)) b (.slice B n c) l[i].2/\Cf w k (.agg #[.bool b,.slice B n c]) l[i].1
def SpV (w:World) (k:Option Nat) (v:Value) (l:Sp):Prop:=∃ A c,v=.slice A l.length c/\l.length<=c/\c<=9223372036854775807/\qa1 w k A l
theorem qa1.ext {w w':World} {k:Option Nat} {A:Option Addr} {l:Sp} (h:qa1 w k A l) (hx:Ext w w'):qa1 w' k A l:=by
 intro i hi;obtain ⟨ad,b,B,n,c,e,hb,h1,h2⟩:=h i hi;exact ⟨ad,b,B,n,c,e,Nat.lt_of_lt_of_le hb hx.size,h1.ext hx (by rw [ja]; exact hb),h2.ext hx⟩
theorem yb7:(Tryz.prog.info? 137).map (fun i=>(i.zero,i.size,i.bytes))=some (some (.agg #[.bool false,.slice none 0 0,.int .i64 0,.int .i64 0,.int .i64 0,.int .i64 0]),6,64):=by kernel_rfl
theorem qcb : ka2 41 137 6 64 (.agg #[.bool false, .slice none 0 0, .int .i64 0, .int .i64 0, .int .i64 0, .int .i64 0]) where
 und:=Tryz.underlying41
 info:=yb7
 cells:=rfl
 pos:=by omega
 nodig:=by
  intro u hu;simp only [Value.cells] at hu;simp only [List.mem_cons,List.not_mem_nil,or_false] at hu;rcases hu with rfl | rfl | rfl | rfl | rfl | rfl <;> rfl
def yao (rs:List (Bool × Value × Int × Mo)):List Value:=rs.flatMap fun r=>tmC r.1 r.2.1 r.2.2.2
theorem wbl (a b:List (Bool × Value × Int × Mo)):yao (a ++ b)=yao a ++ yao b:=by simp [yao]
theorem jau (rs:List (Bool × Value × Int × Mo)) (k:Nat) (hk:k < rs.length) (j:Nat) (hj:j < 6):(yao rs)[k * 6+j]?=(tmC rs[k].1 rs[k].2.1 rs[k].2.2.2)[j]?:=by
 induction rs generalizing k with
 | nil=>simp at hk
 | cons r rs ih =>
   have hl:(tmC r.1 r.2.1 r.2.2.2).length=6:=rfl;simp only [yao,List.flatMap_cons];cases k with
   | zero=>simp only [Nat.zero_mul,Nat.zero_add,List.getElem_cons_zero]; rw [List.getElem?_append_left (by omega)]
   | succ k =>
     rw [List.getElem?_append_right (by omega),hl,show (k+1) * 6+j - 6=k * 6+j by omega];exact ih k (by simpa using hk)
def TsV (k:Option Nat) (base:Nat) (W:World) (v:Value) (l:Sp):Prop:=
 ∃ rs:List (Bool × Value × Int × Mo),rs.map (fun r=>r.2.2)=l/\yx 137 6 base W v rs.length (yao rs)/\∀ r ∈ rs,Cf W k (.agg #[.bool r.1,r.2.1]) r.2.2.1
section
variable {k:Option Nat} {base base':Nat} {W W':World} {v:Value} {l:Sp}
theorem TsV.nil (k:Option Nat) (base:Nat) (W:World):TsV k base W (.slice none 0 0) []:=⟨[],rfl,yx.nil _ _ _ _,by simp⟩
theorem TsV.own (h:TsV k base W v l) {R:Nat} (hR:v.ownBlock=some R):base<=R/\R < W.heap.size:=by
 obtain ⟨rs,-,h2,-⟩:=h;exact h2.own hR
theorem TsV.len (h:TsV k base W v l):∃ A c,v=.slice A l.length c/\l.length<=c/\c<=9223372036854775807:=by
 obtain ⟨rs,rfl,h2,-⟩:=h;rw [List.length_map];exact h2.len
theorem TsV.turn (h:TsV k base W v l) (hb:∀ R,v.ownBlock=some R->W'.heap[R]?=W.heap[R]?) (hn:∀ v ds,jb W v ds->jb W' v ds):TsV k base W' v l:=by
 obtain ⟨rs,e,h2,h3⟩:=h;exact ⟨rs,e,h2.turn hb,fun r hr=>(h3 r hr).turn hn⟩
theorem TsV.ext (h:TsV k base W v l) (hx:Ext W W'):TsV k base W' v l:=h.turn (fun R hR=>hx.below.block R (h.own hR).2) (fun _ _ hv=>hv.ext hx)
theorem TsV.sp (h:TsV k base W v l):SpV W k v l:=by
 obtain ⟨A,c,e,h1,h2⟩:=h.len;obtain ⟨rs,rfl,hr,h3⟩:=h;refine ⟨A,c,e,h1,h2,fun i hi=>?_⟩;rw [List.length_map] at hi;obtain ⟨g,c',e',-,-,-,hlt,-⟩:=hr.pos (by omega);rw [e] at e';injection e' with e1 e2 e3
 subst e1 e3;subst e;rw [List.length_map] at hr;have hcell:∀ j,j < 6->W.cell? ⟨g,i * 6+j,none⟩=(tmC rs[i].1 rs[i].2.1 rs[i].2.2.2)[j]?:=by
  intro j hj;rw [hr.cell (i * 6+j) (by omega)];exact jau rs i hi j hj
 have hc:=h3 rs[i] (List.getElem_mem hi);obtain ⟨b,B,n,c'',e2⟩:=hc.unpack;simp only [Value.agg.injEq,Array.mk.injEq,List.cons.injEq,and_true,Value.bool.injEq] at e2;obtain ⟨rfl,e3⟩:=e2;refine ⟨_,rs[i].1,B,n,c'',rfl,hlt,?_,?_⟩
 · rw [jq,Nat.zero_add,List.getElem_map,<- e3];exact ⟨hcell 0 (by omega),hcell 1 (by omega),hcell 2 (by omega),hcell 3 (by omega),hcell 4 (by omega),hcell 5 (by omega)⟩
 · rw [List.getElem_map,<- e3]; exact hc
end
theorem TsV.push {k:Option Nat} {base:Nat} {W:World} {v:Value} {l:Sp} {b:Bool} {s:Value} {z:Int} (h:TsV k base W v l) (hbase:base<=W.heap.size) (hc:Cf W k (.agg #[.bool b,s]) z) (m:Mo) (hlen:l.length < 1099511627776) (ty:TypeId) :
 ∃ v4 w4,(Builtin.append_ #[41,41] ty #[v,.slice (some ⟨W.heap.size,0,none⟩) 1 1]).run Tryz.prog (W.alloc (.cells #[.bool b,s,.int .i64 m.a,.int .i64 m.b,.int .i64 m.c,.int .i64 m.d] 137))=.ok v4 w4/\TsV k base w4 v4 (l ++ [(z,m)])/\W.grownBy w4 v.ownBlock/\(∀ v ds,jb W v ds->jb w4 v ds)/\(v4.ownBlock=v.ownBlock\/v4.ownBlock=some (W.heap.size+1)):=by
 obtain ⟨rs,rfl,h2,h3⟩:=h;rw [List.length_map] at hlen;obtain ⟨b',B,n,c,e⟩:=hc.unpack;simp only [Value.agg.injEq,Array.mk.injEq,List.cons.injEq,and_true,Value.bool.injEq] at e;obtain ⟨rfl,rfl⟩:=e;obtain ⟨v4,w4,e,r1,r2,r3,r4⟩:=h2.push qcb hbase (tmC b (.slice B n c) m) rfl (by
  intro u hu;simp only [tmC,List.mem_cons,List.not_mem_nil,or_false] at hu
  rcases hu with rfl | rfl | rfl | rfl | rfl | rfl <;> exact ⟨rfl,rfl⟩) (by omega) (by omega) ty
 refine ⟨v4,w4,e,⟨rs ++ [(b,.slice B n c,z,m)],by simp,?_,fun r hr=>?_⟩,r2,r3,r4⟩
 · rw [wbl,List.length_append];exact r1
 · rcases List.mem_append.1 hr with hr | hr
   · exact (h3 r hr).turn r3
   · obtain rfl:r=(b,.slice B n c,z,m):=by simpa using hr
     exact hc.turn r3
def zx (w:World) (g:Nat) (m:Mo):Prop:=
 w.cell? ⟨g,0,none⟩=some (.int .i64 m.a)/\w.cell? ⟨g,1,none⟩=some (.int .i64 m.b)/\w.cell? ⟨g,2,none⟩=some (.int .i64 m.c)/\w.cell? ⟨g,3,none⟩=some (.int .i64 m.d)
theorem zx.turn {w w':World} {g:Nat} {m:Mo} (h:zx w g m) (hb:w'.heap[g]?=w.heap[g]?):zx w' g m:=by
 obtain ⟨h0,h1,h2,h3⟩:=h;have k:∀ i,w'.cell? ⟨g,i,none⟩=w.cell? ⟨g,i,none⟩:=fun i=>World.cell?_of_block (a:=⟨g,i,none⟩) hb
 exact ⟨(k _).trans h0,(k _).trans h1,(k _).trans h2,(k _).trans h3⟩
theorem zx.ext {w w':World} {g:Nat} {m:Mo} (h:zx w g m) (hx:Ext w w') (hg:g < w.heap.size):zx w' g m:=h.turn (hx.below.block g hg)
theorem zx.new (w:World) (m:Mo) (T:TypeId):zx (w.alloc (.cells #[.int .i64 m.a,.int .i64 m.b,.int .i64 m.c,.int .i64 m.d] T)) w.heap.size m:=by
 refine ⟨?_,?_,?_,?_⟩ <;> simp [go_sem]
end Go.Proofs.YtcfcjabgkfehlaaGreat
