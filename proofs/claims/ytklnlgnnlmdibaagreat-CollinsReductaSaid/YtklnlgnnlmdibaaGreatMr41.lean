/- A range over a function whose elements are made anew, as RangeOk, for iterators that hand the loop's body on to other functions. -/
import Derived.RangeFuncNested
import Derived.Test.YtklnlgnnlmdibaaGreatMr37
import Derived.Test.YtklnlgnnlmdibaaGreatMr38
import Derived.Test.YtklnlgnnlmdibaaGreatMr15
import Derived.Test.YtklnlgnnlmdibaaGreatMr40
import Derived.Test.YtklnlgnnlmdibaaGreatMr19
import Derived.Test.YtklnlgnnlmdibaaGreatMr27
import Derived.Test.YtklnlgnnlmdibaaGreatMr34
import Derived.Test.YtklnlgnnlmdibaaGreatMr30
set_option linter.unusedSimpArgs false
set_option linter.unusedVariables false

namespace Go.Proofs.YtklnlgnnlmdibaaGreat
open Go.RowKit
def wce {α:Type} (n:Nat) (P:Program) (g:Nat) (lb:Array Value) (enc:α->Array Value) (Ok:Nat->α->World->Prop) (Kp Rel:World->World->Prop) (N:Nat) (w:World):Prop:=
 ∀ (l:Nat) (J:Nat->World->Prop) (W:World),Below w.heap.size w W->AbidesFrom W.heap.size J->(∀ k A B,J k A->Rel A B->J k B) ->
   (∀ k x W1,k < N->J k W1->Ok k x W1->∀ m,YieldAt Fence.wide m P l (enc x) W1 fun e W'=>e=.returned (.bool true)/\J (k+1) W'/\Kp W1 W') ->
   J 0 W->CallsIn Fence.wide n P g (#[.func (.yield l) #[] #[]] ++ lb) W fun e W'=>(∃ v,e=.returned v)/\J N W'
theorem xb9 {α : Type} {n : Nat} {P : Program} {w : World} {g : Operand} {ps : Array Tmp} {assign body : Code} {Q : Exit -> Act -> World -> Prop} {a : Act}
 (h1:1<=n) {gf:Nat} {lb:Array Value} (hg:a.eval g=.func (.func gf) #[] lb) (eg:∀ args w,(callFunc gf args).run P w=.ok (.enter gf args) w)
 {enc:α->Array Value} {Ok:Nat->α->World->Prop} {Kp Rel:World->World->Prop} {N:Nat} {w0:World} (hseq:wce (n - 1) P gf lb enc Ok Kp Rel N w0) (hRo:∀ A B,Rel A B->∀ (i:Nat) (o:Obj),A.heap[i]?=some o->o.isCells=false->B.heap[i]?=some o)
 (hKt:∀ {A B C:World},Kp A B->Kp B C->Kp A C) (hKb:∀ (W:World) (l:Nat) (o o':Obj),w.heap.size<=l->W.heap[l]?=some o->o.isCells=false->o.isWalk=false->Kp W (W.putObj l o')) (hb0:Below w0.heap.size w0 w) (hps:∀ x,(enc x).size=ps.size)
 (I:Nat->World->Prop) (hI:OwnFrom w.heap.size I) (hRI:∀ k A B,I k A->Rel A B->I k B) (h0:I 0 w) (Ax:Nat->α->Act->World->Prop) (hAx:∀ k x a',OwnFrom w.heap.size (fun (_:Unit) W=>Ax k x a' W))
 (hassign:∀ (m l k:Nat) (x:α) (W:World) (K:Act->World->Prop),k < N->I k W->Ok k x W->(∀ a' W',KeepsFrom w.heap.size W W'->Kp W W'->Ax k x a' W'->K a' W') ->
   assign.wpIn (Fence.wide.inRound l) m P (Exit.then K (fun _ _ _=>False)) { tmps:=(ps.zip (enc x)).foldl (fun t (p,v)=>t.setIfInBounds p v) a.tmps,defers:=[] } W)
 (hbody:∀ (m l k:Nat) (x:α) (a':Act) (W:World),k < N->Ax k x a' W->body.wpIn (Fence.wide.inRound l) m P (xa6 w.heap.size Kp (I (k+1)) W) a' W)
 (hdone:∀ (D:Nat) (W:World),w.heap.size<=D->I N W->W.heap[D]?=some (.deferred (some []))->Q .normal { a with defers:={ target:=.collected D,args:=#[] } :: a.defers } W) :
 (Code.rangeFunc g ps assign body).wpIn Fence.wide n P Q a w:=by
 refine wpIn_rangeFunc fun fn hfn=>?_
 obtain ⟨B,hB⟩:∃ B,w.heap.size=B:=⟨_,rfl⟩
 let rc:LoopState->Option Code->Loop:=fun st pe=>{ state:=st,pending:=pe,fn,tmps:=a.tmps,params:=ps,assign,body,defers:=B }
 obtain ⟨V,hV⟩:∃ V,(w.alloc (.deferred (some []))).alloc (.loop (rc .ready none))=V:=⟨_,rfl⟩;have vL:V.heap[B+1]?=some (.loop (rc .ready none)):=by
  rw [<- hV,<- hB];have:=World.alloc_heap_new (w.alloc (.deferred (some []))) (.loop (rc .ready none))
  rwa [World.size_alloc] at this
 have vD:V.heap[B]?=some (.deferred (some [])):=by
  rw [<- hV,<- hB]; exact (Below.heap_alloc _ _ _ (by simp)).trans (World.alloc_heap_new w _)
 have vI:I 0 V:=by rw [<- hV]; exact hI.alloc _ (hI.alloc _ h0)
 have vB:Below w0.heap.size w0 V:=by
  rw [<- hV]; exact hb0.trans ((((Below.refl _ w).alloc (Nat.le_refl _) _).alloc (by simp) _).mono hb0.size)
 have vS:V.heap.size=B+2:=by rw [<- hV,<- hB]; simp
 rw [hB] at hKb hI hAx hassign hbody hdone
 have walk:∀ {A A':World} {row:Option Nat} {k:Nat} {o:Obj},A.grownBy A' row->(∀ r,row=some r->V.heap.size<=r/\∃ o:Obj,A.heap[r]?=some o/\o.isWalk=true)->A.heap[k]?=some o->o.isWalk=false->A'.heap[k]?=some o:=
  fun hgr hr hk ho=>(grownBy_keeps hgr (fun r e=>(hr r e).2) hk ho).trans hk
 refine ⟨B+1,[{ target:=.collected B,args:=#[] }],V,{ target:=.fn (.func gf) lb,args:=#[.func (.yield (B+1)) #[] #[]] },V,gf,#[.func (.yield (B+1)) #[] #[]] ++ lb,V,?_,?_,?_,?_,fun _=>h1,?_⟩
 · subst hB; rw [<- hV]; exact run_enterLoop_outer _ _ _ _ _
 · simp only [resolve,hg]; simp [go_sem]
 · intro f' hf'; simp [Target.leads] at hf'; subst hf'; trivial
 · simp [invoke,go_sem,eg]
 · refine (hseq (B+1) (fun k W=>I k W/\W.heap[B+1]?=some (.loop (rc .ready none))/\W.heap[B]?=some (.deferred (some []))) V vB (fun k A A' row hs hgr hr=>⟨hI k A A' row hs.1 hgr (fun r e=>?_),walk hgr hr hs.2.1 rfl,walk hgr hr hs.2.2 rfl⟩) (fun k A B hs hr=>⟨hRI k A B hs.1 hr,hRo A B hr _ _ hs.2.1 rfl,hRo A B hr _ _ hs.2.2 rfl⟩) ?_ ⟨vI,vL,vD⟩).mono ?_
   · obtain ⟨h2,o,ho,hw⟩:=hr r e;exact ⟨by omega,o,ho,Obj.not_cells_of_walk hw⟩
   · -- a round
     rintro k x W hk ⟨hi,hl,hd⟩ hok m;refine ⟨fn,_,assign,body,run_yield (P:=P) (args:=enc x) hl (hps x),roundIn_of_wpIn hfn (hassign m _ k x W _ hk hi hok fun a' Wa hka hpa hax=>?_)⟩;have al:=hka.same _ _ (Nat.le_succ _) hl rfl;have ad:=hka.same _ _ (Nat.le_refl _) hd rfl;have asz:=(Array.getElem?_eq_some_iff.1 al).1;refine ⟨_,run_beginRound al rfl,wpIn_mono (hbody m _ k x a' _ hk ((hAx k x a').putObj (s:=()) _ hax (Nat.le_succ _) al rfl)) ?_⟩;have bl:(Wa.putObj (B+1) (.loop (rc .busy none))).heap[B+1]?=some (.loop (rc .busy none)):=World.putObj_heap_same asz;have bd:(Wa.putObj (B+1) (.loop (rc .busy none))).heap[B]?=some (.deferred (some [])):=(World.putObj_heap_other (by omega)).trans ad;have bp:Kp Wa (Wa.putObj (B+1) (.loop (rc .busy none))):=hKb _ _ _ _ (Nat.le_succ _) al rfl rfl;rintro e a3 W3 hp;cases e with
     | normal =>
       obtain ⟨hk3,hp3,hi3⟩:=hp;have cl:=hk3.same _ _ (Nat.le_succ _) bl rfl;have cd:=hk3.same _ _ (Nat.le_refl _) bd rfl;have cs:=(Array.getElem?_eq_some_iff.1 cl).1;exact ⟨_,_,run_endRound (P:=P) none cl,rfl,⟨hI.putObj _ hi3 (Nat.le_succ _) cl rfl,World.putObj_heap_same cs,(World.putObj_heap_other (by omega)).trans cd⟩,hKt hpa (hKt (hKt bp hp3) (hKb _ _ _ _ (Nat.le_succ _) cl rfl rfl))⟩
     | ret=>exact hp.elim
     | exit id=>exact hp.elim
     | goto t=>exact hp.elim
     | panic ch=>exact hp.elim
     | outgrown=>exact hp.elim
   · -- behind the iterator
     rintro e W2 ⟨⟨v,rfl⟩,hi,hl,hd⟩;exact ⟨none,_,run_endLoop (P:=P) hl (by simp [rc]),hdone B _ (Nat.le_refl _) (hI.putObj _ hi (Nat.le_succ _) hl rfl) ((World.putObj_heap_other (by omega)).trans hd)⟩
end Go.Proofs.YtklnlgnnlmdibaaGreat

/- Layer 41: what a round of the range over the projection's elements leaves as it is: all but the list of those found. -/
namespace Go.Proofs.YtklnlgnnlmdibaaGreat
open Go.RowKit
def vab (T:Nat) (W:World) (b:Nat):Prop:=∃ v,W.cell? ⟨T,0,none⟩=some v/\v.ownBlock=some b
structure uf (T : Nat) (A B : World) : Prop where
 size:A.heap.size<=B.heap.size
 obj:∀ (i:Nat) (o:Obj),i ≠ T->¬ vab T A i->A.heap[i]?=some o->o.isCells=true->B.heap[i]?=some o
 own:∀ i,i < A.heap.size->vab T B i->vab T A i
 fresh:(∀ b,vab T A b->b < A.heap.size)->∀ b,vab T B b->b < B.heap.size
 nat:∀ v ds,jc A v ds->jc B v ds
section
variable {T:Nat} {A B C:World}
theorem lt_of_some {W:World} {i:Nat} {o:Obj} (h:W.heap[i]?=some o):i < W.heap.size:=(Array.getElem?_eq_some_iff.1 h).1
theorem uf.trans (h:uf T A B) (k:uf T B C):uf T A C:=
 ⟨Nat.le_trans h.size k.size,fun i o hT hn hi ho=>k.obj i o hT (fun e=>hn (h.own i (lt_of_some hi) e)) (h.obj i o hT hn hi ho) ho,fun i hi e=>h.own i hi (k.own i (Nat.lt_of_lt_of_le hi h.size) e),fun hf=>k.fresh (h.fresh hf),fun v ds hv=>k.nat v ds (h.nat v ds hv)⟩
theorem uf.of_ext (hT:T < A.heap.size) (h:Ext A B):uf T A B:=by
 have hc:B.cell? ⟨T,0,none⟩=A.cell? ⟨T,0,none⟩:=h.cell (p:=⟨T,0,none⟩) hT;exact ⟨h.size,fun i o _ _ hi _=>(h.below.block i (lt_of_some hi)).trans hi,fun i _ ⟨v,hv,e⟩=>⟨v,hc.symm.trans hv,e⟩,fun hf b ⟨v,hv,e⟩=>Nat.lt_of_lt_of_le (hf b ⟨v,hc.symm.trans hv,e⟩) h.size,fun v ds hv=>hv.ext h⟩
theorem uf.putObj (T:Nat) (W:World) (l:Nat) (o o':Obj) (hT:T ≠ l) (h:W.heap[l]?=some o) (ho:o.isCells=false):uf T W (W.putObj l o'):=by
 obtain ⟨h1,h2,h3⟩:=jw.putObj T W l o o' h ho;have hc:(W.putObj l o').cell? ⟨T,0,none⟩=W.cell? ⟨T,0,none⟩:=World.cell?_of_block (a:=⟨T,0,none⟩) (World.putObj_heap_other hT);exact ⟨h1,fun i x hi _ hx hc=>h2 i x hi hx hc,fun i _ ⟨v,hv,e⟩=>⟨v,hc.symm.trans hv,e⟩,fun hf b ⟨v,hv,e⟩=>Nat.lt_of_lt_of_le (hf b ⟨v,hc.symm.trans hv,e⟩) h1,h3⟩
def Safe (T:Nat) (W:World) (b:Nat):Prop:=b < W.heap.size/\b ≠ T/\¬ vab T W b
theorem Safe.keep {b:Nat} (h:Safe T A b) (k:uf T A B):Safe T B b:=⟨Nat.lt_of_lt_of_le h.1 k.size,h.2.1,fun e=>h.2.2 (k.own b h.1 e)⟩
theorem uf.block {b:Nat} (k:uf T A B) (h:Safe T A b) {i:Nat} {v:Value} (hv:A.cell? ⟨b,i,none⟩=some v):B.heap[b]?=A.heap[b]?:=by
 obtain ⟨o,ho,hc⟩:=cells_of_cell hv;exact (k.obj b o h.2.1 h.2.2 ho hc).trans ho.symm
theorem uf.cell {b i:Nat} {v:Value} (k:uf T A B) (h:Safe T A b) (hv:A.cell? ⟨b,i,none⟩=some v):B.cell? ⟨b,i,none⟩=some v:=(World.cell?_of_block (a:=⟨b,i,none⟩) (k.block h hv)).trans hv
theorem uf.cellA {a:Addr} {v:Value} (k:uf T A B) (h:Safe T A a.block) (hv:A.cell? a=some v):B.cell? a=some v:=by
 obtain ⟨o,ho,hc⟩:=cells_of_cell hv;exact (World.cell?_of_block ((k.obj _ o h.2.1 h.2.2 ho hc).trans ho.symm)).trans hv
end
section
variable {w w':World} {p q:Nat->Prop}
mutual
theorem PlV.turnC (hs : w.heap.size <= w'.heap.size) (hn : ∀ v ds, jc w v ds -> jc w' v ds) (hc : ∀ (a : Addr) (v : Value), p a.block -> w.cell? a = some v -> q a.block /\ w'.cell? a = some v) : ∀ (t : Pl) (v : Value), PlV w p t v -> PlV w' q t v
 | .mk l n d cs,v,h=>by
   unfold PlV at h ⊢;obtain ⟨s,A,c,e,h1,h2,h3,h4⟩:=h;exact ⟨s,A,c,e,hn _ _ h1,h2,h3,jd.turnC hs hn hc cs A 0 h4⟩
theorem jd.turnC (hs : w.heap.size <= w'.heap.size) (hn : ∀ v ds, jc w v ds -> jc w' v ds) (hc : ∀ (a : Addr) (v : Value), p a.block -> w.cell? a = some v -> q a.block /\ w'.cell? a = some v) : ∀ (l : List Pl) (A : Option Addr) (j : Nat), jd w p l A j -> jd w' q l A j
 | [],A,j,h=>by unfold jd; trivial
 | t :: r,A,j,h=>by
   unfold jd at h ⊢;obtain ⟨⟨ad,s,K,e,hb,hpb,⟨k0,k1,k2,k3⟩,h2⟩,h3⟩:=h;have hp:p (ad.add (j * 4)).block:=by rw [ja]; exact hpb
   have c0:=hc _ _ hp k0;have hq:q ad.block:=by have:=c0.1; rwa [ja] at this
   exact ⟨⟨ad,s,K,e,Nat.lt_of_lt_of_le hb hs,hq,⟨c0.2,(hc ⟨(ad.add (j * 4)).block,_,none⟩ _ hp k1).2,(hc ⟨(ad.add (j * 4)).block,_,none⟩ _ hp k2).2,(hc ⟨(ad.add (j * 4)).block,_,none⟩ _ hp k3).2⟩,PlV.turnC hs hn hc t _ h2⟩,jd.turnC hs hn hc r A (j+1) h3⟩
end
end
section
variable {T:Nat} {A B:World}
theorem uf.pl {t:Pl} {v:Value} (k:uf T A B) (h:PlV A (Safe T A) t v):PlV B (Safe T B) t v:=PlV.turnC k.size k.nat (fun a v hp hv=>⟨hp.keep k,k.cellA hp hv⟩) t v h
theorem uf.pls {l:List Pl} {D:Option Addr} {j:Nat} (k:uf T A B) (h:jd A (Safe T A) l D j):jd B (Safe T B) l D j:=jd.turnC k.size k.nat (fun a v hp hv=>⟨hp.keep k,k.cellA hp hv⟩) l D j h
theorem jat {b:Nat} (hT:T < A.heap.size) (hf:∀ b,vab T A b->b < A.heap.size) (hx:Ext A B) (hb:A.heap.size<=b) (hB:b < B.heap.size):Safe T B b:=
 ⟨hB,by omega,fun ⟨v,hv,e⟩=>by
   have:=hf b ⟨v,(hx.cell (p:=⟨T,0,none⟩) hT).symm.trans hv,e⟩
   omega⟩
theorem jd.below_ {W:World} {q:Nat->Prop} {l:List Pl} {D:Option Addr} {j:Nat} (h:jd W q l D j):jd W (fun b=>q b/\b < W.heap.size) l D j:=jd.turn (Nat.le_refl _) (fun _ _ h=>h) (fun b hb hq=>⟨⟨hq,hb⟩,rfl⟩) l D j h
theorem jd.mono {W:World} {q q':Nat->Prop} {l:List Pl} {D:Option Addr} {j:Nat} (h:jd W q l D j) (hq:∀ b,b < W.heap.size->q b->q' b):jd W q' l D j:=jd.turn (Nat.le_refl _) (fun _ _ h=>h) (fun b hb hp=>⟨hq b hb hp,rfl⟩) l D j h
def zaj (T:Nat) (W:World) (v:Value) (L:List Pl):Prop:=∃ D c,v=.slice D L.length c/\L.length<=c/\c<=9223372036854775807/\jd W (Safe T W) L D 0
theorem zaj.keep {v:Value} {L:List Pl} (h:zaj T A v L) (k:uf T A B):zaj T B v L:=by
 obtain ⟨D,c,e,h1,h2,h3⟩:=h;exact ⟨D,c,e,h1,h2,k.pls h3⟩
theorem zaj.new {v:Value} {L:List Pl} (hT:T < A.heap.size) (hf:∀ b,vab T A b->b < A.heap.size) (hx:Ext A B) (h:∃ D c,v=.slice D L.length c/\L.length<=c/\c<=9223372036854775807/\jd B (fun b=>A.heap.size<=b) L D 0):zaj T B v L:=by
 obtain ⟨D,c,e,h1,h2,h3⟩:=h;exact ⟨D,c,e,h1,h2,h3.mono fun b hb hq=>jat hT hf hx hq hb⟩
end
def FS (T base:Nat) (W:World) (acc:List Pl):Prop:=T < base/\base<=W.heap.size/\∃ v,W.heap[T]?=some (.cells #[v] 24 (0,0))/\uh base (fun b=>b ≠ T) W v acc
section
variable {T base:Nat} {W W':World} {acc:List Pl}
theorem FS.fresh (h:FS T base W acc):∀ b,vab T W b->b < W.heap.size:=fun b ⟨v,hv,e⟩=>by
 obtain ⟨h1,h2,u,hu,hq⟩:=h;rw [box1 hu] at hv;injection hv with hv
 subst hv;exact (hq.own e).2
theorem FS.lt (h:FS T base W acc):T < W.heap.size:=Nat.lt_of_lt_of_le h.1 h.2.1
theorem FS.ext (h:FS T base W acc) (hx:Ext W W'):FS T base W' acc:=by
 obtain ⟨h1,h2,u,hu,hq⟩:=h;exact ⟨h1,Nat.le_trans h2 hx.size,u,(hx.below.block T (by omega)).trans hu,hq.ext hx⟩
theorem uh.turnC {q:Nat->Prop} {v:Value} {l:List Pl} (h:uh base q W v l) (hs:W.heap.size<=W'.heap.size) (hn:∀ v ds,jc W v ds->jc W' v ds) (ho:∀ (i:Nat) (o:Obj),W.heap[i]?=some o->o.isCells=true->W'.heap[i]?=some o):uh base q W' v l:=by
 obtain ⟨rs,e,h2,h3⟩:=h;refine ⟨rs,e,h2.turn fun R hR=>?_,fun r hr=>⟨(h3 r hr).1,PlV.turnC hs hn (fun a v hp hv=>⟨hp,?_⟩) _ _ (h3 r hr).2⟩⟩
 · obtain ⟨cur,t,fr,hc⟩:=zal h2.1 R hR;rw [hc]; exact ho R _ hc rfl
 · obtain ⟨o,hob,hoc⟩:=cells_of_cell hv;exact (World.cell?_of_block ((ho _ o hob hoc).trans hob.symm)).trans hv
theorem FS.kept {row:Option Nat} (h:FS T base W acc) (hg:W.grownBy W' row) (hr:∀ r,row=some r->∃ o:Obj,W.heap[r]?=some o/\o.isCells=false):FS T base W' acc:=by
 obtain ⟨h1,h2,u,hu,hq⟩:=h;refine ⟨h1,Nat.le_trans h2 hg.size,u,cells_kept hg hr hu,hq.turnC hg.size (fun v ds hv=>wam hg hr hv) fun i o hi hc=>?_⟩;obtain ⟨c,t,f,rfl⟩:∃ c t f,o=.cells c t f:=by cases o <;> simp_all [Obj.isCells]
 exact cells_kept hg hr hi
end
section
variable {W:World} {q:Nat->Prop} {R:Nat}
mutual
theorem PlV.apart (hR : ∀ j x, W.cell? ⟨R, j, none⟩ = some x -> ∃ D n c, x = .slice D n c) : ∀ (t : Pl) (v : Value), PlV W q t v -> PlV W (fun b => q b /\ b ≠ R) t v
 | .mk l n d cs,v,h=>by
   unfold PlV at h ⊢;obtain ⟨s,A,c,e,h1,h2,h3,h4⟩:=h;exact ⟨s,A,c,e,h1,h2,h3,jd.apart hR cs A 0 h4⟩
theorem jd.apart (hR : ∀ j x, W.cell? ⟨R, j, none⟩ = some x -> ∃ D n c, x = .slice D n c) : ∀ (l : List Pl) (A : Option Addr) (j : Nat), jd W q l A j -> jd W (fun b => q b /\ b ≠ R) l A j
 | [],A,j,h=>by unfold jd; trivial
 | t :: r,A,j,h=>by
   unfold jd at h ⊢;obtain ⟨⟨ad,s,K,e,hb,hpb,⟨k0,k1,k2,k3⟩,h2⟩,h3⟩:=h;refine ⟨⟨ad,s,K,e,hb,⟨hpb,fun e=>?_⟩,⟨k0,k1,k2,k3⟩,PlV.apart hR t _ h2⟩,jd.apart hR r A (j+1) h3⟩;obtain ⟨D,n,c,hx⟩:=hR ((ad.add (j * 4)).off+1) _ (by rw [ja,e] at k1; exact k1);cases hx
end
end
def kam (T lo:Nat) (A B:World):Prop:=∃ R i u D n c,lo<=R/\R ≠ T/\¬ vab T A R/\(∀ j x,A.cell? ⟨R,j,none⟩=some x->∃ D n c,x=.slice D n c)/\A.cell? ⟨R,i,none⟩=some u/\B=A.setCell ⟨R,i,none⟩ (.slice D n c)
theorem kam.nat {T lo:Nat} {A B:World} (h:kam T lo A B):∀ v ds,jc A v ds->jc B v ds:=by
 obtain ⟨R,i,u,D,n,c,-,-,-,h4,h5,rfl⟩:=h;obtain ⟨_,_,_,rfl⟩:=h4 i u h5;exact fun v ds hv=>hv.box h5 rfl _
theorem kam.other {T lo:Nat} {A B:World} (h:kam T lo A B):∀ (i:Nat) (o:Obj),A.heap[i]?=some o->o.isCells=false->B.heap[i]?=some o:=by
 obtain ⟨R,i,u,D,n,c,-,-,-,h4,h5,rfl⟩:=h;intro k o hk ho;rw [Below.heap_setCell _ _ _ k (fun e=>?_)]; exact hk;obtain ⟨o',ho',hc'⟩:=cells_of_cell h5;have e':k=R:=e;rw [e',ho'] at hk;injection hk with hk
 rw [hk,ho] at hc';cases hc'
theorem kam.ext {T lo:Nat} {w A B:World} (h:kam T lo A B) (hx:Ext w A) (hlo:w.heap.size<=lo):Ext w B:=by
 obtain ⟨R,i,u,D,n,c,h1,-,-,h4,h5,rfl⟩:=h;exact hx.setCell (Nat.le_trans hlo h1) _
theorem kam.keep {T lo:Nat} {A B:World} (h:kam T lo A B):(∀ b,vab T B b ↔ vab T A b)/\A.heap.size=B.heap.size:=by
 obtain ⟨R,i,u,D,n,c,-,h2,-,h4,h5,rfl⟩:=h;have hc:(A.setCell ⟨R,i,none⟩ (.slice D n c)).cell? ⟨T,0,none⟩=A.cell? ⟨T,0,none⟩:=by rw [World.cell?_setCell_other _ _ _ _ (by intro e; injection e with e; exact h2 e)]
 exact ⟨fun b=>by unfold vab; rw [hc],by simp [World.setCell]⟩
theorem FS.rel {T base lo:Nat} {W W':World} {acc:List Pl} (h:FS T base W acc) (hr:kam T lo W W'):FS T base W' acc:=by
 have hn:=hr.nat;have hk:=hr.keep.2;obtain ⟨R,i,u,D,n,c,h1,h2,h3,h4,h5,rfl⟩:=hr;obtain ⟨g1,g2,v,hv,hq⟩:=h;have hb:∀ k,k ≠ R->(W.setCell ⟨R,i,none⟩ (.slice D n c)).heap[k]?=W.heap[k]?:=fun k hk=>Below.heap_setCell _ _ _ k hk
 refine ⟨g1,by omega,v,(hb T (fun e=>h2 e.symm)).trans hv,?_⟩;obtain ⟨rs,e,q2,q3⟩:=hq;refine ⟨rs,e,q2.turn fun S hS=>hb S (fun e=>h3 ⟨v,box1 hv,by rw [<- e]; exact hS⟩),fun r hr=>⟨(q3 r hr).1,?_⟩⟩;exact PlV.turn_ (by omega) hn (fun b _ hq=>⟨hq.1,hb b hq.2⟩) (PlV.apart h4 _ _ (q3 r hr).2)
structure kaa (T R : Nat) (A B : World) : Prop where
 size:A.heap.size<=B.heap.size
 obj:∀ (i:Nat) (o:Obj),i ≠ T->i ≠ R->¬ vab T A i->A.heap[i]?=some o->o.isCells=true->B.heap[i]?=some o
 own:∀ i,i < A.heap.size->vab T B i->vab T A i
 fresh:(∀ b,vab T A b->b < A.heap.size)->∀ b,vab T B b->b < B.heap.size
 nat:∀ v ds,jc A v ds->jc B v ds
section
variable {T R:Nat} {A B C:World}
theorem kaa.trans (h:kaa T R A B) (k:kaa T R B C):kaa T R A C:=
 ⟨Nat.le_trans h.size k.size,fun i o hT hR hn hi ho=>k.obj i o hT hR (fun e=>hn (h.own i (lt_of_some hi) e)) (h.obj i o hT hR hn hi ho) ho,fun i hi e=>h.own i hi (k.own i (Nat.lt_of_lt_of_le hi h.size) e),fun hf=>k.fresh (h.fresh hf),fun v ds hv=>k.nat v ds (h.nat v ds hv)⟩
theorem uf.x (h:uf T A B) (R:Nat):kaa T R A B:=⟨h.size,fun i o hT _ hn hi ho=>h.obj i o hT hn hi ho,h.own,h.fresh,h.nat⟩
theorem kaa.set {i:Nat} {u:Value} {D:Option Addr} {n c:Nat} (hT:R ≠ T) (hu:A.cell? ⟨R,i,none⟩=some u) (hd:um u=false):kaa T R A (A.setCell ⟨R,i,none⟩ (.slice D n c)):=by
 have hc:(A.setCell ⟨R,i,none⟩ (.slice D n c)).cell? ⟨T,0,none⟩=A.cell? ⟨T,0,none⟩:=by rw [World.cell?_setCell_other _ _ _ _ (by intro e; injection e with e; exact hT e)]
 have hs:(A.setCell ⟨R,i,none⟩ (.slice D n c)).heap.size=A.heap.size:=by simp [World.setCell]
 exact ⟨by omega,fun k o _ hR _ hk _=>by rw [Below.heap_setCell _ _ _ k hR]; exact hk,fun k _ ⟨v,hv,e⟩=>⟨v,hc ▸ hv,e⟩,fun hf b ⟨v,hv,e⟩=>by rw [hs]; exact hf b ⟨v,hc ▸ hv,e⟩,fun v ds hv=>hv.box hu hd _⟩
def yan (T R:Nat) (W:World) (b:Nat):Prop:=Safe T W b/\b ≠ R
theorem yan.keep {b:Nat} (h:yan T R A b) (k:kaa T R A B):yan T R B b:=⟨⟨Nat.lt_of_lt_of_le h.1.1 k.size,h.1.2.1,fun e=>h.1.2.2 (k.own b h.1.1 e)⟩,h.2⟩
theorem kaa.cellA {a:Addr} {v:Value} (k:kaa T R A B) (h:yan T R A a.block) (hv:A.cell? a=some v):B.cell? a=some v:=by
 obtain ⟨o,ho,hc⟩:=cells_of_cell hv;exact (World.cell?_of_block ((k.obj _ o h.1.2.1 h.2 h.1.2.2 ho hc).trans ho.symm)).trans hv
theorem kaa.pls {l:List Pl} {D:Option Addr} {j:Nat} (k:kaa T R A B) (h:jd A (yan T R A) l D j):jd B (yan T R B) l D j:=jd.turnC k.size k.nat (fun a v hp hv=>⟨hp.keep k,k.cellA hp hv⟩) l D j h
end
def kav (T R:Nat) (W:World) (v:Value) (L:List Pl):Prop:=∃ D c,v=.slice D L.length c/\L.length<=c/\c<=9223372036854775807/\jd W (yan T R W) L D 0
theorem kav.keep {T R:Nat} {A B:World} {v:Value} {L:List Pl} (h:kav T R A v L) (k:kaa T R A B):kav T R B v L:=by
 obtain ⟨D,c,e,h1,h2,h3⟩:=h;exact ⟨D,c,e,h1,h2,k.pls h3⟩
theorem kav.rowS {T R:Nat} {A:World} {v:Value} {L:List Pl} (h:kav T R A v L):zaj T A v L:=by
 obtain ⟨D,c,e,h1,h2,h3⟩:=h;exact ⟨D,c,e,h1,h2,h3.mono fun b _ hb=>hb.1⟩
end Go.Proofs.YtklnlgnnlmdibaaGreat

/- Layer 20, plain: the content and the sign normal form of a sum. -/
namespace Go.Proofs.YtklnlgnnlmdibaaGreat
def snc (l:Sp):Nat:=l.foldl (fun a x=>Nat.gcd a x.1.natAbs) 0
theorem qb7 {l:Sp} {k:Nat} (hk:k < l.length):snc (l.take (k+1))=Nat.gcd (snc (l.take k)) l[k].1.natAbs:=by
 unfold snc;rw [List.take_succ_eq_append_getElem hk,List.foldl_append]; rfl
theorem zbg : ∀ (l : Sp) (a : Nat), l.foldl (fun a x => Nat.gcd a x.1.natAbs) a ∣ a /\ ∀ x ∈ l, l.foldl (fun a x => Nat.gcd a x.1.natAbs) a ∣ x.1.natAbs
 | [],a=>⟨Nat.dvd_refl a,fun x hx=>by cases hx⟩
 | y :: r,a=>by
   obtain ⟨h1,h2⟩:=zbg r (Nat.gcd a y.1.natAbs);rw [List.foldl_cons];refine ⟨Nat.dvd_trans h1 (Nat.gcd_dvd_left _ _),fun x hx=>?_⟩;rcases List.mem_cons.1 hx with rfl | hx
   · exact Nat.dvd_trans h1 (Nat.gcd_dvd_right _ _)
   · exact h2 x hx
theorem wa8 {l:Sp}:∀ x ∈ l,snc l ∣ x.1.natAbs:=(zbg l 0).2
theorem kcg {l:Sp} {x:Int × Mo} (hx:x ∈ l) (h0:x.1 ≠ 0):0 < snc l:=Nat.pos_of_dvd_of_pos (wa8 x hx) (by omega)
theorem qbz {l:Sp} {x:Int × Mo} (hx:x ∈ l) (h0:x.1 ≠ 0):snc l<=x.1.natAbs:=Nat.le_of_dvd (by omega) (wa8 x hx)
theorem uck : ∀ (l : Sp) (N : Nat), (∀ x ∈ l, x.1.natAbs <= N) -> snc l <= N
 | l,N,h=>by
   by_cases hx:∃ x ∈ l,x.1 ≠ 0
   · obtain ⟨x,hx,h0⟩:=hx;exact Nat.le_trans (qbz hx h0) (h x hx)
   · have h0:∀ x ∈ l,x.1.natAbs=0:=fun x hx'=>by
      have:¬ x.1 ≠ 0:=fun h=>hx ⟨x,hx',h⟩
      omega
     have:∀ (l:Sp),(∀ x ∈ l,x.1.natAbs=0)->l.foldl (fun a x=>Nat.gcd a x.1.natAbs) 0=0:=by
      intro l
      induction l with
      | nil=>intro _; rfl
      | cons y r ih =>
        intro h;rw [List.foldl_cons,h y List.mem_cons_self];exact ih fun x hx=>h x (List.mem_cons_of_mem _ hx)
     unfold snc;rw [this l h0]; omega
def sdv : Sp -> Int
 | []=>1
 | x :: r=>if x.1 < 0 then -(snc (x :: r):Int) else (snc (x :: r):Int)
def kz (d:Int) (l:Sp):Sp:=l.map fun x=>(x.1.tdiv d,x.2)
def ssn (l:Sp):Sp:=kz (sdv l) l
theorem xa9 {l:Sp} (h:l ≠ []):(sdv l).natAbs=snc l:=by
 cases l with
 | nil=>exact absurd rfl h
 | cons x r =>
   show (if x.1 < 0 then -(snc (x :: r):Int) else (snc (x :: r):Int)).natAbs=snc (x :: r)
   split
   · rw [Int.natAbs_neg,Int.natAbs_natCast]
   · rw [Int.natAbs_natCast]
theorem ya9 {l:Sp}:∀ x ∈ l,sdv l ∣ x.1:=fun x hx=>by
 rw [<- Int.natAbs_dvd_natAbs,xa9 (fun e=>by rw [e] at hx; cases hx)];exact wa8 x hx
theorem wck {l:Sp} (h:∀ x ∈ l,x.1 ≠ 0):sdv l ≠ 0:=by
 cases l with
 | nil=>decide
 | cons x r =>
   have h1:=kcg (l:=x :: r) (x:=x) List.mem_cons_self (h x List.mem_cons_self);have h2:=xa9 (l:=x :: r) (by simp);omega
theorem ubq : ∀ l : Sp, jo l -> ∀ x ∈ l, x.1 ≠ 0
 | [],_,x,hx=>by cases hx
 | (z,m) :: r,h,x,hx=>by
   unfold jo at h;rcases List.mem_cons.1 hx with rfl | hx
   · exact h.1
   · exact ubq r h.2.2 x hx
theorem xa3 {d:Int} {l:Sp} {x:Int × Mo} (h:x ∈ kz d l):∃ y ∈ l,x=(y.1.tdiv d,y.2):=by
 unfold kz at h;obtain ⟨y,hy,e⟩:=List.mem_map.1 h;exact ⟨y,hy,e.symm⟩
theorem ucf {a d:Int} (ha:a ≠ 0) (h:d ∣ a):a.tdiv d ≠ 0:=fun e=>ha (by have:=Int.tdiv_mul_cancel h; rw [e] at this; omega)
theorem jbg {d : Int} : ∀ l : Sp, jo l -> (∀ x ∈ l, d ∣ x.1) -> jo (kz d l)
 | [],_,_=>by trivial
 | (z,m) :: r,h,hd=>by
   have h':=h;unfold jo at h';have e:kz d ((z,m) :: r)=(z.tdiv d,m) :: kz d r:=rfl;rw [e];unfold jo;refine ⟨ucf h'.1 (hd (z,m) List.mem_cons_self),fun x hx=>?_,jbg r h'.2.2 fun x hx=>hd x (List.mem_cons_of_mem _ hx)⟩;obtain ⟨y,hy,rfl⟩:=xa3 hx;exact h'.2.1 y hy
theorem qbg (ρ : Int -> Rat) {d : Int} : ∀ l : Sp, (∀ x ∈ l, d ∣ x.1) -> vk ρ (kz d l) * (d : Rat) = vk ρ l
 | [],_=>by simp [kz,vk]
 | (z,m) :: r,hd=>by
   have e:kz d ((z,m) :: r)=(z.tdiv d,m) :: kz d r:=rfl;have ih:=qbg ρ r fun x hx=>hd x (List.mem_cons_of_mem _ hx)
   have h1:(z:Rat)=((z.tdiv d:Int):Rat) * (d:Rat):=by
    have:=Int.tdiv_mul_cancel (hd (z,m) List.mem_cons_self);rw [<- Rat.intCast_mul,this]
   rw [e];simp only [vk];rw [<- ih,h1]
   grind
theorem ybb {d : Int} : ∀ l : Sp, xg (kz d l) <= xg l
 | []=>Nat.le_refl _
 | (z,m) :: r=>by
   have e:kz d ((z,m) :: r)=(z.tdiv d,m) :: kz d r:=rfl;rw [e];simp only [xg];have:=ybb (d:=d) r;have:(z.tdiv d).natAbs<=z.natAbs:=by rw [Int.natAbs_tdiv]; exact Nat.div_le_self _ _
   omega
theorem xcg {l:Sp} (h:jo l):jo (ssn l):=jbg l h ya9
def snP (p:Pl):Pl:=Pl.ofS (ssn p.sp)
theorem kbf (p:Pl):∀ x ∈ ssn p.sp,x.2.nonneg:=fun x hx=>by
 obtain ⟨y,hy,rfl⟩:=xa3 hx;exact p.sp_nn y hy
theorem gck (p:Pl):(snP p).sp=ssn p.sp:=(Pl.sp_uniq (xcg p.sp_can) (kbf p) fun ρ=>by unfold snP; rw [Pl.ofS_val ρ (kbf p)]).symm
theorem kbq (p:Pl):(snP p).Can:=Pl.ofS_can _
theorem vcg (ρ:Int->Rat) (p:Pl):(snP p).val ρ * (sdv p.sp:Rat)=p.val ρ:=by
 unfold snP;rw [Pl.ofS_val ρ (kbf p),<- Pl.sp_val ρ p];exact qbg ρ p.sp ya9
theorem za9 {p:Pl} {E D:Nat} (h:Fit p E D):Fit (snP p) E D:=
 ⟨kbq p,Pl.ofS_ex fun x hx=>by obtain ⟨y,hy,rfl⟩:=xa3 hx; exact h.sp_le y hy,Nat.lt_of_le_of_lt (Pl.ofS_nr _) (Nat.lt_of_le_of_lt (ybb _) h.sp_nrm)⟩
end Go.Proofs.YtklnlgnnlmdibaaGreat

/- Layer 41, plain: the elements of the projection in their order. -/
namespace Go.Proofs.YtklnlgnnlmdibaaGreat
def qac (l:Int) (r:Pl):List Pl:=ul l r :: xaa l r (jab l r)
def xam (l:Int) (f:Pl):List Pl:=(xh l f).flatMap (qac l) ++ if (xh l f).length=0\/yag l f=true then [] else [uq l 0 ((xh l f).getD 0 Pl.zero)]
def prE (l:Int) (a b:List Pl):List Pl:=a.flatMap fun r=>b.flatMap fun s=>xaa l r s
def wbu (l:Int) (Ls:List (List Pl)):List Pl:=(List.range Ls.length).flatMap fun i=>(Ls.drop (i+1)).flatMap (prE l (Ls.getD i []))
def elems (l:Int) (fs:List Pl):List Pl:=fs.flatMap (xam l) ++ wbu l (fs.map (xh l))
def Seg {α:Type} (M:List α) (k:Nat) (L:List α):Prop:=∃ a b,M=a ++ (L ++ b)/\a.length=k
theorem Seg.get {α:Type} {M:List α} {k:Nat} {L:List α} (h:Seg M k L) (j:Nat) (hj:j < L.length):∃ h':k+j < M.length,M[k+j]=L[j]:=by
 obtain ⟨a,b,rfl,rfl⟩:=h;refine ⟨by simp only [List.length_append]; omega,?_⟩;rw [List.getElem_append_right (by omega)];simp only [Nat.add_sub_cancel_left];rw [List.getElem_append_left hj]
theorem Seg.all {α:Type} (M:List α):Seg M 0 M:=⟨[],[],by simp,rfl⟩
theorem Seg.left {α:Type} {M:List α} {k:Nat} {L R:List α} (h:Seg M k (L ++ R)):Seg M k L:=by
 obtain ⟨a,b,rfl,e⟩:=h;exact ⟨a,R ++ b,by simp,e⟩
theorem Seg.right {α:Type} {M:List α} {k:Nat} {L R:List α} (h:Seg M k (L ++ R)):Seg M (k+L.length) R:=by
 obtain ⟨a,b,rfl,e⟩:=h;exact ⟨a ++ L,b,by simp,by rw [List.length_append,e]⟩
noncomputable def putL (acc:List Pl) (p:Pl):List Pl:=if p.lv=0 then acc else if acc.any (eqB (snP p))=true then acc else acc ++ [snP p]
noncomputable def putA (acc:List Pl) (l:List Pl):List Pl:=l.foldl putL acc
noncomputable def reqL (l:Int) (fs:List Pl):List Pl:=putA [] (elems l fs)
end Go.Proofs.YtklnlgnnlmdibaaGreat

/- Layer 41: collins.principal hands the principal subresultant coefficients on. -/
set_option maxRecDepth 100000
set_option maxHeartbeats 8000000
namespace Go.Proofs.YtklnlgnnlmdibaaGreat
open Go.RowKit Go.Shelf
attribute [local go_sem] Oper.semAt_some
structure Env (T lp : Nat) (J : Nat -> World -> Prop) (M : List Pl) : Prop where
 ext:∀ k W W',J k W->Ext W W'->J k W'
 step:∀ k v W,(h:k < M.length)->J k W->(∃ q,PlV W q M[k] v)->∀ m,YieldAt Fence.wide m Tryz.prog lp #[v] W fun e W'=>e=.returned (.bool true)/\J (k+1) W'/\uf T W W'
structure Fw (T : Nat) (W : World) : Prop where
 lt:T < W.heap.size
 fresh:∀ b,vab T W b->b < W.heap.size
theorem Fw.keep {T:Nat} {A B:World} (h:Fw T A) (k:uf T A B):Fw T B:=⟨Nat.lt_of_lt_of_le h.lt k.size,k.fresh h.fresh⟩
theorem Fw.ext {T:Nat} {A B:World} (h:Fw T A) (hx:Ext A B):Fw T B:=h.keep (uf.of_ext h.lt hx)
def wcd (J:Nat->World->Prop) (T k:Nat) (w:World) (e:Ending) (w':World):Prop:=e=.returned (.bool true)/\J k w'/\uf T w w'
theorem wav {w : World} {T lp k : Nat} {J : Nat -> World -> Prop} {M : List Pl} {r s : Pl} {l : Int} {L : List Pl} (v0 v1 : Value) {q0 q1 : Nat -> Prop} (h0 : PlV w q0 r v0) (h1 : PlV w q1 s v1) (hE : Env T lp J M) (hF : Fw T w) (hJ : J k w) (hS : Seg M k L) (hn : L.length <= 1000)
 (HP:Hid (∀ W',Ext w W'->Calls Tryz.prog 72 #[v0,v1,.int .i64 l] W' (gaf (fun b=>W'.heap.size<=b) L W'))) :
 Calls Tryz.prog 123 #[v0,v1,.int .i64 l,.func (.yield lp) #[] #[]] w (wcd J T (k+L.length) w):=by
 have HE:=Lib.hid hE;have HFW:=Lib.hid hF;have HJ:=Lib.hid hJ;have HS:=Lib.hid hS;have hdd:∀ k:Nat,(Fence.wide.depth.isSome=true->1<=k):=fun k h=>by cases h
 clear hE hF hJ hS;have H0:=Lib.hid h0;have H1:=Lib.hid h1;obtain ⟨A0,m0,e0,B0,f0,rfl,-⟩:=h0.open_;obtain ⟨A1,m1,e1,B1,f1,rfl,-⟩:=h1.open_;obtain ⟨Wx0,hV0⟩:∃ V,(w.alloc (.cells #[.int .i64 r.lv,.bool r.neg,.slice A0 m0 e0,.slice B0 r.cs.length f0] 35))=V:=⟨_,rfl⟩;obtain ⟨W,hV1⟩:∃ V,(Wx0.alloc (.cells #[.int .i64 s.lv,.bool s.neg,.slice A1 m1 e1,.slice B1 s.cs.length f1] 35))=V:=⟨_,rfl⟩;have hs0:Wx0.heap.size=w.heap.size+1:=by rw [<- hV0]; simp
 have hx0:Ext w Wx0:=by rw [<- hV0]; exact (Ext.refl w).alloc _
 have hs1:W.heap.size=w.heap.size+1+1:=by rw [<- hV1,<- hs0]; simp
 have hx1:Ext Wx0 W:=by rw [<- hV1]; exact (Ext.refl Wx0).alloc _
 have hb0:jb W (w.heap.size) r (.slice A0 m0 e0) (.slice B0 r.cs.length f0):=by
  have hh:jb Wx0 w.heap.size r (.slice A0 m0 e0) (.slice B0 r.cs.length f0):=by rw [<- hV0]; exact jb.new w r _ _ _
  exact hh.ext hx1 (by omega)
 have hb1:jb W (w.heap.size+1) s (.slice A1 m1 e1) (.slice B1 s.cs.length f1):=by
  have hh:jb W Wx0.heap.size s (.slice A1 m1 e1) (.slice B1 s.cs.length f1):=by rw [<- hV1]; exact jb.new Wx0 s _ _ _
  rw [hs0] at hh;exact hh
 have HX:=Lib.hid (hx0.trans hx1);have HB0:=Lib.hid hb0;have HB1:=Lib.hid hb1;have hsw:W.heap.size=w.heap.size+1+1:=hs1;clear h0 h1 hx0 hx1 hb0 hb1;obtain ⟨b0,b1,b2,b3⟩:=HB0.out;obtain ⟨d0,d1,d2,d3⟩:=HB1.out;unfold plV at HP ⊢;refine (callsIn_wide (n:=5)).1 ?_;refine callsIn_of_wp Tryz.func123 rfl trivial ?_ rfl;simp only [Tryz.ntmps123,List.size_toArray,List.length_cons,List.length_nil,Nat.reduceAdd,Nat.reduceSub,Array.replicate_succ,Array.replicate_zero,List.push_toArray,List.append_toArray,List.nil_append,List.cons_append]
 gi_wp2_with fail
 clear hV0 hV1;clear b0 b1 b2 b3 d0 d1 d2 d3;refine ⟨trivial,?_⟩;refine (callsIn_wide.2 (HP.out _ HX.out)).mono ?_;rintro e w1 ⟨vr,rfl,row1,x1⟩;have X1:=Lib.hid (HX.out.trans x1);obtain ⟨D0,dc,rfl,hc1,hc2,hat⟩:=row1.at_;have HR1:Hid (zaj T w1 (.slice D0 L.length dc) L):=Lib.hid (zaj.new (HFW.out.ext HX.out).lt (HFW.out.ext HX.out).fresh x1 ⟨D0,dc,rfl,hc1,hc2,hat⟩);clear row1 x1 hat HP hs0 hs1 hsw
 gi_wp2_with fail
 gi_loopw [22] (fun iv wr=>∃ j:Nat,j<=L.length/\iv=.int .i64 j/\Hid (J (k+j) wr/\uf T w wr/\zaj T wr (.slice D0 L.length dc) L)) (fun iv _=>L.length - (intOf iv).toNat)
 case atStart=>exact ⟨0,Nat.zero_le _,rfl,Lib.hid ⟨HE.out.ext _ _ _ HJ.out X1.out,uf.of_ext HFW.out.lt X1.out,HR1.out⟩⟩
 case round =>
  obtain ⟨j,hj,rfl,HI⟩:=hrel
  by_cases hlt:j < L.length
  · obtain ⟨hJ,hK,D0',dc',e',-,-,hat⟩:=HI.out;injection e' with e1 e2 e3
    subst e1 e3;obtain ⟨ad,C0,j0,k0,C1,j1,k1,rfl,hadb,⟨g0,g1,g2,g3⟩,hpk⟩:=hat.kid j hlt;obtain ⟨hkm,hMj⟩:=HS.out.get j hlt;have hfw:=HFW.out.keep hK;obtain ⟨V,hV⟩:∃ V,(wr.alloc (.cells #[.int .i64 L[j].lv,.bool L[j].neg,.slice C0 j0 k0,.slice C1 j1 k1] 35))=V:=⟨_,rfl⟩;have hxV:Ext wr V:=by rw [<- hV]; exact (Ext.refl wr).alloc _
    have hst:=HE.out.step (k+j) _ V hkm (HE.out.ext _ _ _ hJ hxV) ⟨_,by rw [hMj]; exact hpk.ext hxV⟩;obtain ⟨s0,s1,s2,s3⟩:jb V wr.heap.size L[j] (.slice C0 j0 k0) (.slice C1 j1 k1):=by rw [<- hV]; exact jb.new wr L[j] _ _ _
    obtain ⟨fn,tmps,assign,body,hy,hRR⟩:=hst 4;have HRR:=Lib.hid hRR;have HKV:=Lib.hid (hK.trans (uf.of_ext hfw.lt hxV));have HRV:=Lib.hid (HI.out.2.2.keep (uf.of_ext hfw.lt hxV));unfold plV at hy;clear hRR hst hxV hJ hK hat hadb hpk hkm hMj hfw;generalize L[j]=c at *
    gi_wp2_with fail
    clear g0 g1 g2 g3 hV s0 s1 s2 s3;refine HRR.out.mono ?_;rintro e W2 ⟨rfl,hJ2,hK2⟩;have HN:Hid (J (k+(j+1)) W2/\uf T w W2/\zaj T W2 (.slice (some ad) L.length dc) L):=Lib.hid ⟨by rw [<- Nat.add_assoc]; exact hJ2,HKV.out.trans hK2,HRV.out.keep hK2⟩;clear hJ2 hK2 HRR hy HI
    gi_wp2_with fail
    go_roundw
    case rel=>exact ⟨j+1,by omega,by go_num,HN.out⟩
    case measure=>simp [intOf]; omega
  · obtain rfl:j=L.length:=by omega
    have hf:=HI.out;clear HI
    gi_wp2_with fail
    exact bodyPost_ret (v:=.bool true) (by simp [results,Tryz.results123,go_sem]) rfl ⟨rfl,hf.1,hf.2.1⟩
end Go.Proofs.YtklnlgnnlmdibaaGreat

/- Layer 41: collins.pair. -/
set_option maxRecDepth 100000
set_option maxHeartbeats 8000000
namespace Go.Proofs.YtklnlgnnlmdibaaGreat
open Go.RowKit Go.Shelf
attribute [local go_sem] Oper.semAt_some
theorem uz {α β:Type} (f:α->List β) (A:List α) (i:Nat) (hi:i < A.length):((A.take (i+1)).flatMap f).length=((A.take i).flatMap f).length+(f A[i]).length:=by
 rw [List.take_succ_eq_append_getElem hi,List.flatMap_append,List.length_append]; simp
theorem Seg.flat {α β:Type} {M:List β} {k:Nat} {f:α->List β} {A:List α} (h:Seg M k (A.flatMap f)) (i:Nat) (hi:i < A.length):Seg M (k+((A.take i).flatMap f).length) (f A[i]):=by
 have e:A.flatMap f=(A.take i).flatMap f ++ (f A[i] ++ (A.drop (i+1)).flatMap f):=by
  conv=>lhs; rw [<- List.take_append_drop i A,List.flatMap_append,List.drop_eq_getElem_cons hi,List.flatMap_cons]
 rw [e] at h;exact h.right.left
theorem yca {w : World} {T lp k : Nat} {J : Nat -> World -> Prop} {M : List Pl} {A B : List Pl} {l : Int} (va vb : Value) (ha : zaj T w va A) (hb : zaj T w vb B) (hE : Env T lp J M) (hF : Fw T w) (hJ : J k w) (hS : Seg M k (prE l A B)) (hAn : A.length <= 1000000) (hBn : B.length <= 1000000)
 (HP:Hid (∀ r ∈ A,∀ s ∈ B,(xaa l r s).length<=1000/\∀ W' v0 v1 q0 q1,PlV W' q0 r v0->PlV W' q1 s v1->Calls Tryz.prog 72 #[v0,v1,.int .i64 l] W' (gaf (fun b=>W'.heap.size<=b) (xaa l r s) W'))) :
 Calls Tryz.prog 98 #[va,vb,.int .i64 l,.func (.yield lp) #[] #[]] w (wcd J T (k+(prE l A B).length) w):=by
 have HE:=Lib.hid hE;have HFW:=Lib.hid hF;have HJ:=Lib.hid hJ;have HS:=Lib.hid hS;have HA:=Lib.hid ha;have HB:=Lib.hid hb;obtain ⟨D0,c0,rfl,hc1,hc2,-⟩:=ha;obtain ⟨E0,d0,rfl,hd1,hd2,-⟩:=hb;clear hE hF hJ hS;refine (callsIn_wide (n:=5)).1 ?_;refine callsIn_of_wp Tryz.func98 rfl trivial ?_ rfl;simp only [Tryz.ntmps98,List.size_toArray,List.length_cons,List.length_nil,Nat.reduceAdd,Nat.reduceSub,Array.replicate_succ,Array.replicate_zero,List.push_toArray,List.append_toArray,List.nil_append,List.cons_append]
 gi_wp2_with fail
 gi_loopw [15] (fun iv wr=>∃ i:Nat,i<=A.length/\iv=.int .i64 i/\Hid (J (k+(prE l (A.take i) B).length) wr/\uf T w wr)) (fun iv _=>A.length - (intOf iv).toNat)
 case atStart=>exact ⟨0,Nat.zero_le _,rfl,Lib.hid ⟨by simpa [prE] using HJ.out,uf.of_ext HFW.out.lt (Ext.refl w)⟩⟩
 case round =>
  obtain ⟨i,hi,rfl,HI⟩:=hrel
  by_cases hlt:i < A.length
  · obtain ⟨hJ,hK⟩:=HI.out;have hfw:=HFW.out.keep hK;obtain ⟨D0',c0',e',-,-,hat⟩:=HA.out.keep hK;injection e' with e1 e2 e3
    subst e1 e3;obtain ⟨ad,C0,j0,k0,C1,j1,k1,rfl,hadb,⟨g0,g1,g2,g3⟩,hpk⟩:=hat.kid i hlt;have HSEG:=Lib.hid (HS.out.flat i hlt);have HLEN:=Lib.hid (uz (fun r=>B.flatMap fun s=>xaa l r s) A i hlt);have HPR:=Lib.hid (HP.out A[i] (List.getElem_mem hlt));obtain ⟨V,hV⟩:∃ V,(wr.alloc (.cells #[.int .i64 A[i].lv,.bool A[i].neg,.slice C0 j0 k0,.slice C1 j1 k1] 35))=V:=⟨_,rfl⟩;have hxV:Ext wr V:=by rw [<- hV]; exact (Ext.refl wr).alloc _
    have hboxV:jb V wr.heap.size A[i] (.slice C0 j0 k0) (.slice C1 j1 k1):=by rw [<- hV]; exact jb.new wr A[i] _ _ _
    have HBOX:=Lib.hid hboxV;have hsafe:Safe T V wr.heap.size:=jat hfw.lt hfw.fresh hxV (Nat.le_refl _) (by rw [<- hV]; simp);have HSAFE:=Lib.hid hsafe;have HKV:=Lib.hid (hK.trans (uf.of_ext hfw.lt hxV));have HJV:=Lib.hid (HE.out.ext _ _ _ hJ hxV);have HPK:=Lib.hid ((uf.of_ext hfw.lt hxV).pl hpk);obtain ⟨g,hg⟩:∃ g,wr.heap.size=g:=⟨_,rfl⟩;rw [hg] at HBOX HSAFE;obtain ⟨n0,hn0⟩:∃ n0,k+(prE l (A.take i) B).length=n0:=⟨_,rfl⟩;have HN0:=Lib.hid hn0;unfold prE at hn0;rw [hn0] at HSEG;rw [HN0.out] at HJV;clear hJ hK hat hadb hpk hfw hxV hboxV hsafe HI hn0;generalize A[i]=r at *
    gi_wp2_with fail
    try rw [hg]
    clear g0 g1 g2 g3 hV hg
    gi_loopw [21] (fun iv wr=>∃ j:Nat,j<=B.length/\iv=.int .i64 j/\Hid (J (n0+((B.take j).flatMap fun s=>xaa l r s).length) wr/\uf T V wr)) (fun iv _=>B.length - (intOf iv).toNat)
    case atStart=>exact ⟨0,Nat.zero_le _,rfl,Lib.hid ⟨by simpa using HJV.out,uf.of_ext (HFW.out.keep HKV.out).lt (Ext.refl V)⟩⟩
    case round =>
     obtain ⟨j,hj,rfl,HI2⟩:=hrel
     by_cases hlt2:j < B.length
     · obtain ⟨hJ2,hK2⟩:=HI2.out;have hfw2:=(HFW.out.keep HKV.out).keep hK2;obtain ⟨E0',d0',e',-,-,hat2⟩:=(HB.out.keep HKV.out).keep hK2;injection e' with e1 e2 e3
       subst e1 e3;obtain ⟨ad2,G0,i0,h0,G1,i1,h1,rfl,hadb2,⟨f0,f1,f2,f3⟩,hpk2⟩:=hat2.kid j hlt2;have HSEG2:=Lib.hid (HSEG.out.flat j hlt2);have HLEN2:=Lib.hid (uz (fun s=>xaa l r s) B j hlt2);obtain ⟨hpn,hps⟩:=HPR.out B[j] (List.getElem_mem hlt2);obtain ⟨U,hU⟩:∃ U,(wr.alloc (.cells #[.int .i64 B[j].lv,.bool B[j].neg,.slice G0 i0 h0,.slice G1 i1 h1] 35))=U:=⟨_,rfl⟩;have hxU:Ext wr U:=by rw [<- hU]; exact (Ext.refl wr).alloc _
       obtain ⟨s0,s1,s2,s3⟩:jb U wr.heap.size B[j] (.slice G0 i0 h0) (.slice G1 i1 h1):=by rw [<- hU]; exact jb.new wr B[j] _ _ _
       have hKU:=hK2.trans (uf.of_ext hfw2.lt hxU);obtain ⟨b0,b1,b2,b3⟩:jb U g r (.slice C0 j0 k0) (.slice C1 j1 k1):=⟨hKU.cell HSAFE.out HBOX.out.1,hKU.cell HSAFE.out HBOX.out.2.1,hKU.cell HSAFE.out HBOX.out.2.2.1,hKU.cell HSAFE.out HBOX.out.2.2.2⟩;have HPRI:=Lib.hid (wav (k:=n0+((B.take j).flatMap fun s=>xaa l r s).length) _ _ (hKU.pl HPK.out) (hpk2.ext hxU) HE.out (hfw2.ext hxU) (HE.out.ext _ _ _ hJ2 hxU) HSEG2.out hpn (Lib.hid fun W' hx=>hps W' _ _ _ _ ((hKU.pl HPK.out).ext hx) ((hpk2.ext hxU).ext hx)));have HKU:=Lib.hid hKU;unfold plV at HPRI;clear hJ2 hK2 hfw2 hat2 hadb2 hpk2 hxU hKU hps HI2;generalize B[j]=s at *
       gi_wp2_with fail
       clear f0 f1 f2 f3 hU s0 s1 s2 s3 b0 b1 b2 b3;refine ⟨trivial,?_⟩;refine (callsIn_wide.2 HPRI.out).mono ?_;rintro e W2 ⟨rfl,hJ3,hK3⟩;have HN:Hid (J (n0+((B.take (j+1)).flatMap fun s=>xaa l r s).length) W2/\uf T V W2):=Lib.hid ⟨by rw [HLEN2.out,<- Nat.add_assoc]; exact hJ3,HKU.out.trans hK3⟩;clear hJ3 hK3 HPRI
       gi_wp2_with fail
       go_roundw
       case rel=>exact ⟨j+1,by omega,by go_num,HN.out⟩
       case measure=>simp [intOf]; omega
     · obtain rfl:j=B.length:=by omega
       have hf:=HI2.out;rw [List.take_length] at hf
       have HN:Hid (J (k+(prE l (A.take (i+1)) B).length) wr/\uf T w wr):=Lib.hid ⟨by
        have h1:=HLEN.out;have h2:=HN0.out;unfold prE at h2 ⊢
        rw [h1,<- Nat.add_assoc,h2]; exact hf.1,HKV.out.trans hf.2⟩
       clear HI2 hf
       gi_wp2_with fail
       go_roundw
       case rel=>exact ⟨i+1,by omega,by go_num,HN.out⟩
       case measure=>simp [intOf]; omega
  · obtain rfl:i=A.length:=by omega
    have hf:=HI.out;rw [List.take_length] at hf;clear HI
    gi_wp2_with fail
    exact bodyPost_ret (v:=.bool true) (by simp [results,Tryz.results98,go_sem]) rfl ⟨rfl,hf.1,hf.2⟩
end Go.Proofs.YtklnlgnnlmdibaaGreat

/- Layer 41: collins.single. -/
set_option maxRecDepth 100000
set_option maxHeartbeats 8000000
namespace Go.Proofs.YtklnlgnnlmdibaaGreat
open Go.RowKit Go.Shelf
attribute [local go_sem] Oper.semAt_some
theorem wa7 (a:Addr):a.add 0=a:=by simp [Addr.add]
def tailE (l:Int) (A:List Pl) (c:Bool):List Pl:=if A.length=0\/c=true then [] else [uq l 0 (A.getD 0 Pl.zero)]
theorem ubt {w : World} {T lp k E D : Nat} {J : Nat -> World -> Prop} {M : List Pl} {A : List Pl} {l : Int} {c : Bool} (va : Value) (hl : 1 <= l) (hl4 : l <= 4) (ha : zaj T w va A) (hE : Env T lp J M) (hF : Fw T w) (hJ : J k w) (hS : Seg M k (A.flatMap (qac l) ++ tailE l A c)) (hAn : A.length <= 1000000) (hfit : ∀ r ∈ A, Fit r E D) (hE6 : E <= 62) (hD : D <= 1099511627774)
 (HP:Hid (∀ r ∈ A,(xaa l r (jab l r)).length<=1000/\∀ W' v0 v1 q0 q1,PlV W' q0 r v0->PlV W' q1 (jab l r) v1->Calls Tryz.prog 72 #[v0,v1,.int .i64 l] W' (gaf (fun b=>W'.heap.size<=b) (xaa l r (jab l r)) W'))) :
 Calls Tryz.prog 97 #[va,.bool c,.int .i64 l,.func (.yield lp) #[] #[]] w (wcd J T (k+(A.flatMap (qac l) ++ tailE l A c).length) w):=by
 have HE:=Lib.hid hE;have HFW:=Lib.hid hF;have HJ:=Lib.hid hJ;have HS:=Lib.hid hS.left;have HST:=Lib.hid hS.right;have HA:=Lib.hid ha;have HFIT:=Lib.hid hfit;have hdd:∀ k:Nat,(Fence.wide.depth.isSome=true->1<=k):=fun k h=>by cases h
 have hmx:Tryz.prog.follows .mixedOrders=true:=by kernel_rfl
 obtain ⟨D0,c0,rfl,hc1,hc2,-⟩:=ha;obtain ⟨N,hN⟩:∃ N,k+(A.flatMap (qac l) ++ tailE l A c).length=N:=⟨_,rfl⟩;rw [hN];have HNN:=Lib.hid hN.symm;clear hN;clear hE hF hJ hS hfit;refine (callsIn_wide (n:=5)).1 ?_;refine callsIn_of_wp Tryz.func97 rfl trivial ?_ rfl;simp only [Tryz.ntmps97,List.size_toArray,List.length_cons,List.length_nil,Nat.reduceAdd,Nat.reduceSub,Array.replicate_succ,Array.replicate_zero,List.push_toArray,List.append_toArray,List.nil_append,List.cons_append]
 gi_wp2_with fail
 gi_loopw [13] (fun iv wr=>∃ i:Nat,i<=A.length/\iv=.int .i64 i/\Hid (J (k+((A.take i).flatMap (qac l)).length) wr/\uf T w wr)) (fun iv _=>A.length - (intOf iv).toNat)
 case atStart=>exact ⟨0,Nat.zero_le _,rfl,Lib.hid ⟨by simpa using HJ.out,uf.of_ext HFW.out.lt (Ext.refl w)⟩⟩
 case round =>
  obtain ⟨i,hi,rfl,HI⟩:=hrel
  by_cases hlt:i < A.length
  · obtain ⟨hJ,hK⟩:=HI.out;have hfw:=HFW.out.keep hK;obtain ⟨D0',c0',e',-,-,hat⟩:=HA.out.keep hK;injection e' with e1 e2 e3
    subst e1 e3;obtain ⟨ad,C0,j0,k0,C1,j1,k1,rfl,hadb,⟨g0,g1,g2,g3⟩,hpk⟩:=hat.kid i hlt;have hseg:=HS.out.flat i hlt;have hlen:=uz (qac l) A i hlt;have hfr:=HFIT.out A[i] (List.getElem_mem hlt);obtain ⟨hpn,hps⟩:=HP.out A[i] (List.getElem_mem hlt);obtain ⟨V,hV⟩:∃ V,(wr.alloc (.cells #[.int .i64 A[i].lv,.bool A[i].neg,.slice C0 j0 k0,.slice C1 j1 k1] 35))=V:=⟨_,rfl⟩;have hxV:Ext wr V:=by rw [<- hV]; exact (Ext.refl wr).alloc _
    have hboxV:jb V wr.heap.size A[i] (.slice C0 j0 k0) (.slice C1 j1 k1):=by rw [<- hV]; exact jb.new wr A[i] _ _ _
    have hsafe:Safe T V wr.heap.size:=jat hfw.lt hfw.fresh hxV (Nat.le_refl _) (by rw [<- hV]; simp);have hfwV:=hfw.ext hxV;have HFV:=Lib.hid hfwV;have hwV:wr.heap.size < V.heap.size:=hsafe.1;have HBOX:=Lib.hid hboxV;have HSAFE:=Lib.hid hsafe;have HKV:=Lib.hid (hK.trans (uf.of_ext hfw.lt hxV));have HJV:=Lib.hid (HE.out.ext _ _ _ hJ hxV);have HPK:=Lib.hid ((uf.of_ext hfw.lt hxV).pl hpk);have HPS:=Lib.hid hps;have hMj:=Seg.get (L:=qac l A[i]) hseg 0 (by simp [qac]);have HMJ:Hid (∃ h:(k+((A.take i).flatMap (qac l)).length) < M.length,M[k+((A.take i).flatMap (qac l)).length]=ul l A[i]):=Lib.hid hMj;have HSEG:Hid (Seg M (k+((A.take i).flatMap (qac l)).length+1) (xaa l A[i] (jab l A[i]))):=Lib.hid (Seg.right (L:=[ul l A[i]]) (R:=xaa l A[i] (jab l A[i])) hseg);have HLEN:Hid (((A.take (i+1)).flatMap (qac l)).length=((A.take i).flatMap (qac l)).length+((xaa l A[i] (jab l A[i])).length+1)):=Lib.hid hlen;have HLD:=Lib.hid (fun (W':World) (q:Nat->Prop) (u:Value) (hu:PlV W' q A[i] u)=>qal u hl hl4 hfr (by omega) (by omega) hu);have HDR:=Lib.hid (fun (W':World) (q:Nat->Prop) (u:Value) (hu:PlV W' q A[i] u)=>gca u hl hl4 hfr hE6 hD hu);obtain ⟨g,hg⟩:∃ g,wr.heap.size=g:=⟨_,rfl⟩;obtain ⟨n0,hn0⟩:∃ n0,k+((A.take i).flatMap (qac l)).length=n0:=⟨_,rfl⟩;rw [hn0] at HJV HMJ HSEG;have HN0:=Lib.hid hn0;rw [hg] at HBOX HSAFE hwV;have hd:Ext V V.drew:=(Ext.refl V).drew;have HVD:=Lib.hid hd;obtain ⟨s0,s1,s2,s3⟩:=HBOX.out;obtain ⟨s0',s1',s2',s3'⟩:=HBOX.out.ext hd hwV;clear hJ hK hat hadb hpk hfw hxV hboxV hsafe HI hn0 hMj hseg hlen hfr hps hd hfwV;generalize A[i]=r at *;unfold plV at HPK
    gi_wp2_with fail
    try rw [hg]
    clear g0 g1 g2 g3 hV hg s0 s1 s2 s3
    gi_region_with_o (first
     | (go_simp
        (try refine ⟨hdd _,?_⟩)
        (try refine ⟨trivial,?_⟩)
        refine (callsIn_wide.2 (HLD.out _ _ _ (HPK.out.ext HVD.out))).mono ?_;rintro e v1 ⟨lv,rfl,pl,x1⟩;have X1:=Lib.hid (HVD.out.trans x1);obtain ⟨F0,i0,h0,F1,h1,rfl,-⟩:=id pl.open_;obtain ⟨hMl,hMe⟩:=HMJ.out;obtain ⟨fn,tmps,assign,body,hy,hRR⟩:=HE.out.step n0 _ v1 hMl (HE.out.ext _ _ _ HJV.out X1.out) ⟨_,by rw [hMe]; exact pl⟩ 4;have HRR:=Lib.hid hRR;unfold plV at hy ⊢
        clear hRR x1 pl hMl hMe)
     | (go_simp
        (try refine ⟨hdd _,?_⟩)
        refine HRR.out.mono ?_;rintro e v2 ⟨rfl,hj2,hk2⟩;have hk2':=(uf.of_ext HFV.out.lt X1.out).trans hk2;obtain ⟨q0,q1,q2,q3⟩:jb v2 g r (.slice C0 j0 k0) (.slice C1 j1 k1):=⟨hk2'.cell HSAFE.out HBOX.out.1,hk2'.cell HSAFE.out HBOX.out.2.1,hk2'.cell HSAFE.out HBOX.out.2.2.1,hk2'.cell HSAFE.out HBOX.out.2.2.2⟩;have J2:=Lib.hid hj2;have K2:=Lib.hid hk2';have P2:=Lib.hid (hk2'.pl HPK.out)
        clear hj2 hk2 hk2')
     | (go_simp
        (try refine ⟨hdd _,?_⟩)
        (try refine ⟨trivial,?_⟩)
        refine (callsIn_wide.2 (HDR.out _ _ _ P2.out)).mono ?_;rintro e v3 ⟨dv,rfl,pd,x3⟩;obtain ⟨G0,i2,h2,G1,h3,rfl,-⟩:=id pd.open_;have hfw3:=(HFV.out.keep K2.out).ext x3;have hg2:g < v2.heap.size:=Nat.lt_of_lt_of_le hwV K2.out.size;have y0:=(x3.cell (p:=⟨g,0,none⟩) hg2).trans q0;have y1:=(x3.cell (p:=⟨g,1,none⟩) hg2).trans q1;have y2:=(x3.cell (p:=⟨g,2,none⟩) hg2).trans q2;have y3:=(x3.cell (p:=⟨g,3,none⟩) hg2).trans q3;have HPRI:=Lib.hid (wav (k:=n0+1) _ _ (P2.out.ext x3) pd HE.out hfw3 (HE.out.ext _ _ _ J2.out x3) HSEG.out hpn (Lib.hid fun W' hx=>HPS.out W' _ _ _ _ ((P2.out.ext x3).ext hx) (pd.ext hx)));have K3:=Lib.hid (K2.out.trans (uf.of_ext (HFV.out.keep K2.out).lt x3));unfold plV at HPRI ⊢
        clear x3 pd hfw3 hg2)
     | (go_simp
        (try refine ⟨hdd _,?_⟩)
        (try refine ⟨trivial,?_⟩)
        refine (callsIn_wide.2 HPRI.out).mono ?_;rintro e v4 ⟨rfl,hj4,hk4⟩
        have HN:Hid (J (k+((A.take (i+1)).flatMap (qac l)).length) v4/\uf T w v4):=Lib.hid ⟨by
         have h1:=HLEN.out;have h2:=HN0.out
         rw [h1,<- Nat.add_assoc,h2,Nat.add_comm (xaa l r (jab l r)).length 1,<- Nat.add_assoc]; exact hj4,(HKV.out.trans K3.out).trans hk4⟩
        clear hj4 hk4))
    all_goals
     clear s0' s1' s2' s3' HRR hy q0 q1 q2 q3 HPRI
     gi_wp2_with fail
     go_roundw
     case rel=>exact ⟨i+1,by omega,by go_num,HN.out⟩
     case measure=>simp [intOf]; omega
  · obtain rfl:i=A.length:=by omega
    have hf:=HI.out;rw [List.take_length] at hf;obtain ⟨hJ,hK⟩:=hf
    by_cases h0:A.length=0
    · have HF:Hid (J N wr/\uf T w wr):=Lib.hid ⟨by rw [HNN.out]; unfold tailE; rw [if_pos (Or.inl h0),List.append_nil]; exact hJ,hK⟩;rw [h0];clear HI hJ hK h0
      gi_wp2_with fail
      exact bodyPost_ret (v:=.bool true) (by simp [results,Tryz.results97,go_sem]) rfl ⟨rfl,HF.out.1,HF.out.2⟩
    · have hz:((A.length:Int) == 0)=false:=by rw [beq_eq_false_iff_ne]; omega
      cases c with
      | true =>
        have HF:Hid (J N wr/\uf T w wr):=Lib.hid ⟨by rw [HNN.out]; unfold tailE; rw [if_pos (Or.inr rfl),List.append_nil]; exact hJ,hK⟩;clear HI hJ hK h0
        gi_wp2_with fail
        exact bodyPost_ret (v:=.bool true) (by simp [results,Tryz.results97,go_sem]) rfl ⟨rfl,HF.out.1,HF.out.2⟩
      | false =>
        have hlt:0 < A.length:=by omega
        have hte:tailE l A false=[uq l 0 A[0]]:=by
         unfold tailE; rw [if_neg (by rintro (h | h); exact h0 h; cases h),List.getD_eq_getElem?_getD,List.getElem?_eq_getElem hlt]; rfl
        have hM0:=HST.out;rw [hte] at hM0;have hMj:=hM0.get 0 (by simp);have HMJ:Hid (∃ h:(k+(A.flatMap (qac l)).length) < M.length,M[k+(A.flatMap (qac l)).length]=uq l 0 A[0]):=Lib.hid hMj;have HTE:Hid (N=k+(A.flatMap (qac l)).length+1):=Lib.hid (by rw [HNN.out,hte,List.length_append,List.length_singleton,Nat.add_assoc]);obtain ⟨n0,hn0⟩:∃ n0,k+(A.flatMap (qac l)).length=n0:=⟨_,rfl⟩;rw [hn0] at HTE HMJ hJ;have hfw:=HFW.out.keep hK;obtain ⟨D0',c0',e',-,-,hat⟩:=HA.out.keep hK;injection e' with e1 e2 e3
        subst e1 e3;obtain ⟨ad,C0,j0,k0,C1,j1,k1,rfl,hadb,⟨g0,g1,g2,g3⟩,hpk⟩:=hat.kid 0 hlt;have HCF:=Lib.hid (ybc (k:=0) _ (by omega) (by omega) hl hl4 (HFIT.out A[0] (List.getElem_mem hlt)) (by omega) (by omega) hpk);have HFW2:=Lib.hid hfw;have HJ2:=Lib.hid hJ;have HK2:=Lib.hid hK;simp only [Nat.zero_mul,wa7] at g0 g1 g2 g3;obtain ⟨r,hr⟩:∃ r,A[0]=r:=⟨_,rfl⟩;rw [hr] at HCF HMJ g0 g1;unfold plV at HCF;clear HI hJ hK h0 hfw hat hadb hpk hM0 hMj hte HST hr
        gi_wp2_with fail
        clear g0 g1 g2 g3;refine ⟨trivial,?_⟩;refine (callsIn_wide.2 HCF.out).mono ?_;rintro e v1 ⟨cv,rfl,pc,x1⟩;obtain ⟨F0,i0,h0,F1,h1,rfl,-⟩:=id pc.open_;obtain ⟨hMl,hMe⟩:=HMJ.out;obtain ⟨fn,tmps,assign,body,hy,hRR⟩:=HE.out.step n0 _ v1 hMl (HE.out.ext _ _ _ HJ2.out x1) ⟨_,by rw [hMe]; exact pc⟩ 4;have HRR:=Lib.hid hRR;have K1:=Lib.hid (HK2.out.trans (uf.of_ext HFW2.out.lt x1));obtain ⟨d,hd⟩:∃ d,uq l 0 r=d:=⟨_,rfl⟩;rw [hd] at hy ⊢;unfold plV at hy ⊢;clear hRR x1 pc hMl hMe HCF hd hn0
        gi_wp2_with fail
        refine HRR.out.mono ?_;rintro e v2 ⟨rfl,hj2,hk2⟩;rw [<- HTE.out] at hj2;have HF:Hid (J N v2/\uf T w v2):=Lib.hid ⟨hj2,K1.out.trans hk2⟩;clear hj2 hk2 HRR hy
        gi_wp2_with fail
        exact bodyPost_ret (v:=.bool true) (by simp [results,Tryz.results97,go_sem]) rfl ⟨rfl,HF.out.1,HF.out.2⟩
end Go.Proofs.YtklnlgnnlmdibaaGreat
