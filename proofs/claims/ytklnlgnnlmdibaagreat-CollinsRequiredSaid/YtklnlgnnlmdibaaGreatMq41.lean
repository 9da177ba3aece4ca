/- A range over a function whose elements are made anew, as RangeOk, for iterators that hand the loop's body on to other functions. -/
import Derived.Test.YtklnlgnnlmdibaaGreatMq38
import Derived.Test.YtklnlgnnlmdibaaGreatMq40
import Derived.Test.YtklnlgnnlmdibaaGreatMq36
set_option linter.unusedSimpArgs false
set_option linter.unusedVariables false

namespace Go.Proofs.YtklnlgnnlmdibaaGreat
open Lib (hid)
open Go.RowKit
def xcq {α:Type} (n:Nat) (P:Program) (g:Nat) (lb:Array Value) (enc:α->Array Value) (Ok:Nat->α->World->Prop) (Kp Rel:World->World->Prop) (N:Nat) (w:World):Prop:=
 ∀ (l:Nat) (J:Nat->World->Prop) (W:World),Below w.heap.size w W->AbidesFrom W.heap.size J->(∀ k A B,J k A->Rel A B->J k B) ->
   (∀ k x W1,k < N->J k W1->Ok k x W1->∀ m,YieldAt Fence.wide m P l (enc x) W1 fun e W'=>e=.returned (.bool true)/\J (k+1) W'/\Kp W1 W') ->
   J 0 W->CallsIn Fence.wide n P g (#[.func (.yield l) #[] #[]] ++ lb) W fun e W'=>(∃ v,e=.returned v)/\J N W'
theorem yck {α : Type} {n : Nat} {P : Program} {w : World} {g : Operand} {ps : Array Tmp} {assign body : Code} {Q : Exit -> Act -> World -> Prop} {a : Act}
 (h1:1<=n) {gf:Nat} {lb:Array Value} (hg:a.eval g=.func (.func gf) #[] lb) (eg:∀ args w,(callFunc gf args).run P w=.ok (.enter gf args) w)
 {enc:α->Array Value} {Ok:Nat->α->World->Prop} {Kp Rel:World->World->Prop} {N:Nat} {w0:World} (qP:xcq (n - 1) P gf lb enc Ok Kp Rel N w0) (hRo:∀ A B,Rel A B->∀ (i:Nat) (o:Obj),A.heap[i]?=some o->o.isCells=false->B.heap[i]?=some o)
 (MI:∀ {A B C:World},Kp A B->Kp B C->Kp A C) (MJ:∀ (W:World) (l:Nat) (o o':Obj),w.heap.size<=l->W.heap[l]?=some o->o.isCells=false->o.isWalk=false->Kp W (W.putObj l o')) (aV:Below w0.heap.size w0 w) (wZ:∀ x,(enc x).size=ps.size)
 (I:Nat->World->Prop) (hI:OwnFrom w.heap.size I) (hRI:∀ k A B,I k A->Rel A B->I k B) (h0:I 0 w) (Ax:Nat->α->Act->World->Prop) (Vs:∀ k x a',OwnFrom w.heap.size (fun (_:Unit) W=>Ax k x a' W))
 (kT:∀ (m l k:Nat) (x:α) (W:World) (K:Act->World->Prop),k < N->I k W->Ok k x W->(∀ a' W',KeepsFrom w.heap.size W W'->Kp W W'->Ax k x a' W'->K a' W') ->
   assign.wpIn (Fence.wide.inRound l) m P (Exit.then K (fun _ _ _=>False)) { tmps:=(ps.zip (enc x)).foldl (fun t (p,v)=>t.setIfInBounds p v) a.tmps,defers:=[] } W)
 (tC:∀ (m l k:Nat) (x:α) (a':Act) (W:World),k < N->Ax k x a' W->body.wpIn (Fence.wide.inRound l) m P (kbd w.heap.size Kp (I (k+1)) W) a' W)
 (iL:∀ (D:Nat) (W:World),w.heap.size<=D->I N W->W.heap[D]?=some (.deferred (some []))->Q .normal { a with defers:={ target:=.collected D,args:=#[] } :: a.defers } W) :
 (Code.rangeFunc g ps assign body).wpIn Fence.wide n P Q a w:=by
 refine wpIn_rangeFunc fun fn vV=>?_
 obtain ⟨B,hB⟩:=n_m (w.heap.size)
 let rc:LoopState->Option Code->Loop:=fun st pe=>{ state:=st,pending:=pe,fn,tmps:=a.tmps,params:=ps,assign,body,defers:=B }
 obtain ⟨V,hV⟩:=n_m ((w.alloc (.deferred (some []))).alloc (.loop (rc .ready none)));have vL:V.heap[B+1]?=some (.loop (rc .ready none)):=by
  rw [<- hV,<- hB];have:=World.alloc_heap_new (w.alloc (.deferred (some []))) (.loop (rc .ready none))
  rwa [World.size_alloc] at this
 have vD:V.heap[B]?=some (.deferred (some [])):=by
  rw [<- hV,<- hB]; exact (Below.heap_alloc _ _ _ (by simp)).trans (World.alloc_heap_new w _)
 have vI:I 0 V:=by rw [<- hV]; exact hI.alloc _ (hI.alloc _ h0)
 have vB:Below w0.heap.size w0 V:=by
  rw [<- hV]; exact aV.trans ((((Below.refl _ w).alloc (Nat.le_refl _) _).alloc (by simp) _).mono aV.size)
 have vS:V.heap.size=B+2:=by rw [<- hV,<- hB]; simp
 rw [hB] at MJ hI Vs kT tC iL
 have walk:∀ {A A':World} {row:Option Nat} {k:Nat} {o:Obj},A.grownBy A' row->(∀ r,row=some r->V.heap.size<=r/\∃ o:Obj,A.heap[r]?=some o/\o.isWalk=true)->A.heap[k]?=some o->o.isWalk=false->A'.heap[k]?=some o:=
  fun jL hr hk ho=>(grownBy_keeps jL (fun r e=>(hr r e).2) hk ho).trans hk
 refine ⟨B+1,[{ target:=.collected B,args:=#[] }],V,{ target:=.fn (.func gf) lb,args:=#[.func (.yield (B+1)) #[] #[]] },V,gf,#[.func (.yield (B+1)) #[] #[]] ++ lb,V,?_,?_,?_,?_,fun _=>h1,?_⟩
 · subst hB; rw [<- hV]; exact run_enterLoop_outer _ _ _ _ _
 · simp only [resolve,hg]; simp [go_sem]
 · intro f' hf'; simp [Target.leads] at hf'; subst hf'; trivial
 · simp [invoke,go_sem,eg]
 · refine (qP (B+1) (fun k W=>I k W/\W.heap[B+1]?=some (.loop (rc .ready none))/\W.heap[B]?=some (.deferred (some []))) V vB (fun k A A' row hs jL hr=>⟨hI k A A' row hs.1 jL (fun r e=>?_),walk jL hr hs.2.1 rfl,walk jL hr hs.2.2 rfl⟩) (fun k A B hs hr=>⟨hRI k A B hs.1 hr,hRo A B hr _ _ hs.2.1 rfl,hRo A B hr _ _ hs.2.2 rfl⟩) ?_ ⟨vI,vL,vD⟩).mono ?_
   · obtain ⟨h2,o,ho,hw⟩:=hr r e;exact ⟨by omega,o,ho,Obj.not_cells_of_walk hw⟩
   · -- a round
     rintro k x W hk ⟨hi,hl,hd⟩ lW m;refine ⟨fn,_,assign,body,run_yield (P:=P) (args:=enc x) hl (wZ x),roundIn_of_wpIn vV (kT m _ k x W _ hk hi lW fun a' Wa TD lU vY=>?_)⟩;have al:=TD.same _ _ (Nat.le_succ _) hl rfl;have ad:=TD.same _ _ (Nat.le_refl _) hd rfl;have asz:=(Array.getElem?_eq_some_iff.1 al).1;refine ⟨_,run_beginRound al rfl,wpIn_mono (tC m _ k x a' _ hk ((Vs k x a').putObj (s:=()) _ vY (Nat.le_succ _) al rfl)) ?_⟩;have bl:(Wa.putObj (B+1) (.loop (rc .busy none))).heap[B+1]?=some (.loop (rc .busy none)):=World.putObj_heap_same asz;have bd:(Wa.putObj (B+1) (.loop (rc .busy none))).heap[B]?=some (.deferred (some [])):=(World.putObj_heap_other (by omega)).trans ad;have bp:Kp Wa (Wa.putObj (B+1) (.loop (rc .busy none))):=MJ _ _ _ _ (Nat.le_succ _) al rfl rfl;rintro e a3 W3 hp;cases e with
     | normal =>
       obtain ⟨TG,KE,TN⟩:=hp;have cl:=TG.same _ _ (Nat.le_succ _) bl rfl;have cd:=TG.same _ _ (Nat.le_refl _) bd rfl;have cs:=(Array.getElem?_eq_some_iff.1 cl).1;exact ⟨_,_,run_endRound (P:=P) none cl,rfl,⟨hI.putObj _ TN (Nat.le_succ _) cl rfl,World.putObj_heap_same cs,(World.putObj_heap_other (by omega)).trans cd⟩,MI lU (MI (MI bp KE) (MJ _ _ _ _ (Nat.le_succ _) cl rfl rfl))⟩
     | ret=>exact hp.elim
     | exit id=>exact hp.elim
     | goto t=>exact hp.elim
     | panic ch=>exact hp.elim
     | outgrown=>exact hp.elim
   · -- behind the iterator
     rintro e W2 ⟨⟨v,rfl⟩,hi,hl,hd⟩;exact ⟨none,_,run_endLoop (P:=P) hl (by simp [rc]),iL B _ (Nat.le_refl _) (hI.putObj _ hi (Nat.le_succ _) hl rfl) ((World.putObj_heap_other (by omega)).trans hd)⟩
def jad (T:Nat) (W:World) (b:Nat):Prop:=∃ v,W.cell? ⟨T,0,none⟩=some v/\v.ownBlock=some b
structure yg (T : Nat) (A B : World) : Prop where
 size:A.heap.size<=B.heap.size
 obj:∀ (i:Nat) (o:Obj),i ≠ T->¬ jad T A i->A.heap[i]?=some o->o.isCells=true->B.heap[i]?=some o
 own:∀ i,i < A.heap.size->jad T B i->jad T A i
 fresh:(∀ b,jad T A b->b < A.heap.size)->∀ b,jad T B b->b < B.heap.size
 nat:∀ v ds,jd A v ds->jd B v ds
section
variable {T:Nat} {A B C:World}
theorem lt_of_some {W:World} {i:Nat} {o:Obj} (h:W.heap[i]?=some o):i < W.heap.size:=(Array.getElem?_eq_some_iff.1 h).1
theorem yg.trans (h:yg T A B) (k:yg T B C):yg T A C:=
 ⟨Nat.le_trans h.size k.size,fun i o hT hn hi ho=>k.obj i o hT (fun e=>hn (h.own i (lt_of_some hi) e)) (h.obj i o hT hn hi ho) ho,fun i hi e=>h.own i hi (k.own i (Nat.lt_of_lt_of_le hi h.size) e),fun hf=>k.fresh (h.fresh hf),fun v ds hv=>k.nat v ds (h.nat v ds hv)⟩
theorem yg.of_ext (hT:T < A.heap.size) (h:Ext A B):yg T A B:=by
 have hc:B.cell? ⟨T,0,none⟩=A.cell? ⟨T,0,none⟩:=h.cell (p:=⟨T,0,none⟩) hT;exact ⟨h.size,fun i o _ _ hi _=>(h.below.block i (lt_of_some hi)).trans hi,fun i _ ⟨v,hv,e⟩=>⟨v,hc.symm.trans hv,e⟩,fun hf b ⟨v,hv,e⟩=>Nat.lt_of_lt_of_le (hf b ⟨v,hc.symm.trans hv,e⟩) h.size,fun v ds hv=>hv.ext h⟩
theorem yg.putObj (T:Nat) (W:World) (l:Nat) (o o':Obj) (hT:T ≠ l) (h:W.heap[l]?=some o) (ho:o.isCells=false):yg T W (W.putObj l o'):=by
 obtain ⟨h1,h2,h3⟩:=yz.putObj T W l o o' h ho;have hc:(W.putObj l o').cell? ⟨T,0,none⟩=W.cell? ⟨T,0,none⟩:=World.cell?_of_block (a:=⟨T,0,none⟩) (World.putObj_heap_other hT);exact ⟨h1,fun i x hi _ hx hc=>h2 i x hi hx hc,fun i _ ⟨v,hv,e⟩=>⟨v,hc.symm.trans hv,e⟩,fun hf b ⟨v,hv,e⟩=>Nat.lt_of_lt_of_le (hf b ⟨v,hc.symm.trans hv,e⟩) h1,h3⟩
def Safe (T:Nat) (W:World) (b:Nat):Prop:=b < W.heap.size/\b ≠ T/\¬ jad T W b
theorem Safe.keep {b:Nat} (h:Safe T A b) (k:yg T A B):Safe T B b:=⟨Nat.lt_of_lt_of_le h.1 k.size,h.2.1,fun e=>h.2.2 (k.own b h.1 e)⟩
theorem yg.block {b:Nat} (k:yg T A B) (h:Safe T A b) {i:Nat} {v:Value} (hv:A.cell? ⟨b,i,none⟩=some v):B.heap[b]?=A.heap[b]?:=by
 obtain ⟨o,ho,hc⟩:=cells_of_cell hv;exact (k.obj b o h.2.1 h.2.2 ho hc).trans ho.symm
theorem yg.cell {b i:Nat} {v:Value} (k:yg T A B) (h:Safe T A b) (hv:A.cell? ⟨b,i,none⟩=some v):B.cell? ⟨b,i,none⟩=some v:=(World.cell?_of_block (a:=⟨b,i,none⟩) (k.block h hv)).trans hv
theorem yg.cellA {a:Addr} {v:Value} (k:yg T A B) (h:Safe T A a.block) (hv:A.cell? a=some v):B.cell? a=some v:=by
 obtain ⟨o,ho,hc⟩:=cells_of_cell hv;exact (World.cell?_of_block ((k.obj _ o h.2.1 h.2.2 ho hc).trans ho.symm)).trans hv
end
section
variable {w w':World} {p q:Nat->Prop}
mutual
theorem PlV.turnC (hs : w.heap.size <= w'.heap.size) (hn : ∀ v ds, jd w v ds -> jd w' v ds) (hc : ∀ (a : Addr) (v : Value), p a.block -> w.cell? a = some v -> q a.block /\ w'.cell? a = some v) : ∀ (t : Pl) (v : Value), PlV w p t v -> PlV w' q t v
 | .mk l n d cs,v,h=>by
   unfold PlV at h ⊢;obtain ⟨s,A,c,e,h1,h2,h3,h4⟩:=h;exact ⟨s,A,c,e,hn _ _ h1,h2,h3,jc.turnC hs hn hc cs A 0 h4⟩
theorem jc.turnC (hs : w.heap.size <= w'.heap.size) (hn : ∀ v ds, jd w v ds -> jd w' v ds) (hc : ∀ (a : Addr) (v : Value), p a.block -> w.cell? a = some v -> q a.block /\ w'.cell? a = some v) : ∀ (l : List Pl) (A : Option Addr) (j : Nat), jc w p l A j -> jc w' q l A j
 | [],A,j,h=>by unfold jc; trivial
 | t :: r,A,j,h=>by
   unfold jc at h ⊢;obtain ⟨⟨ad,s,K,e,hb,qA,⟨k0,k1,k2,k3⟩,h2⟩,h3⟩:=h;have hp:p (ad.add (j * 4)).block:=by rw [ja]; exact qA
   have c0:=hc _ _ hp k0;have hq:q ad.block:=by have:=c0.1; rwa [ja] at this
   exact ⟨⟨ad,s,K,e,Nat.lt_of_lt_of_le hb hs,hq,⟨c0.2,(hc ⟨(ad.add (j * 4)).block,_,none⟩ _ hp k1).2,(hc ⟨(ad.add (j * 4)).block,_,none⟩ _ hp k2).2,(hc ⟨(ad.add (j * 4)).block,_,none⟩ _ hp k3).2⟩,PlV.turnC hs hn hc t _ h2⟩,jc.turnC hs hn hc r A (j+1) h3⟩
end
end
section
variable {T:Nat} {A B:World}
theorem yg.pl {t:Pl} {v:Value} (k:yg T A B) (h:PlV A (Safe T A) t v):PlV B (Safe T B) t v:=PlV.turnC k.size k.nat (fun a v hp hv=>⟨hp.keep k,k.cellA hp hv⟩) t v h
theorem yg.pls {l:List Pl} {D:Option Addr} {j:Nat} (k:yg T A B) (h:jc A (Safe T A) l D j):jc B (Safe T B) l D j:=jc.turnC k.size k.nat (fun a v hp hv=>⟨hp.keep k,k.cellA hp hv⟩) l D j h
theorem jay {b:Nat} (hT:T < A.heap.size) (hf:∀ b,jad T A b->b < A.heap.size) (hx:Ext A B) (hb:A.heap.size<=b) (hB:b < B.heap.size):Safe T B b:=
 ⟨hB,by omega,fun ⟨v,hv,e⟩=>by
   have:=hf b ⟨v,(hx.cell (p:=⟨T,0,none⟩) hT).symm.trans hv,e⟩
   omega⟩
theorem jc.below_ {W:World} {q:Nat->Prop} {l:List Pl} {D:Option Addr} {j:Nat} (h:jc W q l D j):jc W (fun b=>q b/\b < W.heap.size) l D j:=jc.turn (Nat.le_refl _) (fun _ _ h=>h) (fun b hb hq=>⟨⟨hq,hb⟩,rfl⟩) l D j h
theorem jc.mono {W:World} {q q':Nat->Prop} {l:List Pl} {D:Option Addr} {j:Nat} (h:jc W q l D j) (hq:∀ b,b < W.heap.size->q b->q' b):jc W q' l D j:=jc.turn (Nat.le_refl _) (fun _ _ h=>h) (fun b hb hp=>⟨hq b hb hp,rfl⟩) l D j h
def uam (T:Nat) (W:World) (v:Value) (L:List Pl):Prop:=∃ D c,v=.slice D L.length c/\L.length<=c/\c<=9223372036854775807/\jc W (Safe T W) L D 0
theorem uam.keep {v:Value} {L:List Pl} (h:uam T A v L) (k:yg T A B):uam T B v L:=by
 obtain ⟨D,c,e,h1,h2,h3⟩:=h;exact ⟨D,c,e,h1,h2,k.pls h3⟩
theorem uam.new {v:Value} {L:List Pl} (hT:T < A.heap.size) (hf:∀ b,jad T A b->b < A.heap.size) (hx:Ext A B) (h:∃ D c,v=.slice D L.length c/\L.length<=c/\c<=9223372036854775807/\jc B (fun b=>A.heap.size<=b) L D 0):uam T B v L:=by
 obtain ⟨D,c,e,h1,h2,h3⟩:=h;exact ⟨D,c,e,h1,h2,h3.mono fun b hb hq=>jay hT hf hx hq hb⟩
end
def FS (T base:Nat) (W:World) (acc:List Pl):Prop:=T < base/\base<=W.heap.size/\∃ v,W.heap[T]?=some (.cells #[v] 24 (0,0))/\uh base (fun b=>b ≠ T) W v acc
section
variable {T base:Nat} {W W':World} {acc:List Pl}
theorem FS.fresh (h:FS T base W acc):∀ b,jad T W b->b < W.heap.size:=fun b ⟨v,hv,e⟩=>by
 obtain ⟨h1,h2,u,hu,hq⟩:=h;rw [box1 hu] at hv;injection hv with hv
 subst hv;exact (hq.own e).2
theorem FS.lt (h:FS T base W acc):T < W.heap.size:=Nat.lt_of_lt_of_le h.1 h.2.1
theorem FS.ext (h:FS T base W acc) (hx:Ext W W'):FS T base W' acc:=by
 obtain ⟨h1,h2,u,hu,hq⟩:=h;exact ⟨h1,Nat.le_trans h2 hx.size,u,(hx.below.block T (by omega)).trans hu,hq.ext hx⟩
theorem uh.turnC {q:Nat->Prop} {v:Value} {l:List Pl} (h:uh base q W v l) (hs:W.heap.size<=W'.heap.size) (hn:∀ v ds,jd W v ds->jd W' v ds) (ho:∀ (i:Nat) (o:Obj),W.heap[i]?=some o->o.isCells=true->W'.heap[i]?=some o):uh base q W' v l:=by
 obtain ⟨rs,e,h2,h3⟩:=h;refine ⟨rs,e,h2.turn fun R hR=>?_,fun r hr=>⟨(h3 r hr).1,PlV.turnC hs hn (fun a v hp hv=>⟨hp,?_⟩) _ _ (h3 r hr).2⟩⟩
 · obtain ⟨cur,t,fr,hc⟩:=vao h2.1 R hR;rw [hc]; exact ho R _ hc rfl
 · obtain ⟨o,hob,Io⟩:=cells_of_cell hv;exact (World.cell?_of_block ((ho _ o hob Io).trans hob.symm)).trans hv
theorem FS.kept {row:Option Nat} (h:FS T base W acc) (hg:W.grownBy W' row) (hr:∀ r,row=some r->∃ o:Obj,W.heap[r]?=some o/\o.isCells=false):FS T base W' acc:=by
 obtain ⟨h1,h2,u,hu,hq⟩:=h;refine ⟨h1,Nat.le_trans h2 hg.size,u,cells_kept hg hr hu,hq.turnC hg.size (fun v ds hv=>kaq hg hr hv) fun i o hi hc=>?_⟩;obtain ⟨c,t,f,rfl⟩:∃ c t f,o=.cells c t f:=by cases o <;> simp_all [Obj.isCells]
 exact cells_kept hg hr hi
end
section
variable {W:World} {q:Nat->Prop} {R:Nat}
mutual
theorem PlV.apart (hR : ∀ j x, W.cell? ⟨R, j, none⟩ = some x -> ∃ D n c, x = .slice D n c) : ∀ (t : Pl) (v : Value), PlV W q t v -> PlV W (fun b => q b /\ b ≠ R) t v
 | .mk l n d cs,v,h=>by
   unfold PlV at h ⊢;obtain ⟨s,A,c,e,h1,h2,h3,h4⟩:=h;exact ⟨s,A,c,e,h1,h2,h3,jc.apart hR cs A 0 h4⟩
theorem jc.apart (hR : ∀ j x, W.cell? ⟨R, j, none⟩ = some x -> ∃ D n c, x = .slice D n c) : ∀ (l : List Pl) (A : Option Addr) (j : Nat), jc W q l A j -> jc W (fun b => q b /\ b ≠ R) l A j
 | [],A,j,h=>by unfold jc; trivial
 | t :: r,A,j,h=>by
   unfold jc at h ⊢;obtain ⟨⟨ad,s,K,e,hb,qA,⟨k0,k1,k2,k3⟩,h2⟩,h3⟩:=h;refine ⟨⟨ad,s,K,e,hb,⟨qA,fun e=>?_⟩,⟨k0,k1,k2,k3⟩,PlV.apart hR t _ h2⟩,jc.apart hR r A (j+1) h3⟩;obtain ⟨D,n,c,hx⟩:=hR ((ad.add (j * 4)).off+1) _ (by rw [ja,e] at k1; exact k1);cases hx
end
end
def zaq (T lo:Nat) (A B:World):Prop:=∃ R i u D n c,lo<=R/\R ≠ T/\¬ jad T A R/\(∀ j x,A.cell? ⟨R,j,none⟩=some x->∃ D n c,x=.slice D n c)/\A.cell? ⟨R,i,none⟩=some u/\B=A.setCell ⟨R,i,none⟩ (.slice D n c)
theorem zaq.nat {T lo:Nat} {A B:World} (h:zaq T lo A B):∀ v ds,jd A v ds->jd B v ds:=by
 obtain ⟨R,i,u,D,n,c,-,-,-,h4,h5,rfl⟩:=h;obtain ⟨_,_,_,rfl⟩:=h4 i u h5;exact fun v ds hv=>hv.box h5 rfl _
theorem zaq.other {T lo:Nat} {A B:World} (h:zaq T lo A B):∀ (i:Nat) (o:Obj),A.heap[i]?=some o->o.isCells=false->B.heap[i]?=some o:=by
 obtain ⟨R,i,u,D,n,c,-,-,-,h4,h5,rfl⟩:=h;intro k o hk ho;rw [Below.heap_setCell _ _ _ k (fun e=>?_)]; exact hk;obtain ⟨o',OG,lw⟩:=cells_of_cell h5;have e':k=R:=e;rw [e',OG] at hk;injection hk with hk
 rw [hk,ho] at lw;cases lw
theorem zaq.ext {T lo:Nat} {w A B:World} (h:zaq T lo A B) (hx:Ext w A) (hlo:w.heap.size<=lo):Ext w B:=by
 obtain ⟨R,i,u,D,n,c,h1,-,-,h4,h5,rfl⟩:=h;exact hx.setCell (Nat.le_trans hlo h1) _
theorem zaq.keep {T lo:Nat} {A B:World} (h:zaq T lo A B):(∀ b,jad T B b ↔ jad T A b)/\A.heap.size=B.heap.size:=by
 obtain ⟨R,i,u,D,n,c,-,h2,-,h4,h5,rfl⟩:=h;have hc:(A.setCell ⟨R,i,none⟩ (.slice D n c)).cell? ⟨T,0,none⟩=A.cell? ⟨T,0,none⟩:=by rw [World.cell?_setCell_other _ _ _ _ (by intro e; injection e with e; exact h2 e)]
 exact ⟨fun b=>by unfold jad; rw [hc],by simp [World.setCell]⟩
theorem FS.rel {T base lo:Nat} {W W':World} {acc:List Pl} (h:FS T base W acc) (hr:zaq T lo W W'):FS T base W' acc:=by
 have hn:=hr.nat;have hk:=hr.keep.2;obtain ⟨R,i,u,D,n,c,h1,h2,h3,h4,h5,rfl⟩:=hr;obtain ⟨g1,g2,v,hv,hq⟩:=h;have hb:∀ k,k ≠ R->(W.setCell ⟨R,i,none⟩ (.slice D n c)).heap[k]?=W.heap[k]?:=fun k hk=>Below.heap_setCell _ _ _ k hk
 refine ⟨g1,by omega,v,(hb T (fun e=>h2 e.symm)).trans hv,?_⟩;obtain ⟨rs,e,q2,q3⟩:=hq;refine ⟨rs,e,q2.turn fun S hS=>hb S (fun e=>h3 ⟨v,box1 hv,by rw [<- e]; exact hS⟩),fun r hr=>⟨(q3 r hr).1,?_⟩⟩;exact PlV.turn_ (by omega) hn (fun b _ hq=>⟨hq.1,hb b hq.2⟩) (PlV.apart h4 _ _ (q3 r hr).2)
structure xac (T R : Nat) (A B : World) : Prop where
 size:A.heap.size<=B.heap.size
 obj:∀ (i:Nat) (o:Obj),i ≠ T->i ≠ R->¬ jad T A i->A.heap[i]?=some o->o.isCells=true->B.heap[i]?=some o
 own:∀ i,i < A.heap.size->jad T B i->jad T A i
 fresh:(∀ b,jad T A b->b < A.heap.size)->∀ b,jad T B b->b < B.heap.size
 nat:∀ v ds,jd A v ds->jd B v ds
section
variable {T R:Nat} {A B C:World}
theorem xac.trans (h:xac T R A B) (k:xac T R B C):xac T R A C:=
 ⟨Nat.le_trans h.size k.size,fun i o hT hR hn hi ho=>k.obj i o hT hR (fun e=>hn (h.own i (lt_of_some hi) e)) (h.obj i o hT hR hn hi ho) ho,fun i hi e=>h.own i hi (k.own i (Nat.lt_of_lt_of_le hi h.size) e),fun hf=>k.fresh (h.fresh hf),fun v ds hv=>k.nat v ds (h.nat v ds hv)⟩
theorem yg.x (h:yg T A B) (R:Nat):xac T R A B:=⟨h.size,fun i o hT _ hn hi ho=>h.obj i o hT hn hi ho,h.own,h.fresh,h.nat⟩
theorem xac.set {i:Nat} {u:Value} {D:Option Addr} {n c:Nat} (hT:R ≠ T) (hu:A.cell? ⟨R,i,none⟩=some u) (hd:jq u=false):xac T R A (A.setCell ⟨R,i,none⟩ (.slice D n c)):=by
 have hc:(A.setCell ⟨R,i,none⟩ (.slice D n c)).cell? ⟨T,0,none⟩=A.cell? ⟨T,0,none⟩:=by rw [World.cell?_setCell_other _ _ _ _ (by intro e; injection e with e; exact hT e)]
 have hs:(A.setCell ⟨R,i,none⟩ (.slice D n c)).heap.size=A.heap.size:=by simp [World.setCell]
 exact ⟨by omega,fun k o _ hR _ hk _=>by rw [Below.heap_setCell _ _ _ k hR]; exact hk,fun k _ ⟨v,hv,e⟩=>⟨v,hc ▸ hv,e⟩,fun hf b ⟨v,hv,e⟩=>by rw [hs]; exact hf b ⟨v,hc ▸ hv,e⟩,fun v ds hv=>hv.box hu hd _⟩
def waq (T R:Nat) (W:World) (b:Nat):Prop:=Safe T W b/\b ≠ R
theorem waq.keep {b:Nat} (h:waq T R A b) (k:xac T R A B):waq T R B b:=⟨⟨Nat.lt_of_lt_of_le h.1.1 k.size,h.1.2.1,fun e=>h.1.2.2 (k.own b h.1.1 e)⟩,h.2⟩
theorem xac.cellA {a:Addr} {v:Value} (k:xac T R A B) (h:waq T R A a.block) (hv:A.cell? a=some v):B.cell? a=some v:=by
 obtain ⟨o,ho,hc⟩:=cells_of_cell hv;exact (World.cell?_of_block ((k.obj _ o h.1.2.1 h.2 h.1.2.2 ho hc).trans ho.symm)).trans hv
theorem xac.pls {l:List Pl} {D:Option Addr} {j:Nat} (k:xac T R A B) (h:jc A (waq T R A) l D j):jc B (waq T R B) l D j:=jc.turnC k.size k.nat (fun a v hp hv=>⟨hp.keep k,k.cellA hp hv⟩) l D j h
end
def wa0 (T R:Nat) (W:World) (v:Value) (L:List Pl):Prop:=∃ D c,v=.slice D L.length c/\L.length<=c/\c<=9223372036854775807/\jc W (waq T R W) L D 0
theorem wa0.keep {T R:Nat} {A B:World} {v:Value} {L:List Pl} (h:wa0 T R A v L) (k:xac T R A B):wa0 T R B v L:=by
 obtain ⟨D,c,e,h1,h2,h3⟩:=h;exact ⟨D,c,e,h1,h2,k.pls h3⟩
theorem wa0.rowS {T R:Nat} {A:World} {v:Value} {L:List Pl} (h:wa0 T R A v L):uam T A v L:=by
 obtain ⟨D,c,e,h1,h2,h3⟩:=h;exact ⟨D,c,e,h1,h2,h3.mono fun b _ hb=>hb.1⟩
end Go.Proofs.YtklnlgnnlmdibaaGreat

namespace Go.Proofs.YtklnlgnnlmdibaaGreat
open Lib (hid)
def snc (l:Sp):Nat:=l.foldl (fun a x=>Nat.gcd a x.1.natAbs) 0
theorem wch {l:Sp} {k:Nat} (hk:k < l.length):snc (l.take (k+1))=Nat.gcd (snc (l.take k)) l[k].1.natAbs:=by
 unfold snc;rw [List.take_succ_eq_append_getElem hk,List.foldl_append]; rfl
theorem ubn : ∀ (l : Sp) (a : Nat), l.foldl (fun a x => Nat.gcd a x.1.natAbs) a ∣ a /\ ∀ x ∈ l, l.foldl (fun a x => Nat.gcd a x.1.natAbs) a ∣ x.1.natAbs
 | [],a=>⟨Nat.dvd_refl a,fun x hx=>by cases hx⟩
 | y :: r,a=>by
   obtain ⟨h1,h2⟩:=ubn r (Nat.gcd a y.1.natAbs);rw [List.foldl_cons];refine ⟨Nat.dvd_trans h1 (Nat.gcd_dvd_left _ _),fun x hx=>?_⟩;rcases List.mem_cons.1 hx with rfl | hx
   · exact Nat.dvd_trans h1 (Nat.gcd_dvd_right _ _)
   · exact h2 x hx
theorem ybg {l:Sp}:∀ x ∈ l,snc l ∣ x.1.natAbs:=(ubn l 0).2
theorem zcs {l:Sp} {x:Int × Mo} (hx:x ∈ l) (h0:x.1 ≠ 0):0 < snc l:=Nat.pos_of_dvd_of_pos (ybg x hx) (by omega)
theorem ub8 {l:Sp} {x:Int × Mo} (hx:x ∈ l) (h0:x.1 ≠ 0):snc l<=x.1.natAbs:=Nat.le_of_dvd (by omega) (ybg x hx)
theorem wcw : ∀ (l : Sp) (N : Nat), (∀ x ∈ l, x.1.natAbs <= N) -> snc l <= N
 | l,N,h=>by
   by_cases hx:∃ x ∈ l,x.1 ≠ 0
   · obtain ⟨x,hx,h0⟩:=hx;exact Nat.le_trans (ub8 hx h0) (h x hx)
   · have h0:∀ x ∈ l,x.1.natAbs=0:=fun x iY=>by
      have:¬ x.1 ≠ 0:=fun h=>hx ⟨x,iY,h⟩
      omega
     have:∀ (l:Sp),(∀ x ∈ l,x.1.natAbs=0)->l.foldl (fun a x=>Nat.gcd a x.1.natAbs) 0=0:=by
      intro l
      induction l with
      | nil=>intro _; rfl
      | cons y r ih =>
        intro h;rw [List.foldl_cons,h y List.mem_cons_self];exact ih fun x hx=>h x (List.mem_cons_of_mem _ hx)
     unfold snc;rw [this l h0]; omega
def sdv : Sp -> Int
 | []=>1
 | x :: r=>if x.1 < 0 then -(snc (x :: r):Int) else (snc (x :: r):Int)
def yab (d:Int) (l:Sp):Sp:=l.map fun x=>(x.1.tdiv d,x.2)
def ssn (l:Sp):Sp:=yab (sdv l) l
theorem qbg {l:Sp} (h:l ≠ []):(sdv l).natAbs=snc l:=by
 cases l with
 | nil=>exact absurd rfl h
 | cons x r =>
   show (if x.1 < 0 then -(snc (x :: r):Int) else (snc (x :: r):Int)).natAbs=snc (x :: r)
   split
   · rw [Int.natAbs_neg,Int.natAbs_natCast]
   · rw [Int.natAbs_natCast]
theorem xbg {l:Sp}:∀ x ∈ l,sdv l ∣ x.1:=fun x hx=>by
 rw [<- Int.natAbs_dvd_natAbs,qbg (fun e=>by rw [e] at hx; cases hx)];exact ybg x hx
theorem qb9 {l:Sp} (h:∀ x ∈ l,x.1 ≠ 0):sdv l ≠ 0:=by
 cases l with
 | nil=>decide
 | cons x r =>
   have h1:=zcs (l:=x :: r) (x:=x) List.mem_cons_self (h x List.mem_cons_self);have h2:=qbg (l:=x :: r) (by simp);omega
theorem kbg : ∀ l : Sp, ut l -> ∀ x ∈ l, x.1 ≠ 0
 | [],_,x,hx=>by cases hx
 | (z,m) :: r,h,x,hx=>by
   unfold ut at h;rcases List.mem_cons.1 hx with rfl | hx
   · exact h.1
   · exact kbg r h.2.2 x hx
theorem zba {d:Int} {l:Sp} {x:Int × Mo} (h:x ∈ yab d l):∃ y ∈ l,x=(y.1.tdiv d,y.2):=by
 unfold yab at h;obtain ⟨y,hy,e⟩:=List.mem_map.1 h;exact ⟨y,hy,e.symm⟩
theorem ycr {a d:Int} (ha:a ≠ 0) (h:d ∣ a):a.tdiv d ≠ 0:=fun e=>ha (by have:=Int.tdiv_mul_cancel h; rw [e] at this; omega)
theorem ybo {d : Int} : ∀ l : Sp, ut l -> (∀ x ∈ l, d ∣ x.1) -> ut (yab d l)
 | [],_,_=>by trivial
 | (z,m) :: r,h,hd=>by
   have h':=h;unfold ut at h';have e:yab d ((z,m) :: r)=(z.tdiv d,m) :: yab d r:=rfl;rw [e];unfold ut;refine ⟨ycr h'.1 (hd (z,m) List.mem_cons_self),fun x hx=>?_,ybo r h'.2.2 fun x hx=>hd x (List.mem_cons_of_mem _ hx)⟩;obtain ⟨y,hy,rfl⟩:=zba hx;exact h'.2.1 y hy
theorem zbo (ρ : Int -> Rat) {d : Int} : ∀ l : Sp, (∀ x ∈ l, d ∣ x.1) -> xn ρ (yab d l) * (d : Rat) = xn ρ l
 | [],_=>by simp [yab,xn]
 | (z,m) :: r,hd=>by
   have e:yab d ((z,m) :: r)=(z.tdiv d,m) :: yab d r:=rfl;have ih:=zbo ρ r fun x hx=>hd x (List.mem_cons_of_mem _ hx)
   have h1:(z:Rat)=((z.tdiv d:Int):Rat) * (d:Rat):=by
    have:=Int.tdiv_mul_cancel (hd (z,m) List.mem_cons_self);rw [<- Rat.intCast_mul,this]
   rw [e];simp only [xn];rw [<- ih,h1]
   grind
theorem jbi {d : Int} : ∀ l : Sp, qg (yab d l) <= qg l
 | []=>Nat.le_refl _
 | (z,m) :: r=>by
   have e:yab d ((z,m) :: r)=(z.tdiv d,m) :: yab d r:=rfl;rw [e];simp only [qg];have:=jbi (d:=d) r;have:(z.tdiv d).natAbs<=z.natAbs:=by rw [Int.natAbs_tdiv]; exact Nat.div_le_self _ _
   omega
theorem vcr {l:Sp} (h:ut l):ut (ssn l):=ybo l h xbg
def snP (p:Pl):Pl:=Pl.ofS (ssn p.sp)
theorem qbn (p:Pl):∀ x ∈ ssn p.sp,x.2.nonneg:=fun x hx=>by
 obtain ⟨y,hy,rfl⟩:=zba hx;exact p.sp_nn y hy
theorem zcx (p:Pl):(snP p).sp=ssn p.sp:=(Pl.sp_uniq (vcr p.sp_can) (qbn p) fun ρ=>by unfold snP; rw [Pl.ofS_val ρ (qbn p)]).symm
theorem yaw (p:Pl):(snP p).Can:=Pl.ofS_can _
theorem ycx (p:Pl):sdv p.sp ≠ 0:=qb9 (kbg _ p.sp_can)
theorem zaw (ρ:Int->Rat) (p:Pl):(snP p).val ρ * (sdv p.sp:Rat)=p.val ρ:=by
 unfold snP;rw [Pl.ofS_val ρ (qbn p),<- Pl.sp_val ρ p];exact zbo ρ p.sp xbg
theorem jak {p:Pl} {E D:Nat} (h:Fit p E D):Fit (snP p) E D:=
 ⟨yaw p,Pl.ofS_ex fun x hx=>by obtain ⟨y,hy,rfl⟩:=zba hx; exact h.sp_le y hy,Nat.lt_of_le_of_lt (Pl.ofS_nr _) (Nat.lt_of_le_of_lt (jbi _) h.sp_nrm)⟩
theorem ycs {p:Pl} {n:Int} (h:Low n p):Low n (snP p):=fun ρ ρ' he=>by
 have h1:=zaw ρ p;have h2:=zaw ρ' p;have h3:=h ρ ρ' he;have h0:(sdv p.sp:Rat) ≠ 0:=by
  have:=ycx p;exact fun e=>this (by exact_mod_cast e)
 rw [<- h1,<- h2] at h3
 grind
theorem wb8 {p:Pl} (h:p.Can):(snP p).lv=p.lv:=by
 have h1:(snP p).lv<=p.lv:=wa3 h.lv_nonneg.1 (yaw p) (ycs (kaw h));have h2:p.lv<=(snP p).lv:=by
  refine wa3 (yaw p).lv_nonneg.1 h fun ρ ρ' he=>?_
  rw [<- zaw,<- zaw ρ',kaw (yaw p) ρ ρ' he]
 omega
def xw (l:Int) (r:Pl):List Pl:=ui l r :: uj l r (qw l r)
def zab (l:Int) (f:Pl):List Pl:=(yf l f).flatMap (xw l) ++ if (yf l f).length=0\/gac l f=true then [] else [vg l 0 ((yf l f).getD 0 Pl.zero)]
def prE (l:Int) (a b:List Pl):List Pl:=a.flatMap fun r=>b.flatMap fun s=>uj l r s
def yas (l:Int) (Ls:List (List Pl)):List Pl:=(List.range Ls.length).flatMap fun i=>(Ls.drop (i+1)).flatMap (prE l (Ls.getD i []))
def elems (l:Int) (fs:List Pl):List Pl:=fs.flatMap (zab l) ++ yas l (fs.map (yf l))
def Seg {α:Type} (M:List α) (k:Nat) (L:List α):Prop:=∃ a b,M=a ++ (L ++ b)/\a.length=k
theorem Seg.get {α:Type} {M:List α} {k:Nat} {L:List α} (h:Seg M k L) (j:Nat) (hj:j < L.length):∃ h':k+j < M.length,M[k+j]=L[j]:=by
 obtain ⟨a,b,rfl,rfl⟩:=h;refine ⟨by simp only [List.length_append]; omega,?_⟩;rw [List.getElem_append_right (by omega)];simp only [Nat.add_sub_cancel_left];rw [List.getElem_append_left hj]
theorem Seg.all {α:Type} (M:List α):Seg M 0 M:=⟨[],[],by simp,rfl⟩
theorem Seg.left {α:Type} {M:List α} {k:Nat} {L R:List α} (h:Seg M k (L ++ R)):Seg M k L:=by
 obtain ⟨a,b,rfl,e⟩:=h;exact ⟨a,R ++ b,by simp,e⟩
theorem Seg.right {α:Type} {M:List α} {k:Nat} {L R:List α} (h:Seg M k (L ++ R)):Seg M (k+L.length) R:=by
 obtain ⟨a,b,rfl,e⟩:=h;exact ⟨a ++ L,b,by simp,by rw [List.length_append,e]⟩
theorem Seg.le {α:Type} {M:List α} {k:Nat} {L:List α} (h:Seg M k L):k+L.length<=M.length:=by
 obtain ⟨a,b,rfl,e⟩:=h;simp only [List.length_append]; omega
noncomputable def putL (acc:List Pl) (p:Pl):List Pl:=if p.lv=0 then acc else if acc.any (oP (snP p))=true then acc else acc ++ [snP p]
noncomputable def putA (acc:List Pl) (l:List Pl):List Pl:=l.foldl putL acc
noncomputable def fJ (l:Int) (fs:List Pl):List Pl:=putA [] (elems l fs)
end Go.Proofs.YtklnlgnnlmdibaaGreat

set_option maxRecDepth 100000
set_option maxHeartbeats 8000000
namespace Go.Proofs.YtklnlgnnlmdibaaGreat
open Lib (hid)
open Go.RowKit Go.Shelf
attribute [local go_sem] Oper.semAt_some
structure Env (T lp : Nat) (J : Nat -> World -> Prop) (M : List Pl) : Prop where
 ext:∀ k W W',J k W->Ext W W'->J k W'
 step:∀ k v W,(h:k < M.length)->J k W->(∃ q,PlV W q M[k] v)->∀ m,YieldAt Fence.wide m Tryz.prog lp #[v] W fun e W'=>e=.returned (.bool true)/\J (k+1) W'/\yg T W W'
structure Fw (T : Nat) (W : World) : Prop where
 lt:T < W.heap.size
 fresh:∀ b,jad T W b->b < W.heap.size
theorem Fw.keep {T:Nat} {A B:World} (h:Fw T A) (k:yg T A B):Fw T B:=⟨Nat.lt_of_lt_of_le h.lt k.size,k.fresh h.fresh⟩
theorem Fw.ext {T:Nat} {A B:World} (h:Fw T A) (hx:Ext A B):Fw T B:=h.keep (yg.of_ext h.lt hx)
def qcp (J:Nat->World->Prop) (T k:Nat) (w:World) (e:Ending) (w':World):Prop:=e=.returned (.bool true)/\J k w'/\yg T w w'
theorem qa1 {w : World} {T lp k : Nat} {J : Nat -> World -> Prop} {M : List Pl} {r s : Pl} {l : Int} {L : List Pl} (v0 v1 : Value) {q0 q1 : Nat -> Prop} (h0 : PlV w q0 r v0) (h1 : PlV w q1 s v1) (hE : Env T lp J M) (hF : Fw T w) (hJ : J k w) (hS : Seg M k L) (hn : L.length <= 1000)
 (HP:Hid (∀ W',Ext w W'->Calls Tryz.prog 72 #[v0,v1,.int .i64 l] W' (uad (fun b=>W'.heap.size<=b) L W'))) :
 Calls Tryz.prog 123 #[v0,v1,.int .i64 l,.func (.yield lp) #[] #[]] w (qcp J T (k+L.length) w):=by
 have HE:=hid hE;have yK:=hid hF;have HJ:=hid hJ;have HS:=hid hS;have og:∀ k:Nat,(Fence.wide.depth.isSome=true->1<=k):=fun k h=>by cases h
 clear hE hF hJ hS;have H0:=hid h0;have H1:=hid h1;obtain ⟨A0,m0,e0,B0,f0,rfl,-⟩:=h0.open_;obtain ⟨A1,m1,e1,B1,f1,rfl,-⟩:=h1.open_;obtain ⟨DJ,W,fU,jY,fD,aC,bU,hx1,aV,aX⟩:=b_2 w r s (.slice A0 m0 e0) (.slice B0 r.cs.length f0) (.slice A1 m1 e1) (.slice B1 s.cs.length f1);have HX:=hid (aC.trans hx1);have dC:=hid aV;have dG:=hid aX;have eQ:W.heap.size=w.heap.size+1+1:=bU;clear h0 h1 aC hx1 aV aX;obtain ⟨b0,b1,b2,b3⟩:=dC.out;obtain ⟨d0,d1,d2,d3⟩:=dG.out;unfold plV at HP ⊢;refine (callsIn_wide (n:=5)).1 ?_;refine callsIn_of_wp Tryz.func123 rfl trivial ?_ rfl;simp only [Tryz.ntmps123,List.size_toArray,List.length_cons,List.length_nil,Nat.reduceAdd,Nat.reduceSub,Array.replicate_succ,Array.replicate_zero,List.push_toArray,List.append_toArray,List.nil_append,List.cons_append]
 gi_wp2_with fail
 clear fU jY;clear b0 b1 b2 b3 d0 d1 d2 d3;refine ⟨trivial,?_⟩;refine (callsIn_wide.2 (HP.out _ HX.out)).mono ?_;rintro e w1 ⟨vr,rfl,Qx,x1⟩;have X1:=hid (HX.out.trans x1);obtain ⟨D0,dc,rfl,dh,eX,aO⟩:=Qx.at_;have PR:Hid (uam T w1 (.slice D0 L.length dc) L):=hid (uam.new (yK.out.ext HX.out).lt (yK.out.ext HX.out).fresh x1 ⟨D0,dc,rfl,dh,eX,aO⟩);clear Qx x1 aO HP fD bU eQ
 gi_wp2_with fail
 gi_loopw [22] (fun iv wr=>∃ j:Nat,j<=L.length/\iv=.int .i64 j/\Hid (J (k+j) wr/\yg T w wr/\uam T wr (.slice D0 L.length dc) L)) (fun iv _=>L.length - (intOf iv).toNat)
 case atStart=>exact ⟨0,Nat.zero_le _,rfl,hid ⟨HE.out.ext _ _ _ HJ.out X1.out,yg.of_ext yK.out.lt X1.out,PR.out⟩⟩
 case round =>
  obtain ⟨j,hj,rfl,HI⟩:=hrel
  by_cases af:j < L.length
  · obtain ⟨hJ,hK,D0',dc',e',-,-,aO⟩:=HI.out;injection e' with e1 e2 e3
    subst e1 e3;obtain ⟨ad,C0,j0,k0,C1,j1,k1,rfl,ah,⟨g0,g1,g2,g3⟩,dD⟩:=aO.kid j af;obtain ⟨Iy,Je⟩:=HS.out.get j af;have jB:=yK.out.keep hK;obtain ⟨V,hV⟩:=n_m ((wr.alloc (.cells #[.int .i64 L[j].lv,.bool L[j].neg,.slice C0 j0 k0,.slice C1 j1 k1] 35)));have dM:Ext wr V:=by rw [<- hV]; exact (Ext.refl wr).alloc _
    have dR:=HE.out.step (k+j) _ V Iy (HE.out.ext _ _ _ hJ dM) ⟨_,by rw [Je]; exact dD.ext dM⟩;obtain ⟨s0,s1,s2,s3⟩:jb V wr.heap.size L[j] (.slice C0 j0 k0) (.slice C1 j1 k1):=by rw [<- hV]; exact jb.new wr L[j] _ _ _
    obtain ⟨fn,tmps,assign,body,hy,zY⟩:=dR 4;have lC:=hid zY;have D8:=hid (hK.trans (yg.of_ext jB.lt dM));have HRV:=hid (HI.out.2.2.keep (yg.of_ext jB.lt dM));unfold plV at hy;clear zY dR dM hJ hK aO ah dD Iy Je jB;generalize L[j]=c at *
    gi_wp2_with fail
    clear g0 g1 g2 g3 hV s0 s1 s2 s3;refine lC.out.mono ?_;rintro e W2 ⟨rfl,Ji,Jh⟩;have HN:Hid (J (k+(j+1)) W2/\yg T w W2/\uam T W2 (.slice (some ad) L.length dc) L):=hid ⟨by rw [<- Nat.add_assoc]; exact Ji,D8.out.trans Jh,HRV.out.keep Jh⟩;clear Ji Jh lC hy HI
    gi_wp2_with fail
    go_roundw
    case rel=>exact ⟨j+1,by omega,by go_num,HN.out⟩
    case measure=>simp [intOf]; omega
  · obtain rfl:j=L.length:=by omega
    have hf:=HI.out;clear HI
    gi_wp2_with fail
    exact bodyPost_ret (v:=.bool true) (by simp [results,Tryz.results123,go_sem]) rfl ⟨rfl,hf.1,hf.2.1⟩
end Go.Proofs.YtklnlgnnlmdibaaGreat

namespace Go.Proofs.YtklnlgnnlmdibaaGreat
open Lib (hid)
open Go.RowKit Go.Shelf
attribute [local go_sem] Oper.semAt_some
theorem jl {α β:Type} (f:α->List β) (A:List α) (i:Nat) (hi:i < A.length):((A.take (i+1)).flatMap f).length=((A.take i).flatMap f).length+(f A[i]).length:=by
 rw [List.take_succ_eq_append_getElem hi,List.flatMap_append,List.length_append]; simp
theorem Seg.flat {α β:Type} {M:List β} {k:Nat} {f:α->List β} {A:List α} (h:Seg M k (A.flatMap f)) (i:Nat) (hi:i < A.length):Seg M (k+((A.take i).flatMap f).length) (f A[i]):=by
 have e:A.flatMap f=(A.take i).flatMap f ++ (f A[i] ++ (A.drop (i+1)).flatMap f):=by
  conv=>lhs; rw [<- List.take_append_drop i A,List.flatMap_append,List.drop_eq_getElem_cons hi,List.flatMap_cons]
 rw [e] at h;exact h.right.left
theorem jcl {w : World} {T lp k : Nat} {J : Nat -> World -> Prop} {M : List Pl} {A B : List Pl} {l : Int} (va vb : Value) (ha : uam T w va A) (hb : uam T w vb B) (hE : Env T lp J M) (hF : Fw T w) (hJ : J k w) (hS : Seg M k (prE l A B)) (YM : A.length <= 1000000) (hBn : B.length <= 1000000)
 (HP:Hid (∀ r ∈ A,∀ s ∈ B,(uj l r s).length<=1000/\∀ W' v0 v1 q0 q1,PlV W' q0 r v0->PlV W' q1 s v1->Calls Tryz.prog 72 #[v0,v1,.int .i64 l] W' (uad (fun b=>W'.heap.size<=b) (uj l r s) W'))) :
 Calls Tryz.prog 98 #[va,vb,.int .i64 l,.func (.yield lp) #[] #[]] w (qcp J T (k+(prE l A B).length) w):=by
 have HE:=hid hE;have yK:=hid hF;have HJ:=hid hJ;have HS:=hid hS;have HA:=hid ha;have HB:=hid hb;obtain ⟨D0,c0,rfl,dh,eX,-⟩:=ha;obtain ⟨E0,d0,rfl,eG,uH,-⟩:=hb;clear hE hF hJ hS;refine (callsIn_wide (n:=5)).1 ?_;refine callsIn_of_wp Tryz.func98 rfl trivial ?_ rfl;simp only [Tryz.ntmps98,List.size_toArray,List.length_cons,List.length_nil,Nat.reduceAdd,Nat.reduceSub,Array.replicate_succ,Array.replicate_zero,List.push_toArray,List.append_toArray,List.nil_append,List.cons_append]
 gi_wp2_with fail
 gi_loopw [15] (fun iv wr=>∃ i:Nat,i<=A.length/\iv=.int .i64 i/\Hid (J (k+(prE l (A.take i) B).length) wr/\yg T w wr)) (fun iv _=>A.length - (intOf iv).toNat)
 case atStart=>exact ⟨0,Nat.zero_le _,rfl,hid ⟨by simpa [prE] using HJ.out,yg.of_ext yK.out.lt (Ext.refl w)⟩⟩
 case round =>
  obtain ⟨i,hi,rfl,HI⟩:=hrel
  by_cases af:i < A.length
  · obtain ⟨hJ,hK⟩:=HI.out;have jB:=yK.out.keep hK;obtain ⟨D0',c0',e',-,-,aO⟩:=HA.out.keep hK;injection e' with e1 e2 e3
    subst e1 e3;obtain ⟨ad,C0,j0,k0,C1,j1,k1,rfl,ah,⟨g0,g1,g2,g3⟩,dD⟩:=aO.kid i af;have iE:=hid (HS.out.flat i af);have oH:=hid (jl (fun r=>B.flatMap fun s=>uj l r s) A i af);have Wj:=hid (HP.out A[i] (List.getElem_mem af));obtain ⟨V,hV⟩:=n_m ((wr.alloc (.cells #[.int .i64 A[i].lv,.bool A[i].neg,.slice C0 j0 k0,.slice C1 j1 k1] 35)));have dM:Ext wr V:=by rw [<- hV]; exact (Ext.refl wr).alloc _
    have tu:jb V wr.heap.size A[i] (.slice C0 j0 k0) (.slice C1 j1 k1):=by rw [<- hV]; exact jb.new wr A[i] _ _ _
    have lN:=hid tu;have iZ:Safe T V wr.heap.size:=jay jB.lt jB.fresh dM (Nat.le_refl _) (by rw [<- hV]; simp);have jD:=hid iZ;have D8:=hid (hK.trans (yg.of_ext jB.lt dM));have NS:=hid (HE.out.ext _ _ _ hJ dM);have Jv:=hid ((yg.of_ext jB.lt dM).pl dD);obtain ⟨g,hg⟩:=n_m (wr.heap.size);rw [hg] at lN jD;obtain ⟨n0,fE⟩:=n_m (k+(prE l (A.take i) B).length);have jZ:=hid fE;unfold prE at fE;rw [fE] at iE;rw [jZ.out] at NS;clear hJ hK aO ah dD jB dM tu iZ HI fE;generalize A[i]=r at *
    gi_wp2_with fail
    try rw [hg]
    clear g0 g1 g2 g3 hV hg
    gi_loopw [21] (fun iv wr=>∃ j:Nat,j<=B.length/\iv=.int .i64 j/\Hid (J (n0+((B.take j).flatMap fun s=>uj l r s).length) wr/\yg T V wr)) (fun iv _=>B.length - (intOf iv).toNat)
    case atStart=>exact ⟨0,Nat.zero_le _,rfl,hid ⟨by simpa using NS.out,yg.of_ext (yK.out.keep D8.out).lt (Ext.refl V)⟩⟩
    case round =>
     obtain ⟨j,hj,rfl,rU⟩:=hrel
     by_cases lI:j < B.length
     · obtain ⟨Ji,Jh⟩:=rU.out;have Lj:=(yK.out.keep D8.out).keep Jh;obtain ⟨E0',d0',e',-,-,nI⟩:=(HB.out.keep D8.out).keep Jh;injection e' with e1 e2 e3
       subst e1 e3;obtain ⟨ad2,G0,i0,h0,G1,i1,h1,rfl,I9,⟨f0,f1,f2,f3⟩,KC⟩:=nI.kid j lI;have VU:=hid (iE.out.flat j lI);have WF:=hid (jl (fun s=>uj l r s) B j lI);obtain ⟨hpn,wZ⟩:=Wj.out B[j] (List.getElem_mem lI);obtain ⟨U,hU⟩:=n_m ((wr.alloc (.cells #[.int .i64 B[j].lv,.bool B[j].neg,.slice G0 i0 h0,.slice G1 i1 h1] 35)));have hxU:Ext wr U:=by rw [<- hU]; exact (Ext.refl wr).alloc _
       obtain ⟨s0,s1,s2,s3⟩:jb U wr.heap.size B[j] (.slice G0 i0 h0) (.slice G1 i1 h1):=by rw [<- hU]; exact jb.new wr B[j] _ _ _
       have Jg:=Jh.trans (yg.of_ext Lj.lt hxU);obtain ⟨b0,b1,b2,b3⟩:jb U g r (.slice C0 j0 k0) (.slice C1 j1 k1):=⟨Jg.cell jD.out lN.out.1,Jg.cell jD.out lN.out.2.1,Jg.cell jD.out lN.out.2.2.1,Jg.cell jD.out lN.out.2.2.2⟩;have wK:=hid (qa1 (k:=n0+((B.take j).flatMap fun s=>uj l r s).length) _ _ (Jg.pl Jv.out) (KC.ext hxU) HE.out (Lj.ext hxU) (HE.out.ext _ _ _ Ji hxU) VU.out hpn (hid fun W' hx=>wZ W' _ _ _ _ ((Jg.pl Jv.out).ext hx) ((KC.ext hxU).ext hx)));have HKU:=hid Jg;unfold plV at wK;clear Ji Jh Lj nI I9 KC hxU Jg wZ rU;generalize B[j]=s at *
       gi_wp2_with fail
       clear f0 f1 f2 f3 hU s0 s1 s2 s3 b0 b1 b2 b3;refine ⟨trivial,?_⟩;refine (callsIn_wide.2 wK.out).mono ?_;rintro e W2 ⟨rfl,hJ3,Pq⟩;have HN:Hid (J (n0+((B.take (j+1)).flatMap fun s=>uj l r s).length) W2/\yg T V W2):=hid ⟨by rw [WF.out,<- Nat.add_assoc]; exact hJ3,HKU.out.trans Pq⟩;clear hJ3 Pq wK
       gi_wp2_with fail
       go_roundw
       case rel=>exact ⟨j+1,by omega,by go_num,HN.out⟩
       case measure=>simp [intOf]; omega
     · obtain rfl:j=B.length:=by omega
       have hf:=rU.out;rw [List.take_length] at hf
       have HN:Hid (J (k+(prE l (A.take (i+1)) B).length) wr/\yg T w wr):=hid ⟨by
        have h1:=oH.out;have h2:=jZ.out;unfold prE at h2 ⊢
        rw [h1,<- Nat.add_assoc,h2]; exact hf.1,D8.out.trans hf.2⟩
       clear rU hf
       gi_wp2_with fail
       go_roundw
       case rel=>exact ⟨i+1,by omega,by go_num,HN.out⟩
       case measure=>simp [intOf]; omega
  · obtain rfl:i=A.length:=by omega
    have hf:=HI.out;rw [List.take_length] at hf;clear HI
    gi_wp2_with fail
    exact bodyPost_ret (v:=.bool true) (by simp [results,Tryz.results98,go_sem]) rfl ⟨rfl,hf.1,hf.2⟩
end Go.Proofs.YtklnlgnnlmdibaaGreat

namespace Go.Proofs.YtklnlgnnlmdibaaGreat
open Lib (hid)
open Go.RowKit Go.Shelf
attribute [local go_sem] Oper.semAt_some
theorem xbf (a:Addr):a.add 0=a:=by simp [Addr.add]
def tailE (l:Int) (A:List Pl) (c:Bool):List Pl:=if A.length=0\/c=true then [] else [vg l 0 (A.getD 0 Pl.zero)]
theorem jb2 {w : World} {T lp k E D : Nat} {J : Nat -> World -> Prop} {M : List Pl} {A : List Pl} {l : Int} {c : Bool} (va : Value) (hl : 1 <= l) (ag : l <= 4) (ha : uam T w va A) (hE : Env T lp J M) (hF : Fw T w) (hJ : J k w) (hS : Seg M k (A.flatMap (xw l) ++ tailE l A c)) (YM : A.length <= 1000000) (aB : ∀ r ∈ A, Fit r E D) (hE6 : E <= 62) (hD : D <= 1099511627774)
 (HP:Hid (∀ r ∈ A,(uj l r (qw l r)).length<=1000/\∀ W' v0 v1 q0 q1,PlV W' q0 r v0->PlV W' q1 (qw l r) v1->Calls Tryz.prog 72 #[v0,v1,.int .i64 l] W' (uad (fun b=>W'.heap.size<=b) (uj l r (qw l r)) W'))) :
 Calls Tryz.prog 97 #[va,.bool c,.int .i64 l,.func (.yield lp) #[] #[]] w (qcp J T (k+(A.flatMap (xw l) ++ tailE l A c).length) w):=by
 have HE:=hid hE;have yK:=hid hF;have HJ:=hid hJ;have HS:=hid hS.left;have dN:=hid hS.right;have HA:=hid ha;have jH:=hid aB;have og:∀ k:Nat,(Fence.wide.depth.isSome=true->1<=k):=fun k h=>by cases h
 have iI:Tryz.prog.follows .mixedOrders=true:=by kernel_rfl
 obtain ⟨D0,c0,rfl,dh,eX,-⟩:=ha;obtain ⟨N,hN⟩:=n_m (k+(A.flatMap (xw l) ++ tailE l A c).length);rw [hN];have qZ:=hid hN.symm;clear hN;clear hE hF hJ hS aB;refine (callsIn_wide (n:=5)).1 ?_;refine callsIn_of_wp Tryz.func97 rfl trivial ?_ rfl;simp only [Tryz.ntmps97,List.size_toArray,List.length_cons,List.length_nil,Nat.reduceAdd,Nat.reduceSub,Array.replicate_succ,Array.replicate_zero,List.push_toArray,List.append_toArray,List.nil_append,List.cons_append]
 gi_wp2_with fail
 gi_loopw [13] (fun iv wr=>∃ i:Nat,i<=A.length/\iv=.int .i64 i/\Hid (J (k+((A.take i).flatMap (xw l)).length) wr/\yg T w wr)) (fun iv _=>A.length - (intOf iv).toNat)
 case atStart=>exact ⟨0,Nat.zero_le _,rfl,hid ⟨by simpa using HJ.out,yg.of_ext yK.out.lt (Ext.refl w)⟩⟩
 case round =>
  obtain ⟨i,hi,rfl,HI⟩:=hrel
  by_cases af:i < A.length
  · obtain ⟨hJ,hK⟩:=HI.out;have jB:=yK.out.keep hK;obtain ⟨D0',c0',e',-,-,aO⟩:=HA.out.keep hK;injection e' with e1 e2 e3
    subst e1 e3;obtain ⟨ad,C0,j0,k0,C1,j1,k1,rfl,ah,⟨g0,g1,g2,g3⟩,dD⟩:=aO.kid i af;have fB:=HS.out.flat i af;have hlen:=jl (xw l) A i af;have bF:=jH.out A[i] (List.getElem_mem af);obtain ⟨hpn,wZ⟩:=HP.out A[i] (List.getElem_mem af);obtain ⟨V,hV⟩:=n_m ((wr.alloc (.cells #[.int .i64 A[i].lv,.bool A[i].neg,.slice C0 j0 k0,.slice C1 j1 k1] 35)));have dM:Ext wr V:=by rw [<- hV]; exact (Ext.refl wr).alloc _
    have tu:jb V wr.heap.size A[i] (.slice C0 j0 k0) (.slice C1 j1 k1):=by rw [<- hV]; exact jb.new wr A[i] _ _ _
    have iZ:Safe T V wr.heap.size:=jay jB.lt jB.fresh dM (Nat.le_refl _) (by rw [<- hV]; simp);have Uc:=jB.ext dM;have EN:=hid Uc;have hwV:wr.heap.size < V.heap.size:=iZ.1;have lN:=hid tu;have jD:=hid iZ;have D8:=hid (hK.trans (yg.of_ext jB.lt dM));have NS:=hid (HE.out.ext _ _ _ hJ dM);have Jv:=hid ((yg.of_ext jB.lt dM).pl dD);have Zn:=hid wZ;have Je:=Seg.get (L:=xw l A[i]) fB 0 (by simp [xw]);have PZ:Hid (∃ h:(k+((A.take i).flatMap (xw l)).length) < M.length,M[k+((A.take i).flatMap (xw l)).length]=ui l A[i]):=hid Je;have iE:Hid (Seg M (k+((A.take i).flatMap (xw l)).length+1) (uj l A[i] (qw l A[i]))):=hid (Seg.right (L:=[ui l A[i]]) (R:=uj l A[i] (qw l A[i])) fB);have oH:Hid (((A.take (i+1)).flatMap (xw l)).length=((A.take i).flatMap (xw l)).length+((uj l A[i] (qw l A[i])).length+1)):=hid hlen;have NM:=hid (fun (W':World) (q:Nat->Prop) (u:Value) (hu:PlV W' q A[i] u)=>kaf u hl ag bF (by omega) (by omega) hu);have Qi:=hid (fun (W':World) (q:Nat->Prop) (u:Value) (hu:PlV W' q A[i] u)=>kbq u hl ag bF hE6 hD hu);obtain ⟨g,hg⟩:=n_m (wr.heap.size);obtain ⟨n0,fE⟩:=n_m (k+((A.take i).flatMap (xw l)).length);rw [fE] at NS PZ iE;have jZ:=hid fE;rw [hg] at lN jD hwV;have hd:Ext V V.drew:=(Ext.refl V).drew;have BG:=hid hd;obtain ⟨s0,s1,s2,s3⟩:=lN.out;obtain ⟨s0',s1',s2',s3'⟩:=lN.out.ext hd hwV;clear hJ hK aO ah dD jB dM tu iZ HI fE Je fB hlen bF wZ hd Uc;generalize A[i]=r at *;unfold plV at Jv
    gi_wp2_with fail
    try rw [hg]
    clear g0 g1 g2 g3 hV hg s0 s1 s2 s3
    gi_region_with_o (first
     | (go_simp
        (try refine ⟨og _,?_⟩)
        (try refine ⟨trivial,?_⟩)
        refine (callsIn_wide.2 (NM.out _ _ _ (Jv.out.ext BG.out))).mono ?_;rintro e v1 ⟨lv,rfl,pl,x1⟩;have X1:=hid (BG.out.trans x1);obtain ⟨F0,i0,h0,F1,h1,rfl,-⟩:=id pl.open_;obtain ⟨uJ,Bl⟩:=PZ.out;obtain ⟨fn,tmps,assign,body,hy,zY⟩:=HE.out.step n0 _ v1 uJ (HE.out.ext _ _ _ NS.out X1.out) ⟨_,by rw [Bl]; exact pl⟩ 4;have lC:=hid zY;unfold plV at hy ⊢
        clear zY x1 pl uJ Bl)
     | (go_simp
        (try refine ⟨og _,?_⟩)
        refine lC.out.mono ?_;rintro e v2 ⟨rfl,oL,hk2⟩;have vU:=(yg.of_ext EN.out.lt X1.out).trans hk2;obtain ⟨q0,q1,q2,q3⟩:jb v2 g r (.slice C0 j0 k0) (.slice C1 j1 k1):=⟨vU.cell jD.out lN.out.1,vU.cell jD.out lN.out.2.1,vU.cell jD.out lN.out.2.2.1,vU.cell jD.out lN.out.2.2.2⟩;have J2:=hid oL;have K2:=hid vU;have P2:=hid (vU.pl Jv.out)
        clear oL hk2 vU)
     | (go_simp
        (try refine ⟨og _,?_⟩)
        (try refine ⟨trivial,?_⟩)
        refine (callsIn_wide.2 (Qi.out _ _ _ P2.out)).mono ?_;rintro e v3 ⟨dv,rfl,pd,x3⟩;obtain ⟨G0,i2,h2,G1,h3,rfl,-⟩:=id pd.open_;have tq:=(EN.out.keep K2.out).ext x3;have gJ:g < v2.heap.size:=Nat.lt_of_lt_of_le hwV K2.out.size;have y0:=(x3.cell (p:=⟨g,0,none⟩) gJ).trans q0;have y1:=(x3.cell (p:=⟨g,1,none⟩) gJ).trans q1;have y2:=(x3.cell (p:=⟨g,2,none⟩) gJ).trans q2;have y3:=(x3.cell (p:=⟨g,3,none⟩) gJ).trans q3;have wK:=hid (qa1 (k:=n0+1) _ _ (P2.out.ext x3) pd HE.out tq (HE.out.ext _ _ _ J2.out x3) iE.out hpn (hid fun W' hx=>Zn.out W' _ _ _ _ ((P2.out.ext x3).ext hx) (pd.ext hx)));have K3:=hid (K2.out.trans (yg.of_ext (EN.out.keep K2.out).lt x3));unfold plV at wK ⊢
        clear x3 pd tq gJ)
     | (go_simp
        (try refine ⟨og _,?_⟩)
        (try refine ⟨trivial,?_⟩)
        refine (callsIn_wide.2 wK.out).mono ?_;rintro e v4 ⟨rfl,rF,Et⟩
        have HN:Hid (J (k+((A.take (i+1)).flatMap (xw l)).length) v4/\yg T w v4):=hid ⟨by
         have h1:=oH.out;have h2:=jZ.out
         rw [h1,<- Nat.add_assoc,h2,Nat.add_comm (uj l r (qw l r)).length 1,<- Nat.add_assoc]; exact rF,(D8.out.trans K3.out).trans Et⟩
        clear rF Et))
    all_goals
     clear s0' s1' s2' s3' lC hy q0 q1 q2 q3 wK
     gi_wp2_with fail
     go_roundw
     case rel=>exact ⟨i+1,by omega,by go_num,HN.out⟩
     case measure=>simp [intOf]; omega
  · obtain rfl:i=A.length:=by omega
    have hf:=HI.out;rw [List.take_length] at hf;obtain ⟨hJ,hK⟩:=hf
    by_cases h0:A.length=0
    · have HF:Hid (J N wr/\yg T w wr):=hid ⟨by rw [qZ.out]; unfold tailE; rw [if_pos (Or.inl h0),List.append_nil]; exact hJ,hK⟩;rw [h0];clear HI hJ hK h0
      gi_wp2_with fail
      exact bodyPost_ret (v:=.bool true) (by simp [results,Tryz.results97,go_sem]) rfl ⟨rfl,HF.out.1,HF.out.2⟩
    · have hz:((A.length:Int) == 0)=false:=by rw [beq_eq_false_iff_ne]; omega
      cases c with
      | true =>
        have HF:Hid (J N wr/\yg T w wr):=hid ⟨by rw [qZ.out]; unfold tailE; rw [if_pos (Or.inr rfl),List.append_nil]; exact hJ,hK⟩;clear HI hJ hK h0
        gi_wp2_with fail
        exact bodyPost_ret (v:=.bool true) (by simp [results,Tryz.results97,go_sem]) rfl ⟨rfl,HF.out.1,HF.out.2⟩
      | false =>
        have af:0 < A.length:=by omega
        have qO:tailE l A false=[vg l 0 A[0]]:=by
         unfold tailE; rw [if_neg (by rintro (h | h); exact h0 h; cases h),List.getD_eq_getElem?_getD,List.getElem?_eq_getElem af]; rfl
        have MH:=dN.out;rw [qO] at MH;have Je:=MH.get 0 (by simp);have PZ:Hid (∃ h:(k+(A.flatMap (xw l)).length) < M.length,M[k+(A.flatMap (xw l)).length]=vg l 0 A[0]):=hid Je;have HTE:Hid (N=k+(A.flatMap (xw l)).length+1):=hid (by rw [qZ.out,qO,List.length_append,List.length_singleton,Nat.add_assoc]);obtain ⟨n0,fE⟩:=n_m (k+(A.flatMap (xw l)).length);rw [fE] at HTE PZ hJ;have jB:=yK.out.keep hK;obtain ⟨D0',c0',e',-,-,aO⟩:=HA.out.keep hK;injection e' with e1 e2 e3
        subst e1 e3;obtain ⟨ad,C0,j0,k0,C1,j1,k1,rfl,ah,⟨g0,g1,g2,g3⟩,dD⟩:=aO.kid 0 af;have nK:=hid (ga3 (k:=0) _ (by omega) (by omega) hl ag (jH.out A[0] (List.getElem_mem af)) (by omega) (by omega) dD);have Ec:=hid jB;have BK:=hid hJ;have ZC:=hid hK;simp only [Nat.zero_mul,xbf] at g0 g1 g2 g3;obtain ⟨r,hr⟩:=n_m (A[0]);rw [hr] at nK PZ g0 g1;unfold plV at nK;clear HI hJ hK h0 jB aO ah dD MH Je qO dN hr
        gi_wp2_with fail
        clear g0 g1 g2 g3;refine ⟨trivial,?_⟩;refine (callsIn_wide.2 nK.out).mono ?_;rintro e v1 ⟨cv,rfl,pc,x1⟩;obtain ⟨F0,i0,h0,F1,h1,rfl,-⟩:=id pc.open_;obtain ⟨uJ,Bl⟩:=PZ.out;obtain ⟨fn,tmps,assign,body,hy,zY⟩:=HE.out.step n0 _ v1 uJ (HE.out.ext _ _ _ BK.out x1) ⟨_,by rw [Bl]; exact pc⟩ 4;have lC:=hid zY;have K1:=hid (ZC.out.trans (yg.of_ext Ec.out.lt x1));obtain ⟨d,hd⟩:=n_m (vg l 0 r);rw [hd] at hy ⊢;unfold plV at hy ⊢;clear zY x1 pc uJ Bl nK hd fE
        gi_wp2_with fail
        refine lC.out.mono ?_;rintro e v2 ⟨rfl,oL,hk2⟩;rw [<- HTE.out] at oL;have HF:Hid (J N v2/\yg T w v2):=hid ⟨oL,K1.out.trans hk2⟩;clear oL hk2 lC hy
        gi_wp2_with fail
        exact bodyPost_ret (v:=.bool true) (by simp [results,Tryz.results97,go_sem]) rfl ⟨rfl,HF.out.1,HF.out.2⟩
end Go.Proofs.YtklnlgnnlmdibaaGreat

namespace Go.Proofs.YtklnlgnnlmdibaaGreat
open Lib (hid)
open Go.RowKit Go.Shelf
attribute [local go_sem] Oper.semAt_some
theorem kcc:(Tryz.prog.info? 24).map (fun i=>(i.zero,i.size,i.bytes))=some (some (.slice none 0 0),1,24):=by kernel_rfl
theorem qbl (n:Int) (h0:0<=n) (h1:n<=1099511627776) (w:World) :
 ∃ w',(Instr.makeSlice 99 (.int .i64 n) (.int .i64 n)).run Tryz.prog w=.ok (.slice (some ⟨w.heap.size,0,none⟩) n.toNat n.toNat) w'/\Ext w w'/\w'.heap.size=w.heap.size+1/\(∀ i,w'.frozen? ⟨w.heap.size,i,none⟩=false)/\(∀ i,i < n.toNat->w'.cell? ⟨w.heap.size,i,none⟩=some (.slice none 0 0))/\∀ i x,w'.cell? ⟨w.heap.size,i,none⟩=some x->∃ D n c,x=.slice D n c:=by
 obtain ⟨i0,hi,jI,kZ,jT⟩:=info_parts kcc;have hc:∀ i,(w.alloc (.cells (madeCells (Value.slice none 0 0).cells (n.toNat * i0.size)) 24)).cell? ⟨w.heap.size,i,none⟩=if i < n.toNat then some (.slice none 0 0) else none:=by
  intro i;rw [cell_of_row _ _ i _ _ (0,0) (heap_alloc_new w _),kZ];unfold madeCells;rw [Array.getElem?_map,Array.getElem?_range,Nat.mul_one]
  split
  · show some ((#[Value.slice none 0 0]:Array Value)[i % 1]!)=_;rw [Nat.mod_one]; rfl
  · rfl
 refine ⟨_,run_make w 99 24 i0 _ Tryz.underlying99 hi jI .i64 .i64 n n h0 (by omega) (by rw [jT]; omega) (by omega),(Ext.refl w).alloc _,by simp,fun i=>by simp [go_sem],fun i h=>by rw [hc,if_pos h],fun i x h=>?_⟩;rw [hc] at h
 split at h
 · injection h with h; exact ⟨_,_,_,h.symm⟩
 · cases h
structure za1 (T R n : Nat) (W : World) (Ls : List (List Pl)) : Prop where
 safe:Safe T W R
 fr:∀ j,j < n->W.frozen? ⟨R,j,none⟩=false
 sl:∀ j x,W.cell? ⟨R,j,none⟩=some x->∃ D n c,x=.slice D n c
 some_:∀ j,j < n->∃ x,W.cell? ⟨R,j,none⟩=some x
 le:Ls.length<=n
 row:∀ i (h:i < Ls.length),∃ v,W.cell? ⟨R,i,none⟩=some v/\wa0 T R W v Ls[i]
theorem za1.keep {T R n:Nat} {A B:World} {Ls:List (List Pl)} (h:za1 T R n A Ls) (k:yg T A B) (hn:0 < n):za1 T R n B Ls:=by
 obtain ⟨x0,aC⟩:=h.some_ 0 hn;have hb:=k.block h.safe aC;have hc:∀ j,B.cell? ⟨R,j,none⟩=A.cell? ⟨R,j,none⟩:=fun j=>World.cell?_of_block (a:=⟨R,j,none⟩) hb
 exact ⟨h.safe.keep k,fun j hj=>(World.frozen?_of_block (a:=⟨R,j,none⟩) hb).trans (h.fr j hj),fun j x hx=>h.sl j x (by rw [<- hc]; exact hx),fun j hj=>by rw [hc]; exact h.some_ j hj,h.le,fun i hi=>by
  obtain ⟨v,hv,hr⟩:=h.row i hi
  exact ⟨v,by rw [hc]; exact hv,hr.keep (k.x R)⟩⟩
theorem za1.set {T R n:Nat} {A:World} {Ls:List (List Pl)} (h:za1 T R n A Ls) (hi:Ls.length < n) {D:Option Addr} {c:Nat} {L:List Pl} (hr:wa0 T R A (.slice D L.length c) L):za1 T R n (A.setCell ⟨R,Ls.length,none⟩ (.slice D L.length c)) (Ls ++ [L])/\xac T R A (A.setCell ⟨R,Ls.length,none⟩ (.slice D L.length c)):=by
 obtain ⟨u,hu⟩:=h.some_ _ hi;obtain ⟨D',n',c',rfl⟩:=h.sl _ _ hu;have hk:xac T R A (A.setCell ⟨R,Ls.length,none⟩ (.slice D L.length c)):=xac.set h.safe.2.1 hu rfl;have same:=World.cell?_setCell_same A ⟨R,Ls.length,none⟩ (.slice D L.length c) hu;have Ou:∀ j,j ≠ Ls.length->(A.setCell ⟨R,Ls.length,none⟩ (.slice D L.length c)).cell? ⟨R,j,none⟩=A.cell? ⟨R,j,none⟩:=fun j hj=>World.cell?_setCell_other _ _ _ _ (by intro e; injection e with _ e; exact hj e.symm)
 refine ⟨⟨⟨by have:=h.safe.1; simpa [World.setCell] using this,h.safe.2.1,fun e=>h.safe.2.2 (hk.own R h.safe.1 e)⟩,fun j hj=>by rw [World.frozen?_setCell]; exact h.fr j hj,fun j x hx=>?_,fun j hj=>?_,by simp; omega,fun i iJ=>?_⟩,hk⟩
 · by_cases e:j=Ls.length
   · subst e; rw [same] at hx; injection hx with hx; exact ⟨_,_,_,hx.symm⟩
   · rw [Ou j e] at hx; exact h.sl j x hx
 · by_cases e:j=Ls.length
   · subst e; exact ⟨_,same⟩
   · rw [Ou j e]; exact h.some_ j hj
 · by_cases e:i=Ls.length
   · subst e;refine ⟨_,same,?_⟩;simpa using hr.keep hk
   · have af:i < Ls.length:=by simp at iJ; omega
     obtain ⟨v,hv,Ba⟩:=h.row i af;refine ⟨v,by rw [Ou i e]; exact hv,?_⟩;rw [List.getElem_append_left af]; exact Ba.keep hk
structure uc2 (T lp lo : Nat) (J : Nat -> World -> Prop) (M : List Pl) : Prop extends Env T lp J M where
 rel:∀ k A B,J k A->zaq T lo A B->J k B
def kcy (x:Value):Array Value:=#[x]
def OkP (M:List Pl) (k:Nat) (x:Value) (W:World):Prop:=∃ _:k < M.length,∃ q,PlV W q M[k] x
def vbf (l:Int) (fs:List Pl):Prop:=∀ r s,((∃ f ∈ fs,r ∈ yf l f/\s=qw l r)\/(∃ (i j:Nat) (hi:i < fs.length) (hj:j < fs.length),i < j/\r ∈ yf l fs[i]/\s ∈ yf l fs[j]))->(uj l r s).length<=1000/\∀ W' v0 v1 q0 q1,PlV W' q0 r v0->PlV W' q1 s v1->Calls Tryz.prog 72 #[v0,v1,.int .i64 l] W' (uad (fun b=>W'.heap.size<=b) (uj l r s) W')
theorem xbs {w : World} {T lo E D BL BV c0 : Nat} {D0 : Option Addr} {l : Int} {fs : List Pl} (hl : 1 <= l) (ag : l <= 4) (hF : Fw T w) (hlo : lo <= w.heap.size) (Vr : Safe T w BL) (YL : Safe T w BV) (cL : w.cell? ⟨BL, 0, none⟩ = some (.slice D0 fs.length c0)) (cV : w.cell? ⟨BV, 0, none⟩ = some (.int .i64 l))
 (dh:fs.length<=c0) (eX:c0<=9223372036854775807) (aO:jc w (Safe T w) fs D0 0) (vV:fs.length<=1000) (aB:∀ f ∈ fs,Fit f E D) (hE:E<=60) (hD:D<=100000000000) (HP:Hid (vbf l fs)) (n:Nat) :
 xcq n Tryz.prog 96 #[.pointer (some ⟨BL,0,none⟩),.pointer (some ⟨BV,0,none⟩)] kcy (OkP (elems l fs)) (yg T) (zaq T lo) (elems l fs).length w:=by
 intro lp J W hW hJ hR hY h0;have ai:Ext w W:=hW;have HE:Hid (uc2 T lp lo J (elems l fs)):=hid ⟨⟨fun k W W' h hx=>hJ k W W' none h ⟨hx.below.os,hx.below.tape,hx.below.output,hx.size,fun i hi _=>hx.below.block i hi⟩ (fun r e=>by cases e),fun k v W h hj hp m=>hY k v W h hj ⟨h,hp⟩ m⟩,hR⟩;have HR:=hid hR;have H0:=hid h0;have yK:=hid (hF.ext ai);have jH:=hid aB;have k1:W.cell? ⟨BL,0,none⟩=some (.slice D0 fs.length c0):=(ai.cell (p:=⟨BL,0,none⟩) Vr.1).trans cL;have oK:=ai.size;obtain ⟨W1,cu,iI,SG,uD,OI,KJ⟩:=qbl (fs.length:Int) (by omega) (by omega) W;rw [Int.toNat_natCast] at cu OI;obtain ⟨R,hRe⟩:=n_m (W.heap.size);rw [hRe] at cu uD OI KJ SG;have hx1:Ext w W1:=ai.trans iI;have jM:=hF.ext hx1;have vG:Safe T W1 R:=⟨by omega,by have:=hF.lt; omega,fun e=>by
  obtain ⟨v,hv,e'⟩:=e;have:=hF.fresh R ⟨v,(hx1.cell (p:=⟨T,0,none⟩) hF.lt).symm.trans hv,e'⟩
  omega⟩
 have uB:Hid (za1 T R fs.length W1 []):=hid ⟨vG,fun j _=>uD j,KJ,fun j hj=>⟨_,OI j hj⟩,by simp,fun i hi=>by simp at hi⟩;have Bc:=yg.of_ext hF.lt hx1;have PO:Hid (waq T R W1 BL):=hid ⟨Vr.keep Bc,by have:=Vr.1; omega⟩;have Nj:Hid (waq T R W1 BV):=hid ⟨YL.keep Bc,by have:=YL.1; omega⟩;have HCV:Hid (W1.cell? ⟨BV,0,none⟩=some (.int .i64 l)):=hid ((hx1.cell (p:=⟨BV,0,none⟩) YL.1).trans cV);have Ob:Hid (W1.cell? ⟨BL,0,none⟩=some (.slice D0 fs.length c0)):=hid ((hx1.cell (p:=⟨BL,0,none⟩) Vr.1).trans cL);have dF:Hid (wa0 T R W1 (.slice D0 fs.length c0) fs):=hid ⟨D0,c0,rfl,dh,eX,jc.turnC Bc.size Bc.nat (fun a v hp hv=>⟨⟨hp.keep Bc,by have:=hp.1; omega⟩,Bc.cellA hp hv⟩) _ _ _ aO⟩;have NV:=hid jM;have abk:lo<=R:=by omega
 have J1:=hid (HE.out.ext _ _ _ h0 iI);have akU:R < W1.heap.size:=vG.1;have hPD:∀ r ∈ fs,mdg l r<=62:=fun r hr=>by have:=yai (l:=l) (aB r hr).can (aB r hr).ex; omega
 have HPD:=hid hPD;have og:∀ k:Nat,(Fence.wide.depth.isSome=true->1<=k):=fun k h=>by cases h
 have ajQ:Tryz.prog.follows .mixedOrders=true:=by kernel_rfl
 obtain ⟨M,hM⟩:=n_m (elems l fs);have MF:Seg M 0 (fs.flatMap (zab l) ++ yas l (fs.map (yf l))):=by rw [<- hM]; exact Seg.all _
 have HSG:=hid MF.left;have Zi:=hid MF.right;have BI:Hid ((fs.flatMap (zab l)).length+(yas l (fs.map (yf l))).length=M.length):=hid (by rw [<- hM]; unfold elems; rw [List.length_append]);rw [hM] at HE ⊢;clear hW hJ hR hY h0 hF Vr YL cL cV aO aB ai uD OI KJ hx1 jM vG Bc hPD MF hM iI;refine callsIn_of_wp Tryz.func96 rfl trivial ?_ rfl;simp only [Tryz.ntmps96,List.size_toArray,List.length_cons,List.length_nil,Nat.reduceAdd,Nat.reduceSub,Array.replicate_succ,Array.replicate_zero,List.push_toArray,List.append_toArray,List.nil_append,List.cons_append];have k2:=Ob.out
 gi_wp2_with fail
 clear k1 k2 cu hRe
 gi_loopw [17] (fun iv wr=>∃ i:Nat,i<=fs.length/\iv=.int .i64 i/\Hid (J ((fs.take i).flatMap (zab l)).length wr/\xac T R W1 wr/\za1 T R fs.length wr ((fs.take i).map (yf l)))) (fun iv _=>fs.length - (intOf iv).toNat)
 case atStart=>exact ⟨0,Nat.zero_le _,rfl,hid ⟨by simpa using J1.out,(yg.of_ext NV.out.lt (Ext.refl W1)).x R,by simpa using uB.out⟩⟩
 case round =>
  obtain ⟨i,hi,rfl,HI⟩:=hrel
  by_cases af:i < fs.length
  · obtain ⟨hJ,hK,hA⟩:=HI.out;have fE:0 < fs.length:=by omega
    have jB:Fw T wr:=⟨Nat.lt_of_lt_of_le NV.out.lt hK.size,hK.fresh NV.out.fresh⟩;obtain ⟨D0',c0',e',-,-,aO⟩:=dF.out.keep hK;injection e' with e1 e2 e3
    subst e1 e3;obtain ⟨ad,C0,j0,k0,C1,j1,k1,rfl,ah,⟨g0,g1,g2,g3⟩,dD⟩:=aO.kid i af;have iE:=hid (HSG.out.flat i af);have oH:=hid (jl (zab l) fs i af);have FZ:=jH.out fs[i] (List.getElem_mem af);obtain ⟨V,hV⟩:=n_m ((wr.alloc (.cells #[.int .i64 fs[i].lv,.bool fs[i].neg,.slice C0 j0 k0,.slice C1 j1 k1] 35)));have dM:Ext wr V:=by rw [<- hV]; exact (Ext.refl wr).alloc _
    obtain ⟨s0,s1,s2,s3⟩:jb V wr.heap.size fs[i] (.slice C0 j0 k0) (.slice C1 j1 k1):=by rw [<- hV]; exact jb.new wr fs[i] _ _ _
    have cv:V.cell? ⟨BV,0,none⟩=some (.int .i64 l):=((xac.trans hK ((yg.of_ext jB.lt dM).x R)).cellA Nj.out HCV.out);have HRE:=hid (ubu _ hl ag (dD.ext dM) FZ (by omega) (by omega));have D8:=hid (hK.trans ((yg.of_ext jB.lt dM).x R));have HAV:=hid (hA.keep (yg.of_ext jB.lt dM) fE);have NS:=hid (HE.out.ext _ _ _ hJ dM);have EN:=hid (jB.ext dM);have fV:Hid (((fs.take i).map (yf l)).length=i):=hid (by rw [List.length_map,List.length_take]; omega);have oz:Hid ((fs.take i).map (yf l) ++ [yf l fs[i]]=(fs.take (i+1)).map (yf l)):=hid (by rw [List.take_succ_eq_append_getElem af,List.map_append]; rfl);have wP:=hid (List.getElem_mem af);have jP:=hid FZ;clear hJ hK hA jB aO ah dD dM FZ HI;generalize fs[i]=f at *;unfold plV at HRE
    gi_wp2_with fail
    clear g0 g1 g2 g3 hV s0 s1 s2 s3;refine ⟨trivial,og _,?_⟩;refine (callsIn_wide.2 HRE.out).mono ?_;rintro e V2 ⟨v2,rfl,⟨E0,ec,rfl,LD,abL,nI⟩,x2⟩;obtain ⟨rl,vJ⟩:=n_m (yf l f);have MN:=HAV.out.keep (yg.of_ext EN.out.lt x2) fE;have hrx:wa0 T R V2 (.slice E0 rl.length ec) rl:=by
     rw [vJ] at LD nI;rw [<- vJ];exact ⟨E0,ec,rfl,by rw [vJ]; exact LD,abL,by rw [vJ]; exact nI.mono fun b hb hq=>⟨jay EN.out.lt EN.out.fresh x2 hq hb,by have:=HAV.out.safe.1; omega⟩⟩
    have aU:=MN.set (L:=rl) (by rw [fV.out]; exact af) hrx;rw [fV.out,<- vJ,oz.out] at aU;obtain ⟨u,hu⟩:=MN.some_ i af;have huf:=MN.fr i af;have cv2:=(x2.cell (p:=⟨BV,0,none⟩) (Nj.out.keep D8.out).1.1).trans cv;have Ia:zaq T lo V2 (V2.setCell ⟨R,i,none⟩ (.slice E0 (yf l f).length ec)):=⟨R,i,u,E0,_,ec,abk,MN.safe.2.1,MN.safe.2.2,MN.sl,hu,rfl⟩;have hj3:=HE.out.rel _ _ _ (HE.out.ext _ _ _ NS.out x2) Ia;obtain ⟨V3,Me⟩:=n_m (V2.setCell ⟨R,i,none⟩ (.slice E0 (yf l f).length ec));rw [Me] at aU hj3;obtain ⟨hA3,Pq⟩:=aU;have zC:xac T R W1 V3:=(D8.out.trans ((yg.of_ext EN.out.lt x2).x R)).trans Pq;have tq:Fw T V3:=⟨Nat.lt_of_lt_of_le NV.out.lt zC.size,zC.fresh NV.out.fresh⟩;have cv3:V3.cell? ⟨BV,0,none⟩=some (.int .i64 l):=zC.cellA Nj.out HCV.out;have I7:Ext V3 V3.drew:=(Ext.refl V3).drew;have ck3:V3.cell? ⟨R,i,none⟩=some (.slice E0 (yf l f).length ec):=by rw [<- Me]; exact World.cell?_setCell_same _ _ _ hu
    have cv4:=(I7.cell (p:=⟨BV,0,none⟩) (Nj.out.keep zC).1.1).trans cv3;have ck4:=(I7.cell (p:=⟨R,i,none⟩) hA3.safe.1).trans ck3;have Rf:uam T V3.drew (.slice E0 (yf l f).length ec) (yf l f):=by
     rw [vJ]; exact ((hrx.keep Pq).rowS).keep (yg.of_ext tq.lt I7)
    have acE:(mdg l f).toNat<=62:=by have:=HPD.out f wP.out; omega
    have H9:∀ r ∈ yf l f,Fit r E (D+62):=fun r hr=>(jbc jP.out (by have:B32=4294967296:=rfl; omega) r hr).1.mono (Nat.le_refl _) (by omega)
    have Rj:(yf l f).length<=1000000:=by have:=wai (l:=l) (mdg l f).toNat f; unfold yf; omega
    have rM:=hid (jb2 (k:=0+((fs.take i).flatMap (zab l)).length) (M:=M) (c:=gac l f) _ hl ag Rf HE.out.toEnv (tq.ext I7) (by rw [Nat.zero_add]; exact HE.out.ext _ _ _ hj3 I7) iE.out Rj H9 (by omega) (by omega) (hid fun r hr=>HP.out r (qw l r) (Or.inl ⟨f,wP.out,hr,rfl⟩)));have HA4:=hid (hA3.keep (yg.of_ext tq.lt I7) fE);have HK4:=hid (zC.trans ((yg.of_ext tq.lt I7).x R));clear MN hrx x2 nI Ia hj3 hA3 Pq zC tq I7 Rf H9 Rj HRE vJ acE;rw [Nat.zero_add] at rM;obtain ⟨n0,SE⟩:=n_m (((fs.take i).flatMap (zab l)).length);rw [SE] at rM oH;obtain ⟨rc,Eo⟩:=n_m (gac l f);have Gy:Hid ((zab l f).length=((yf l f).flatMap (xw l) ++ tailE l (yf l f) (gac l f)).length):=hid rfl;rw [<- Gy.out] at rM;rw [Eo] at rM ⊢;obtain ⟨rn,Rj⟩:=n_m ((yf l f).length);rw [Rj] at rM ck3 ck4 LD Me ⊢;clear SE Eo Rj Gy
    gi_wp2_with fail
    clear hu huf cv cv2 Me
    gi_region_with_o (first
     | (go_simp
        (try refine ⟨trivial,?_⟩)
        (try refine ⟨og _,?_⟩)
        refine (callsIn_wide.2 rM.out).mono ?_;rintro e W4 ⟨rfl,rF,Et⟩;have HN:Hid (J ((fs.take (i+1)).flatMap (zab l)).length W4/\xac T R W1 W4/\za1 T R fs.length W4 ((fs.take (i+1)).map (yf l))):=hid ⟨by rw [oH.out]; exact rF,HK4.out.trans (Et.x R),HA4.out.keep Et fE⟩
        clear rF Et))
    all_goals
     clear cv3 cv4 ck3 ck4 rM
     gi_wp2_with fail
     go_roundw
     case rel=>exact ⟨i+1,by omega,by go_num,HN.out⟩
     case measure=>simp [intOf]; omega
  · obtain rfl:i=fs.length:=by omega
    have hf:=HI.out;rw [List.take_length] at hf;clear HI;obtain ⟨WA,rfl⟩:∃ x,x=wr:=⟨_,rfl⟩;obtain ⟨hJ,hK,hA⟩:=hf;obtain ⟨Ls,EG⟩:=n_m (fs.map (yf l));have Vg:Ls.length=fs.length:=by rw [<- EG,List.length_map]
    have Iu:∀ i (h:i < Ls.length),∃ h':i < fs.length,Ls[i]=yf l fs[i]:=fun i h=>by
     have h':i < fs.length:=by rw [<- Vg]; exact h
     subst EG;exact ⟨h',List.getElem_map _⟩
    rw [EG] at hA Zi BI;have jB:Fw T WA:=⟨Nat.lt_of_lt_of_le NV.out.lt hK.size,hK.fresh NV.out.fresh⟩;obtain ⟨n1,sN⟩:=n_m ((fs.flatMap (zab l)).length);rw [sN] at hJ Zi BI;rw [Nat.zero_add] at Zi;have rQ:=hid Vg;have Au:=hid Iu;have o7:=hid jB;have HKR:=hid hK;have HAR:=hid hA;have HJR:=hid hJ;have Ko:=hA.safe.1;clear hJ hK hA EG Vg Iu jB sN
    gi_wp2_with fail
    gi_loopw [43] (fun iv w3=>∃ i:Nat,i<=fs.length/\iv=.int .i64 i/\Hid (J (n1+(((List.range Ls.length).take i).flatMap fun i=>(Ls.drop (i+1)).flatMap (prE l (Ls.getD i []))).length) w3/\yg T WA w3)) (fun iv _=>fs.length - (intOf iv).toNat)
    case atStart=>exact ⟨0,Nat.zero_le _,rfl,hid ⟨by simpa using HJR.out,yg.of_ext o7.out.lt (Ext.refl WA)⟩⟩
    case round =>
     obtain ⟨w3,rfl⟩:∃ x,x=wr:=⟨_,rfl⟩;obtain ⟨i,hi,rfl,HI⟩:=hrel
     by_cases af:i < fs.length
     · obtain ⟨hJ,hK⟩:=HI.out;have fE:0 < fs.length:=by omega
       have FI:i < Ls.length:=by rw [rQ.out]; exact af
       have yZ:i < (List.range Ls.length).length:=by rw [List.length_range]; exact FI
       have hA:=HAR.out.keep hK fE;obtain ⟨vi,hvi,Cj⟩:=hA.row i FI;obtain ⟨Di,ci,rfl,-⟩:=id Cj;have iE:=hid (Zi.out.flat i yZ);have oH:=hid (jl (fun i=>(Ls.drop (i+1)).flatMap (prE l (Ls.getD i []))) (List.range Ls.length) i yZ);rw [List.getElem_range] at iE oH;have jG:Ls.getD i []=Ls[i]:=by rw [List.getD_eq_getElem?_getD,List.getElem?_eq_getElem FI]; rfl
       rw [jG] at iE oH;obtain ⟨IC,Lr⟩:=Au.out i FI;obtain ⟨f,EC⟩:=n_m (fs[i]);have Dl:f ∈ fs:=by rw [<- EC]; exact List.getElem_mem IC
       rw [EC] at Lr;have WU:Hid (f ∈ fs/\Ls[i]=yf l f/\fs[i]=f):=hid ⟨Dl,Lr,EC⟩;obtain ⟨n2,OH⟩:=n_m (n1+(((List.range Ls.length).take i).flatMap fun i=>(Ls.drop (i+1)).flatMap (prE l (Ls.getD i []))).length);have PY:=hid OH;rw [OH] at hJ iE;have BK:=hid hJ;have ZC:=hid hK;have Ec:=hid (o7.out.keep hK);have HRI:=hid Cj.rowS;have HA2:=hid hA;have YM:Ls[i].length<=62:=by
        rw [Lr];have h1:=wai (l:=l) (mdg l f).toNat f;have h2:=HPD.out f Dl;unfold yf; omega
       have HAN:=hid YM;have EO:Hid ((Ls.drop (i+1)).length=fs.length - (i+1)):=hid (by rw [List.length_drop,rQ.out]);have ab2:i+1<=fs.length:=af;clear hJ hK hA Cj jG Dl Lr OH HI YM EC;generalize Ez:Ls[i]=A at *;clear Ez;have oG:Hid (∀ w4,J (n2+((Ls.drop (i+1)).flatMap (prE l A)).length) w4->yg T w3 w4->J (n1+(((List.range Ls.length).take (i+1)).flatMap fun i=>(Ls.drop (i+1)).flatMap (prE l (Ls.getD i []))).length) w4/\yg T WA w4):=hid (fun w4 h1 h2=>⟨by rw [oH.out,<- Nat.add_assoc,PY.out]; exact h1,ZC.out.trans h2⟩)
       by_cases zG:i+1=fs.length
       · have RV:Ls.drop (i+1)=[]:=List.eq_nil_of_length_eq_zero (by rw [EO.out]; omega);have HN:=hid (oG.out w3 (by rw [RV]; simpa using BK.out) (yg.of_ext Ec.out.lt (Ext.refl w3)));have amL:=hid zG;clear RV oG iE oH EO
         gi_wp2_with fail
         clear hvi
         gi_loopw [53] (fun iv w4=>iv=.int .i64 0/\w4=w3) (fun _ _=>0)
         case atStart=>exact ⟨rfl,rfl⟩
         case round =>
          obtain ⟨rfl,rfl⟩:=hrel
          gi_wp2_with fail
          go_roundw
          case rel=>exact ⟨i+1,by omega,by go_num,HN.out⟩
          case measure=>simp [intOf]; omega
       · have lI:i+1 < fs.length:=by omega
         have Sl:¬ fs.length=i+1:=by omega
         clear zG
         gi_wp2_with fail
         clear hvi
         gi_loopw [53] (fun iv w4=>∃ j:Nat,j<=fs.length - (i+1)/\iv=.int .i64 j/\Hid (J (n2+(((Ls.drop (i+1)).take j).flatMap (prE l A)).length) w4/\yg T w3 w4)) (fun iv _=>fs.length - (intOf iv).toNat)
         case atStart=>exact ⟨0,Nat.zero_le _,rfl,hid ⟨by simpa using BK.out,yg.of_ext Ec.out.lt (Ext.refl w3)⟩⟩
         case round =>
          obtain ⟨w4,rfl⟩:∃ x,x=wr:=⟨_,rfl⟩;obtain ⟨j,hj,rfl,rU⟩:=hrel
          by_cases abh:j < fs.length - (i+1)
          · obtain ⟨hJ4,Po⟩:=rU.out;have qU:i+1+j < Ls.length:=by have:=rQ.out; omega
            have OU:j < (Ls.drop (i+1)).length:=by rw [EO.out]; exact abh
            have hA4:=HA2.out.keep Po fE;obtain ⟨vj,hvj,OC⟩:=hA4.row (i+1+j) qU;obtain ⟨Dj,cj,rfl,-⟩:=id OC;have Jr:=hid (iE.out.flat j OU);have JA:=hid (jl (prE l A) (Ls.drop (i+1)) j OU);rw [List.getElem_drop] at Jr JA;obtain ⟨TL,F5⟩:=Au.out (i+1+j) qU;obtain ⟨f2,FW⟩:=n_m (fs[i+1+j]);have Ue:f2 ∈ fs:=by rw [<- FW]; exact List.getElem_mem TL
            rw [FW] at F5;have hBn:Ls[i+1+j].length<=62:=by
             rw [F5];have h1:=wai (l:=l) (mdg l f2).toNat f2;have h2:=HPD.out f2 Ue;unfold yf; omega
            have Ik:=jcl (k:=n2+(((Ls.drop (i+1)).take j).flatMap (prE l A)).length) (M:=M) _ _ (HRI.out.keep Po) OC.rowS HE.out.toEnv (Ec.out.keep Po) hJ4 Jr.out (by have:=HAN.out; omega) (by omega) (hid fun r hr s hs=>HP.out r s (Or.inr ⟨i,i+1+j,af,TL,by omega,by rw [WU.out.2.2,<- WU.out.2.1]; exact hr,by rw [FW,<- F5]; exact hs⟩));have rP:=hid Ik;have cv:=((HKR.out.trans (ZC.out.x R)).trans (Po.x R)).cellA Nj.out HCV.out;have HK4:=hid Po;have uX:((i:Int)+1+(j:Int))<=2000:=by omega
            clear hJ4 Po hA4 OC Ue F5 hBn Ik rU FW;generalize hgB:Ls[i+1+j]=B at *;clear hgB
            gi_wp2_with fail
            clear hvj cv;refine ⟨trivial,og _,?_⟩;refine (callsIn_wide.2 rP.out).mono ?_;rintro e w5 ⟨rfl,hj5,hk5⟩;have HN:Hid (J (n2+(((Ls.drop (i+1)).take (j+1)).flatMap (prE l A)).length) w5/\yg T w3 w5):=hid ⟨by rw [JA.out,<- Nat.add_assoc]; exact hj5,HK4.out.trans hk5⟩;clear hj5 hk5 rP
            gi_wp2_with fail
            go_roundw
            case rel=>exact ⟨j+1,by omega,by go_num,HN.out⟩
            case measure=>simp [intOf]; omega
          · obtain rfl:j=fs.length - (i+1):=by omega
            have hf:=rU.out;rw [<- EO.out,List.take_length] at hf;have HN:=hid (oG.out w4 hf.1 hf.2);clear rU hf
            gi_wp2_with fail
            go_roundw
            case rel=>exact ⟨i+1,by omega,by go_num,HN.out⟩
            case measure=>simp [intOf]; omega
     · obtain rfl:i=fs.length:=by omega
       have hf:=HI.out;rw [<- rQ.out] at hf;have e1:(List.range Ls.length).take Ls.length=List.range Ls.length:=by
        have h9:=List.take_length (l:=List.range Ls.length)
        rwa [List.length_range] at h9
       rw [e1] at hf;have HJF:Hid (J M.length w3):=hid (by rw [<- BI.out]; exact hf.1);clear HI hf e1
       gi_wp2_with fail
       go_end0
       exact ⟨⟨_,rfl⟩,HJF.out⟩
end Go.Proofs.YtklnlgnnlmdibaaGreat
