/- A range over a function whose elements are made anew, as RangeOk, for iterators that hand the loop's body on to other functions. -/
import Derived.Test.YtcepajijiabkmaaGreatMo33
import Derived.Test.YtcepajijiabkmaaGreatMo34
set_option linter.all false
namespace Go.Proofs.YtcepajijiabkmaaGreat
open Lib (hid)
open Go.RowKit
def yc9 {α:Type} (n:Nat) (P:Program) (g:Nat) (lb:Array Value) (enc:α->Array Value) (Ok:Nat->α->World->Prop) (Kp Rel:World->World->Prop) (N:Nat) (w:World):Prop:=
 ∀ (l:Nat) (J:Nat->World->Prop) (W:World),Below w.heap.size w W->AbidesFrom W.heap.size J->(∀ k A B,J k A->Rel A B->J k B) ->
   (∀ k x W1,k < N->J k W1->Ok k x W1->∀ m,YieldAt Fence.wide m P l (enc x) W1 fun e W'=>e=.returned (.bool true)/\J (k+1) W'/\Kp W1 W') ->
   J 0 W->CallsIn Fence.wide n P g (#[.func (.yield l) #[] #[]] ++ lb) W fun e W'=>(∃ v,e=.returned v)/\J N W'
theorem wc0 {α : Type} {n : Nat} {P : Program} {w : World} {g : Operand} {ps : Array Tmp} {assign body : Code} {Q : Exit -> Act -> World -> Prop} {a : Act}
 (h1:1<=n) {gf:Nat} {lb:Array Value} (hg:a.eval g=.func (.func gf) #[] lb) (eg:∀ args w,(callFunc gf args).run P w=.ok (.enter gf args) w)
 {enc:α->Array Value} {Ok:Nat->α->World->Prop} {Kp Rel:World->World->Prop} {N:Nat} {w0:World} (yI:yc9 (n - 1) P gf lb enc Ok Kp Rel N w0) (hRo:∀ A B,Rel A B->∀ (i:Nat) (o:Obj),A.heap[i]?=some o->o.isCells=false->B.heap[i]?=some o)
 (Me:∀ {A B C:World},Kp A B->Kp B C->Kp A C) (MB:∀ (W:World) (l:Nat) (o o':Obj),w.heap.size<=l->W.heap[l]?=some o->o.isCells=false->o.isWalk=false->Kp W (W.putObj l o')) (aX:Below w0.heap.size w0 w) (wO:∀ x,(enc x).size=ps.size)
 (I:Nat->World->Prop) (hI:OwnFrom w.heap.size I) (hRI:∀ k A B,I k A->Rel A B->I k B) (h0:I 0 w) (Ax:Nat->α->Act->World->Prop) (UV:∀ k x a',OwnFrom w.heap.size (fun (_:Unit) W=>Ax k x a' W))
 (kW:∀ (m l k:Nat) (x:α) (W:World) (K:Act->World->Prop),k < N->I k W->Ok k x W->(∀ a' W',KeepsFrom w.heap.size W W'->Kp W W'->Ax k x a' W'->K a' W') ->
   assign.wpIn (Fence.wide.inRound l) m P (Exit.then K (fun _ _ _=>False)) { tmps:=(ps.zip (enc x)).foldl (fun t (p,v)=>t.setIfInBounds p v) a.tmps,defers:=[] } W)
 (sZ:∀ (m l k:Nat) (x:α) (a':Act) (W:World),k < N->Ax k x a' W->body.wpIn (Fence.wide.inRound l) m P (ga8 w.heap.size Kp (I (k+1)) W) a' W)
 (iM:∀ (D:Nat) (W:World),w.heap.size<=D->I N W->W.heap[D]?=some (.deferred (some []))->Q .normal { a with defers:={ target:=.collected D,args:=#[] } :: a.defers } W) :
 (Code.rangeFunc g ps assign body).wpIn Fence.wide n P Q a w:=by
 refine wpIn_rangeFunc fun fn yR=>?_
 obtain ⟨B,hB⟩:=n_m (w.heap.size)
 let rc:LoopState->Option Code->Loop:=fun st pe=>{ state:=st,pending:=pe,fn,tmps:=a.tmps,params:=ps,assign,body,defers:=B }
 obtain ⟨V,hV⟩:=n_m ((w.alloc (.deferred (some []))).alloc (.loop (rc .ready none)));have vL:V.heap[B+1]?=some (.loop (rc .ready none)):=by
  rw [<- hV,<- hB];have:=World.alloc_heap_new (w.alloc (.deferred (some []))) (.loop (rc .ready none))
  rwa [tP] at this
 have vD:V.heap[B]?=some (.deferred (some [])):=by
  rw [<- hV,<- hB]; exact (Below.heap_alloc _ _ _ (by simp)).trans (World.alloc_heap_new w _)
 have vI:I 0 V:=by rw [<- hV]; exact hI.alloc _ (hI.alloc _ h0)
 have vB:Below w0.heap.size w0 V:=by
  rw [<- hV]; exact aX.trans ((((Below.refl _ w).alloc (pj _) _).alloc (by simp) _).mono aX.size)
 have vS:V.heap.size=B+2:=by rw [<- hV,<- hB]; simp
 rw [hB] at MB hI UV kW sZ iM
 have walk:∀ {A A':World} {row:Option Nat} {k:Nat} {o:Obj},A.grownBy A' row->(∀ r,row=some r->V.heap.size<=r/\∃ o:Obj,A.heap[r]?=some o/\o.isWalk=true)->A.heap[k]?=some o->o.isWalk=false->A'.heap[k]?=some o:=
  fun jP hr hk ho=>(grownBy_keeps jP (fun r e=>(hr r e).2) hk ho).trans hk
 refine ⟨B+1,[{ target:=.collected B,args:=#[] }],V,{ target:=.fn (.func gf) lb,args:=#[.func (.yield (B+1)) #[] #[]] },V,gf,#[.func (.yield (B+1)) #[] #[]] ++ lb,V,?_,?_,?_,?_,fun _=>h1,?_⟩
 · subst hB; rw [<- hV]; exact run_enterLoop_outer _ _ _ _ _
 · simp only [resolve,hg]; simp [go_sem]
 · intro f' hf'; simp [Target.leads] at hf'; subst hf'; trivial
 · simp [invoke,go_sem,eg]
 · refine (yI (B+1) (fun k W=>I k W/\W.heap[B+1]?=some (.loop (rc .ready none))/\W.heap[B]?=some (.deferred (some []))) V vB (fun k A A' row hs jP hr=>⟨hI k A A' row hs.1 jP (fun r e=>?_),walk jP hr hs.2.1 rfl,walk jP hr hs.2.2 rfl⟩) (fun k A B hs hr=>⟨hRI k A B hs.1 hr,hRo A B hr _ _ hs.2.1 rfl,hRo A B hr _ _ hs.2.2 rfl⟩) ?_ ⟨vI,vL,vD⟩).mono ?_
   · obtain ⟨h2,o,ho,hw⟩:=hr r e;exact ⟨by omega,o,ho,Obj.not_cells_of_walk hw⟩
   · -- a round
     rintro k x W hk ⟨hi,hl,hd⟩ lV m;refine ⟨fn,_,assign,body,run_yield (P:=P) (args:=enc x) hl (wO x),roundIn_of_wpIn yR (kW m _ k x W _ hk hi lV fun a' Wa SL pz vN=>?_)⟩;have al:=SL.same _ _ (se _) hl rfl;have ad:=SL.same _ _ (pj _) hd rfl;have asz:=(rB.1 al).1;refine ⟨_,run_beginRound al rfl,wpIn_mono (sZ m _ k x a' _ hk ((UV k x a').putObj (s:=()) _ vN (se _) al rfl)) ?_⟩;have bl:(Wa.putObj (B+1) (.loop (rc .busy none))).heap[B+1]?=some (.loop (rc .busy none)):=World.putObj_heap_same asz;have bd:(Wa.putObj (B+1) (.loop (rc .busy none))).heap[B]?=some (.deferred (some [])):=(World.putObj_heap_other (by omega)).trans ad;have bp:Kp Wa (Wa.putObj (B+1) (.loop (rc .busy none))):=MB _ _ _ _ (se _) al rfl rfl;rintro e a3 W3 hp;cases e with
     | normal =>
       obtain ⟨SQ,QW,SY⟩:=hp;have cl:=SQ.same _ _ (se _) bl rfl;have cd:=SQ.same _ _ (pj _) bd rfl;have cs:=(rB.1 cl).1;exact ⟨_,_,run_endRound (P:=P) none cl,rfl,⟨hI.putObj _ SY (se _) cl rfl,World.putObj_heap_same cs,(World.putObj_heap_other (by omega)).trans cd⟩,Me pz (Me (Me bp QW) (MB _ _ _ _ (se _) cl rfl rfl))⟩
     | ret=>exact hp.elim
     | exit id=>exact hp.elim
     | goto t=>exact hp.elim
     | panic ch=>exact hp.elim
     | outgrown=>exact hp.elim
   · -- behind the iterator
     rintro e W2 ⟨⟨v,rfl⟩,hi,hl,hd⟩;exact ⟨none,_,run_endLoop (P:=P) hl (by simp [rc]),iM B _ (pj _) (hI.putObj _ hi (se _) hl rfl) ((World.putObj_heap_other (by omega)).trans hd)⟩
def vae (T:Nat) (W:World) (b:Nat):Prop:=∃ v,W.cell? ⟨T,0,none⟩=some v/\v.ownBlock=some b
structure yg (T : Nat) (A B : World) : Prop where
 size:A.heap.size<=B.heap.size
 obj:∀ (i:Nat) (o:Obj),i ≠ T->¬ vae T A i->A.heap[i]?=some o->o.isCells=true->B.heap[i]?=some o
 own:∀ i,i < A.heap.size->vae T B i->vae T A i
 fresh:(∀ b,vae T A b->b < A.heap.size)->∀ b,vae T B b->b < B.heap.size
 nat:∀ v ds,jc A v ds->jc B v ds
section
variable {T:Nat} {A B C:World}
theorem lt_of_some {W:World} {i:Nat} {o:Obj} (h:W.heap[i]?=some o):i < W.heap.size:=(rB.1 h).1
theorem yg.trans (h:yg T A B) (k:yg T B C):yg T A C:=
 ⟨py h.size k.size,fun i o hT hn hi ho=>k.obj i o hT (fun e=>hn (h.own i (lt_of_some hi) e)) (h.obj i o hT hn hi ho) ho,fun i hi e=>h.own i hi (k.own i (px hi h.size) e),fun hf=>k.fresh (h.fresh hf),fun v ds hv=>k.nat v ds (h.nat v ds hv)⟩
theorem yg.xi (hT:T < A.heap.size) (h:Ext A B):yg T A B:=by
 have hc:B.cell? ⟨T,0,none⟩=A.cell? ⟨T,0,none⟩:=h.cell (p:=⟨T,0,none⟩) hT;exact ⟨h.size,fun i o _ _ hi _=>(h.below.block i (lt_of_some hi)).trans hi,fun i _ ⟨v,hv,e⟩=>⟨v,hc.symm.trans hv,e⟩,fun hf b ⟨v,hv,e⟩=>px (hf b ⟨v,hc.symm.trans hv,e⟩) h.size,fun v ds hv=>hv.ext h⟩
theorem yg.putObj (T:Nat) (W:World) (l:Nat) (o o':Obj) (hT:T ≠ l) (h:W.heap[l]?=some o) (ho:o.isCells=false):yg T W (W.putObj l o'):=by
 obtain ⟨h1,h2,h3⟩:=jr.putObj T W l o o' h ho;have hc:(W.putObj l o').cell? ⟨T,0,none⟩=W.cell? ⟨T,0,none⟩:=pB (a:=⟨T,0,none⟩) (World.putObj_heap_other hT);exact ⟨h1,fun i x hi _ hx hc=>h2 i x hi hx hc,fun i _ ⟨v,hv,e⟩=>⟨v,hc.symm.trans hv,e⟩,fun hf b ⟨v,hv,e⟩=>px (hf b ⟨v,hc.symm.trans hv,e⟩) h1,h3⟩
def Safe (T:Nat) (W:World) (b:Nat):Prop:=b < W.heap.size/\b ≠ T/\¬ vae T W b
theorem Safe.keep {b:Nat} (h:Safe T A b) (k:yg T A B):Safe T B b:=⟨px h.1 k.size,h.2.1,fun e=>h.2.2 (k.own b h.1 e)⟩
theorem yg.block {b:Nat} (k:yg T A B) (h:Safe T A b) {i:Nat} {v:Value} (hv:A.cell? ⟨b,i,none⟩=some v):B.heap[b]?=A.heap[b]?:=by
 obtain ⟨o,ho,hc⟩:=cells_of_cell hv;exact (k.obj b o h.2.1 h.2.2 ho hc).trans ho.symm
theorem yg.cell {b i:Nat} {v:Value} (k:yg T A B) (h:Safe T A b) (hv:A.cell? ⟨b,i,none⟩=some v):B.cell? ⟨b,i,none⟩=some v:=(pB (a:=⟨b,i,none⟩) (k.block h hv)).trans hv
theorem yg.vh {a:Addr} {v:Value} (k:yg T A B) (h:Safe T A a.block) (hv:A.cell? a=some v):B.cell? a=some v:=by
 obtain ⟨o,ho,hc⟩:=cells_of_cell hv;exact (pB ((k.obj _ o h.2.1 h.2.2 ho hc).trans ho.symm)).trans hv
end
section
variable {w w':World} {p q:Nat->Prop}
mutual
theorem PlV.ju (hs : w.heap.size <= w'.heap.size) (hn : ∀ v ds, jc w v ds -> jc w' v ds) (hc : ∀ (a : Addr) (v : Value), p a.block -> w.cell? a = some v -> q a.block /\ w'.cell? a = some v) : ∀ (t : Pl) (v : Value), PlV w p t v -> PlV w' q t v
 | .mk l n d cs,v,h=>by
   unfold PlV at h ⊢;obtain ⟨s,A,c,e,h1,h2,h3,h4⟩:=h;exact ⟨s,A,c,e,hn _ _ h1,h2,h3,jd.ju hs hn hc cs A 0 h4⟩
theorem jd.ju (hs : w.heap.size <= w'.heap.size) (hn : ∀ v ds, jc w v ds -> jc w' v ds) (hc : ∀ (a : Addr) (v : Value), p a.block -> w.cell? a = some v -> q a.block /\ w'.cell? a = some v) : ∀ (l : List Pl) (A : Option Addr) (j : Nat), jd w p l A j -> jd w' q l A j
 | [],A,j,h=>by unfold jd; trivial
 | t :: r,A,j,h=>by
   unfold jd at h ⊢;obtain ⟨⟨ad,s,K,e,hb,uY,⟨k0,k1,k2,k3⟩,h2⟩,h3⟩:=h;have hp:p (ad.add (j * 4)).block:=by rw [ja]; exact uY
   have c0:=hc _ _ hp k0;have hq:q ad.block:=by have:=c0.1; rwa [ja] at this
   exact ⟨⟨ad,s,K,e,px hb hs,hq,⟨c0.2,(hc ⟨(ad.add (j * 4)).block,_,none⟩ _ hp k1).2,(hc ⟨(ad.add (j * 4)).block,_,none⟩ _ hp k2).2,(hc ⟨(ad.add (j * 4)).block,_,none⟩ _ hp k3).2⟩,PlV.ju hs hn hc t _ h2⟩,jd.ju hs hn hc r A (j+1) h3⟩
end
end
section
variable {T:Nat} {A B:World}
theorem yg.pl {t:Pl} {v:Value} (k:yg T A B) (h:PlV A (Safe T A) t v):PlV B (Safe T B) t v:=PlV.ju k.size k.nat (fun a v hp hv=>⟨hp.keep k,k.vh hp hv⟩) t v h
theorem yg.qbJ {l:List Pl} {D:Option Addr} {j:Nat} (k:yg T A B) (h:jd A (Safe T A) l D j):jd B (Safe T B) l D j:=jd.ju k.size k.nat (fun a v hp hv=>⟨hp.keep k,k.vh hp hv⟩) l D j h
theorem ga3 {b:Nat} (hT:T < A.heap.size) (hf:∀ b,vae T A b->b < A.heap.size) (hx:Ext A B) (hb:A.heap.size<=b) (hB:b < B.heap.size):Safe T B b:=
 ⟨hB,by omega,fun ⟨v,hv,e⟩=>by
   have:=hf b ⟨v,(hx.cell (p:=⟨T,0,none⟩) hT).symm.trans hv,e⟩
   omega⟩
theorem jd.xo {W:World} {q:Nat->Prop} {l:List Pl} {D:Option Addr} {j:Nat} (h:jd W q l D j):jd W (fun b=>q b/\b < W.heap.size) l D j:=jd.xl (pj _) (fun _ _ h=>h) (fun b hb hq=>⟨⟨hq,hb⟩,rfl⟩) l D j h
theorem jd.mono {W:World} {q q':Nat->Prop} {l:List Pl} {D:Option Addr} {j:Nat} (h:jd W q l D j) (hq:∀ b,b < W.heap.size->q b->q' b):jd W q' l D j:=jd.xl (pj _) (fun _ _ h=>h) (fun b hb hp=>⟨hq b hb hp,rfl⟩) l D j h
def uap (T:Nat) (W:World) (v:Value) (L:List Pl):Prop:=∃ D c,v=.slice D L.length c/\L.length<=c/\c<=9223372036854775807/\jd W (Safe T W) L D 0
theorem uap.keep {v:Value} {L:List Pl} (h:uap T A v L) (k:yg T A B):uap T B v L:=by
 obtain ⟨D,c,e,h1,h2,h3⟩:=h;exact ⟨D,c,e,h1,h2,k.qbJ h3⟩
theorem uap.new {v:Value} {L:List Pl} (hT:T < A.heap.size) (hf:∀ b,vae T A b->b < A.heap.size) (hx:Ext A B) (h:∃ D c,v=.slice D L.length c/\L.length<=c/\c<=9223372036854775807/\jd B (fun b=>A.heap.size<=b) L D 0):uap T B v L:=by
 obtain ⟨D,c,e,h1,h2,h3⟩:=h;exact ⟨D,c,e,h1,h2,h3.mono fun b hb hq=>ga3 hT hf hx hq hb⟩
end
def FS (T base:Nat) (W:World) (acc:List Pl):Prop:=T < base/\base<=W.heap.size/\∃ v,W.heap[T]?=some (.cells #[v] 31 (0,0))/\xg base (fun b=>base<=b) W v acc
section
variable {T base:Nat} {W W':World} {acc:List Pl}
theorem FS.fresh (h:FS T base W acc):∀ b,vae T W b->b < W.heap.size:=fun b ⟨v,hv,e⟩=>by
 obtain ⟨h1,h2,u,hu,hq⟩:=h;rw [box1 hu] at hv;injection hv with hv
 subst hv;exact (hq.own e).2
theorem FS.lt (h:FS T base W acc):T < W.heap.size:=px h.1 h.2.1
theorem FS.ext (h:FS T base W acc) (hx:Ext W W'):FS T base W' acc:=by
 obtain ⟨h1,h2,u,hu,hq⟩:=h;exact ⟨h1,py h2 hx.size,u,(hx.below.block T (by omega)).trans hu,hq.ext hx⟩
theorem xg.ju {q:Nat->Prop} {v:Value} {l:List Pl} (h:xg base q W v l) (hs:W.heap.size<=W'.heap.size) (hn:∀ v ds,jc W v ds->jc W' v ds) (ho:∀ (i:Nat) (o:Obj),W.heap[i]?=some o->o.isCells=true->W'.heap[i]?=some o):xg base q W' v l:=by
 obtain ⟨rs,e,h2,h3⟩:=h;refine ⟨rs,e,h2.xl fun R hR=>?_,fun r hr=>⟨(h3 r hr).1,PlV.ju hs hn (fun a v hp hv=>⟨hp,?_⟩) _ _ (h3 r hr).2⟩⟩
 · obtain ⟨cur,t,fr,hc⟩:=yag h2.1 R hR;rw [hc]; exact ho R _ hc rfl
 · obtain ⟨o,hob,Hr⟩:=cells_of_cell hv;exact (pB ((ho _ o hob Hr).trans hob.symm)).trans hv
theorem FS.kept {row:Option Nat} (h:FS T base W acc) (hg:W.grownBy W' row) (hr:∀ r,row=some r->∃ o:Obj,W.heap[r]?=some o/\o.isCells=false):FS T base W' acc:=by
 obtain ⟨h1,h2,u,hu,hq⟩:=h;refine ⟨h1,py h2 hg.size,u,cells_kept hg hr hu,hq.ju hg.size (fun v ds hv=>vau hg hr hv) fun i o hi hc=>?_⟩;obtain ⟨c,t,f,rfl⟩:∃ c t f,o=.cells c t f:=by cases o <;> simp_all [Obj.isCells]
 exact cells_kept hg hr hi
end
section
variable {W:World} {q:Nat->Prop} {R:Nat}
mutual
theorem PlV.apart (hR : ∀ j x, W.cell? ⟨R, j, none⟩ = some x -> ∃ D n c, x = .slice D n c) : ∀ (t : Pl) (v : Value), PlV W q t v -> PlV W (fun b => q b /\ b ≠ R) t v
 | .mk l n d cs,v,h=>by
   unfold PlV at h ⊢;obtain ⟨s,A,c,e,h1,h2,h3,h4⟩:=h;exact ⟨s,A,c,e,h1,h2,h3,jd.apart hR cs A 0 h4⟩
theorem jd.apart (hR : ∀ j x, W.cell? ⟨R, j, none⟩ = some x -> ∃ D n c, x = .slice D n c) : ∀ (l : List Pl) (A : Option Addr) (j : Nat), jd W q l A j -> jd W (fun b => q b /\ b ≠ R) l A j
 | [],A,j,h=>by unfold jd; trivial
 | t :: r,A,j,h=>by
   unfold jd at h ⊢;obtain ⟨⟨ad,s,K,e,hb,uY,⟨k0,k1,k2,k3⟩,h2⟩,h3⟩:=h;refine ⟨⟨ad,s,K,e,hb,⟨uY,fun e=>?_⟩,⟨k0,k1,k2,k3⟩,PlV.apart hR t _ h2⟩,jd.apart hR r A (j+1) h3⟩;obtain ⟨D,n,c,hx⟩:=hR ((ad.add (j * 4)).off+1) _ (by rw [ja,e] at k1; exact k1);cases hx
end
end
def wat (T lo:Nat) (A B:World):Prop:=∃ R i u D n c,lo<=R/\R ≠ T/\¬ vae T A R/\(∀ j x,A.cell? ⟨R,j,none⟩=some x->∃ D n c,x=.slice D n c)/\A.cell? ⟨R,i,none⟩=some u/\B=A.setCell ⟨R,i,none⟩ (.slice D n c)
theorem wat.nat {T lo:Nat} {A B:World} (h:wat T lo A B):∀ v ds,jc A v ds->jc B v ds:=by
 obtain ⟨R,i,u,D,n,c,-,-,-,h4,h5,rfl⟩:=h;obtain ⟨_,_,_,rfl⟩:=h4 i u h5;exact fun v ds hv=>hv.box h5 rfl _
theorem wat.other {T lo:Nat} {A B:World} (h:wat T lo A B):∀ (i:Nat) (o:Obj),A.heap[i]?=some o->o.isCells=false->B.heap[i]?=some o:=by
 obtain ⟨R,i,u,D,n,c,-,-,-,h4,h5,rfl⟩:=h;intro k o hk ho;rw [Below.heap_setCell _ _ _ k (fun e=>?_)]; exact hk;obtain ⟨o',Ot,lD⟩:=cells_of_cell h5;have e':k=R:=e;rw [e',Ot] at hk;injection hk with hk
 rw [hk,ho] at lD;cases lD
theorem wat.ext {T lo:Nat} {w A B:World} (h:wat T lo A B) (hx:Ext w A) (hlo:w.heap.size<=lo):Ext w B:=by
 obtain ⟨R,i,u,D,n,c,h1,-,-,h4,h5,rfl⟩:=h;exact hx.setCell (py hlo h1) _
theorem wat.keep {T lo:Nat} {A B:World} (h:wat T lo A B):(∀ b,vae T B b ↔ vae T A b)/\A.heap.size=B.heap.size:=by
 obtain ⟨R,i,u,D,n,c,-,h2,-,h4,h5,rfl⟩:=h;have hc:(A.setCell ⟨R,i,none⟩ (.slice D n c)).cell? ⟨T,0,none⟩=A.cell? ⟨T,0,none⟩:=by rw [ph _ _ _ _ (by intro e; injection e with e; exact h2 e)]
 exact ⟨fun b=>by unfold vae; rw [hc],by simp [World.setCell]⟩
theorem FS.rel {T base lo:Nat} {W W':World} {acc:List Pl} (h:FS T base W acc) (hr:wat T lo W W'):FS T base W' acc:=by
 have hn:=hr.nat;have hk:=hr.keep.2;obtain ⟨R,i,u,D,n,c,h1,h2,h3,h4,h5,rfl⟩:=hr;obtain ⟨g1,g2,v,hv,hq⟩:=h;have hb:∀ k,k ≠ R->(W.setCell ⟨R,i,none⟩ (.slice D n c)).heap[k]?=W.heap[k]?:=fun k hk=>Below.heap_setCell _ _ _ k hk
 refine ⟨g1,by omega,v,(hb T (fun e=>h2 e.symm)).trans hv,?_⟩;obtain ⟨rs,e,q2,q3⟩:=hq;refine ⟨rs,e,q2.xl fun S hS=>hb S (fun e=>h3 ⟨v,box1 hv,by rw [<- e]; exact hS⟩),fun r hr=>⟨(q3 r hr).1,?_⟩⟩;exact PlV.zd (by omega) hn (fun b _ hq=>⟨hq.1,hb b hq.2⟩) (PlV.apart h4 _ _ (q3 r hr).2)
structure yad (T R : Nat) (A B : World) : Prop where
 size:A.heap.size<=B.heap.size
 obj:∀ (i:Nat) (o:Obj),i ≠ T->i ≠ R->¬ vae T A i->A.heap[i]?=some o->o.isCells=true->B.heap[i]?=some o
 own:∀ i,i < A.heap.size->vae T B i->vae T A i
 fresh:(∀ b,vae T A b->b < A.heap.size)->∀ b,vae T B b->b < B.heap.size
 nat:∀ v ds,jc A v ds->jc B v ds
section
variable {T R:Nat} {A B C:World}
theorem yad.trans (h:yad T R A B) (k:yad T R B C):yad T R A C:=
 ⟨py h.size k.size,fun i o hT hR hn hi ho=>k.obj i o hT hR (fun e=>hn (h.own i (lt_of_some hi) e)) (h.obj i o hT hR hn hi ho) ho,fun i hi e=>h.own i hi (k.own i (px hi h.size) e),fun hf=>k.fresh (h.fresh hf),fun v ds hv=>k.nat v ds (h.nat v ds hv)⟩
theorem yg.x (h:yg T A B) (R:Nat):yad T R A B:=⟨h.size,fun i o hT _ hn hi ho=>h.obj i o hT hn hi ho,h.own,h.fresh,h.nat⟩
theorem yad.set {i:Nat} {u:Value} {D:Option Addr} {n c:Nat} (hT:R ≠ T) (hu:A.cell? ⟨R,i,none⟩=some u) (hd:uo u=false):yad T R A (A.setCell ⟨R,i,none⟩ (.slice D n c)):=by
 have hc:(A.setCell ⟨R,i,none⟩ (.slice D n c)).cell? ⟨T,0,none⟩=A.cell? ⟨T,0,none⟩:=by rw [ph _ _ _ _ (by intro e; injection e with e; exact hT e)]
 have hs:(A.setCell ⟨R,i,none⟩ (.slice D n c)).heap.size=A.heap.size:=by simp [World.setCell]
 exact ⟨by omega,fun k o _ hR _ hk _=>by rw [Below.heap_setCell _ _ _ k hR]; exact hk,fun k _ ⟨v,hv,e⟩=>⟨v,hc ▸ hv,e⟩,fun hf b ⟨v,hv,e⟩=>by rw [hs]; exact hf b ⟨v,hc ▸ hv,e⟩,fun v ds hv=>hv.box hu hd _⟩
def yav (T R:Nat) (W:World) (b:Nat):Prop:=Safe T W b/\b ≠ R
theorem yav.keep {b:Nat} (h:yav T R A b) (k:yad T R A B):yav T R B b:=⟨⟨px h.1.1 k.size,h.1.2.1,fun e=>h.1.2.2 (k.own b h.1.1 e)⟩,h.2⟩
theorem yad.vh {a:Addr} {v:Value} (k:yad T R A B) (h:yav T R A a.block) (hv:A.cell? a=some v):B.cell? a=some v:=by
 obtain ⟨o,ho,hc⟩:=cells_of_cell hv;exact (pB ((k.obj _ o h.1.2.1 h.2 h.1.2.2 ho hc).trans ho.symm)).trans hv
theorem yad.qbJ {l:List Pl} {D:Option Addr} {j:Nat} (k:yad T R A B) (h:jd A (yav T R A) l D j):jd B (yav T R B) l D j:=jd.ju k.size k.nat (fun a v hp hv=>⟨hp.keep k,k.vh hp hv⟩) l D j h
end
def ga5 (T R:Nat) (W:World) (v:Value) (L:List Pl):Prop:=∃ D c,v=.slice D L.length c/\L.length<=c/\c<=9223372036854775807/\jd W (yav T R W) L D 0
theorem ga5.keep {T R:Nat} {A B:World} {v:Value} {L:List Pl} (h:ga5 T R A v L) (k:yad T R A B):ga5 T R B v L:=by
 obtain ⟨D,c,e,h1,h2,h3⟩:=h;exact ⟨D,c,e,h1,h2,k.qbJ h3⟩
theorem ga5.qaW {T R:Nat} {A:World} {v:Value} {L:List Pl} (h:ga5 T R A v L):uap T A v L:=by
 obtain ⟨D,c,e,h1,h2,h3⟩:=h;exact ⟨D,c,e,h1,h2,h3.mono fun b _ hb=>hb.1⟩
end Go.Proofs.YtcepajijiabkmaaGreat

namespace Go.Proofs.YtcepajijiabkmaaGreat
open Lib (hid)
def snc (l:Sp):Nat:=l.foldl (fun a x=>Nat.gcd a x.1.natAbs) 0
theorem kcy {l:Sp} {k:Nat} (hk:k < l.length):snc (l.take (k+1))=Nat.gcd (snc (l.take k)) l[k].1.natAbs:=by
 unfold snc;rw [pC hk,T9]; rfl
theorem kbx : ∀ (l : Sp) (a : Nat), l.foldl (fun a x => Nat.gcd a x.1.natAbs) a ∣ a /\ ∀ x ∈ l, l.foldl (fun a x => Nat.gcd a x.1.natAbs) a ∣ x.1.natAbs
 | [],a=>⟨Nat.dvd_refl a,fun x hx=>by cases hx⟩
 | y :: r,a=>by
   obtain ⟨h1,h2⟩:=kbx r (Nat.gcd a y.1.natAbs);rw [Rc];refine ⟨Nat.dvd_trans h1 (Nat.gcd_dvd_left _ _),fun x hx=>?_⟩;rcases pN.1 hx with rfl | hx
   · exact Nat.dvd_trans h1 (Nat.gcd_dvd_right _ _)
   · exact h2 x hx
theorem ybo {l:Sp}:∀ x ∈ l,snc l ∣ x.1.natAbs:=(kbx l 0).2
theorem wda {l:Sp} {x:Int × Mo} (hx:x ∈ l) (h0:x.1 ≠ 0):0 < snc l:=Nat.pos_of_dvd_of_pos (ybo x hx) (by omega)
theorem wco {l:Sp} {x:Int × Mo} (hx:x ∈ l) (h0:x.1 ≠ 0):snc l<=x.1.natAbs:=Nat.le_of_dvd (by omega) (ybo x hx)
theorem qdf : ∀ (l : Sp) (N : Nat), (∀ x ∈ l, x.1.natAbs <= N) -> snc l <= N
 | l,N,h=>by
   by_cases hx:∃ x ∈ l,x.1 ≠ 0
   · obtain ⟨x,hx,h0⟩:=hx;exact py (wco hx h0) (h x hx)
   · have h0:∀ x ∈ l,x.1.natAbs=0:=fun x iY=>by
      have:¬ x.1 ≠ 0:=fun h=>hx ⟨x,iY,h⟩
      omega
     have:∀ (l:Sp),(∀ x ∈ l,x.1.natAbs=0)->l.foldl (fun a x=>Nat.gcd a x.1.natAbs) 0=0:=by
      intro l
      induction l with
      | nil=>intro _; rfl
      | cons y r ih =>
        intro h;rw [Rc,h y rS];exact ih fun x hx=>h x (rr _ hx)
     unfold snc;rw [this l h0]; omega
def sdv : Sp -> Int
 | []=>1
 | x :: r=>if x.1 < 0 then -(snc (x :: r):Int) else (snc (x :: r):Int)
def kz (d:Int) (l:Sp):Sp:=l.map fun x=>(x.1.tdiv d,x.2)
def ssn (l:Sp):Sp:=kz (sdv l) l
theorem xbo {l:Sp} (h:l ≠ []):(sdv l).natAbs=snc l:=by
 cases l with
 | nil=>exact absurd rfl h
 | cons x r =>
   show (if x.1 < 0 then -(snc (x :: r):Int) else (snc (x :: r):Int)).natAbs=snc (x :: r)
   split
   · rw [Int.natAbs_neg,u5]
   · rw [u5]
theorem uba {l:Sp}:∀ x ∈ l,sdv l ∣ x.1:=fun x hx=>by
 rw [<- Int.natAbs_dvd_natAbs,xbo (fun e=>by rw [e] at hx; cases hx)];exact ybo x hx
theorem wbx {l:Sp} (h:∀ x ∈ l,x.1 ≠ 0):sdv l ≠ 0:=by
 cases l with
 | nil=>decide
 | cons x r =>
   have h1:=wda (l:=x :: r) (x:=x) rS (h x rS);have h2:=xbo (l:=x :: r) (by simp);omega
theorem jav : ∀ l : Sp, zq l -> ∀ x ∈ l, x.1 ≠ 0
 | [],_,x,hx=>by cases hx
 | (z,m) :: r,h,x,hx=>by
   unfold zq at h;rcases pN.1 hx with rfl | hx
   · exact h.1
   · exact jav r h.2.2 x hx
theorem gbf {d:Int} {l:Sp} {x:Int × Mo} (h:x ∈ kz d l):∃ y ∈ l,x=(y.1.tdiv d,y.2):=by
 unfold kz at h;obtain ⟨y,hy,e⟩:=pS.1 h;exact ⟨y,hy,e.symm⟩
theorem wc9 {a d:Int} (ha:a ≠ 0) (h:d ∣ a):a.tdiv d ≠ 0:=fun e=>ha (by have:=Int.tdiv_mul_cancel h; rw [e] at this; omega)
theorem yby {d : Int} : ∀ l : Sp, zq l -> (∀ x ∈ l, d ∣ x.1) -> zq (kz d l)
 | [],_,_=>by trivial
 | (z,m) :: r,h,hd=>by
   have h':=h;unfold zq at h';have e:kz d ((z,m) :: r)=(z.tdiv d,m) :: kz d r:=rfl;rw [e];unfold zq;refine ⟨wc9 h'.1 (hd (z,m) rS),fun x hx=>?_,yby r h'.2.2 fun x hx=>hd x (rr _ hx)⟩;obtain ⟨y,hy,rfl⟩:=gbf hx;exact h'.2.1 y hy
theorem zby (ρ : Int -> Rat) {d : Int} : ∀ l : Sp, (∀ x ∈ l, d ∣ x.1) -> ql ρ (kz d l) * (d : Rat) = ql ρ l
 | [],_=>by simp [kz,ql]
 | (z,m) :: r,hd=>by
   have e:kz d ((z,m) :: r)=(z.tdiv d,m) :: kz d r:=rfl;have ih:=zby ρ r fun x hx=>hd x (rr _ hx)
   have h1:(z:Rat)=((z.tdiv d:Int):Rat) * (d:Rat):=by
    have:=Int.tdiv_mul_cancel (hd (z,m) rS);rw [<- Rat.intCast_mul,this]
   rw [e];simp only [ql];rw [<- ih,h1]
   grind
theorem ubq {d : Int} : ∀ l : Sp, zg (kz d l) <= zg l
 | []=>pj _
 | (z,m) :: r=>by
   have e:kz d ((z,m) :: r)=(z.tdiv d,m) :: kz d r:=rfl;rw [e];simp only [zg];have:=ubq (d:=d) r;have:(z.tdiv d).natAbs<=z.natAbs:=by rw [Int.natAbs_tdiv]; exact paT _ _
   omega
theorem jda {l:Sp} (h:zq l):zq (ssn l):=yby l h uba
def snP (p:Pl):Pl:=Pl.j8 (ssn p.sp)
theorem gbw (p:Pl):∀ x ∈ ssn p.sp,x.2.qe:=fun x hx=>by
 obtain ⟨y,hy,rfl⟩:=gbf hx;exact p.km y hy
theorem zcp (p:Pl):(snP p).sp=ssn p.sp:=(Pl.Zs (jda p.js) (gbw p) fun ρ=>by unfold snP; rw [Pl.ke ρ (gbw p)]).symm
theorem gam (p:Pl):(snP p).Can:=Pl.jj _
theorem kcp (p:Pl):sdv p.sp ≠ 0:=wbx (jav _ p.js)
theorem xav (ρ:Int->Rat) (p:Pl):(snP p).val ρ * (sdv p.sp:Rat)=p.val ρ:=by
 unfold snP;rw [Pl.ke ρ (gbw p),<- Pl.XS ρ p];exact zby ρ p.sp uba
theorem uam {p:Pl} {E D:Nat} (h:Fit p E D):Fit (snP p) E D:=
 ⟨gam p,Pl.vA fun x hx=>by obtain ⟨y,hy,rfl⟩:=gbf hx; exact h.qaB y hy,sB (Pl.kB _) (sB (ubq _) h.vy)⟩
theorem zdb {p:Pl} {n:Int} (h:Low n p):Low n (snP p):=fun ρ ρ' he=>by
 have h1:=xav ρ p;have h2:=xav ρ' p;have h3:=h ρ ρ' he;have h0:(sdv p.sp:Rat) ≠ 0:=by
  have:=kcp p;exact fun e=>this (by exact_mod_cast e)
 rw [<- h1,<- h2] at h3
 grind
theorem ycp {p:Pl} (h:p.Can):(snP p).lv=p.lv:=by
 have h1:(snP p).lv<=p.lv:=gaw h.qq.1 (gam p) (zdb (ua1 h));have h2:p.lv<=(snP p).lv:=by
  refine gaw (gam p).qq.1 h fun ρ ρ' he=>?_
  rw [<- xav,<- xav ρ',ua1 (gam p) ρ ρ' he]
 omega
def zac (l:Int) (r:Pl):List Pl:=yl l r :: gp l r (yab l r)
def gaf (l:Int) (f:Pl):List Pl:=(vg l f).flatMap (zac l) ++ if (vg l f).length=0\/gag l f=true then [] else [qi l 0 ((vg l f).getD 0 Pl.zero)]
def prE (l:Int) (a b:List Pl):List Pl:=a.flatMap fun r=>b.flatMap fun s=>gp l r s
def xa4 (l:Int) (Ls:List (List Pl)):List Pl:=(List.range Ls.length).flatMap fun i=>(Ls.drop (i+1)).flatMap (prE l (Ls.getD i []))
def elems (l:Int) (fs:List Pl):List Pl:=fs.flatMap (gaf l) ++ xa4 l (fs.map (vg l))
def Seg {α:Type} (M:List α) (k:Nat) (L:List α):Prop:=∃ a b,M=a ++ (L ++ b)/\a.length=k
theorem Seg.get {α:Type} {M:List α} {k:Nat} {L:List α} (h:Seg M k L) (j:Nat) (hj:j < L.length):∃ h':k+j < M.length,M[k+j]=L[j]:=by
 obtain ⟨a,b,rfl,rfl⟩:=h;refine ⟨by simp only [rh]; omega,?_⟩;rw [tE (by omega)];simp only [Rm];rw [uL hj]
theorem Seg.all {α:Type} (M:List α):Seg M 0 M:=⟨[],[],by simp,rfl⟩
theorem Seg.left {α:Type} {M:List α} {k:Nat} {L R:List α} (h:Seg M k (L ++ R)):Seg M k L:=by
 obtain ⟨a,b,rfl,e⟩:=h;exact ⟨a,R ++ b,by simp,e⟩
theorem Seg.right {α:Type} {M:List α} {k:Nat} {L R:List α} (h:Seg M k (L ++ R)):Seg M (k+L.length) R:=by
 obtain ⟨a,b,rfl,e⟩:=h;exact ⟨a ++ L,b,by simp,by rw [rh,e]⟩
noncomputable def putL (acc:List Pl) (p:Pl):List Pl:=if p.lv=0 then acc else if acc.any (qF (snP p))=true then acc else acc ++ [snP p]
noncomputable def putA (acc:List Pl) (l:List Pl):List Pl:=l.foldl putL acc
noncomputable def dF (l:Int) (fs:List Pl):List Pl:=putA [] (elems l fs)
end Go.Proofs.YtcepajijiabkmaaGreat

set_option maxRecDepth 100000
set_option maxHeartbeats 8000000
namespace Go.Proofs.YtcepajijiabkmaaGreat
open Lib (hid)
open Go.RowKit Go.Shelf
attribute [local go_sem] Oper.semAt_some
structure Env (T lp : Nat) (J : Nat -> World -> Prop) (M : List Pl) : Prop where
 ext:∀ k W W',J k W->Ext W W'->J k W'
 step:∀ k v W,(h:k < M.length)->J k W->(∃ q,PlV W q M[k] v)->∀ m,YieldAt Fence.wide m Tryz.prog lp #[v] W fun e W'=>e=.returned (.bool true)/\J (k+1) W'/\yg T W W'
structure Fw (T : Nat) (W : World) : Prop where
 lt:T < W.heap.size
 fresh:∀ b,vae T W b->b < W.heap.size
theorem Fw.keep {T:Nat} {A B:World} (h:Fw T A) (k:yg T A B):Fw T B:=⟨px h.lt k.size,k.fresh h.fresh⟩
theorem Fw.ext {T:Nat} {A B:World} (h:Fw T A) (hx:Ext A B):Fw T B:=h.keep (yg.xi h.lt hx)
def xc8 (J:Nat->World->Prop) (T k:Nat) (w:World) (e:Ending) (w':World):Prop:=e=.returned (.bool true)/\J k w'/\yg T w w'
theorem qa6 {w : World} {T lp k : Nat} {J : Nat -> World -> Prop} {M : List Pl} {r s : Pl} {l : Int} {L : List Pl} (v0 v1 : Value) {q0 q1 : Nat -> Prop} (h0 : PlV w q0 r v0) (h1 : PlV w q1 s v1) (hE : Env T lp J M) (hF : Fw T w) (hJ : J k w) (hS : Seg M k L) (hn : L.length <= 1000)
 (HP:Hid (∀ W',Ext w W'->Calls Tryz.prog 138 #[v0,v1,.int .i64 l] W' (qaj (fun b=>W'.heap.size<=b) L W'))) :
 Calls Tryz.prog 112 #[v0,v1,.int .i64 l,.func (.yield lp) #[] #[]] w (xc8 J T (k+L.length) w):=by
 have HE:=hid hE;have xR:=hid hF;have HJ:=hid hJ;have HS:=hid hS;have nJ:∀ k:Nat,(Fence.wide.depth.isSome=true->1<=k):=fun k h=>by cases h
 clear hE hF hJ hS;have H0:=hid h0;have H1:=hid h1;obtain ⟨A0,m0,e0,B0,f0,rfl,-⟩:=h0.open_;obtain ⟨A1,m1,e1,B1,f1,rfl,-⟩:=h1.open_;obtain ⟨Eo,W,gI,jH,iT,aC,bW,hx1,aX,bF⟩:=b_2 w r s (.slice A0 m0 e0) (.slice B0 r.cs.length f0) (.slice A1 m1 e1) (.slice B1 s.cs.length f1);have HX:=hid (aC.trans hx1);have dJ:=hid aX;have dH:=hid bF;have fZ:W.heap.size=w.heap.size+1+1:=bW;clear h0 h1 aC hx1 aX bF;obtain ⟨b0,b1,b2,b3⟩:=dJ.out;obtain ⟨d0,d1,d2,d3⟩:=dH.out;unfold plV at HP ⊢;refine (callsIn_wide (n:=5)).1 ?_;refine callsIn_of_wp Tryz.func112 rfl trivial ?_ rfl;simp only [Tryz.ntmps112,tB,pH,rK,Nat.reduceAdd,Nat.reduceSub,u7,u6,Pd,wh,tz,rI]
 gi_wp2_with fail
 clear gI jH;clear b0 b1 b2 b3 d0 d1 d2 d3;refine ⟨trivial,?_⟩;refine (callsIn_wide.2 (HP.out _ HX.out)).mono ?_;rintro e w1 ⟨vr,rfl,Qe,x1⟩;have X1:=hid (HX.out.trans x1);obtain ⟨D0,dc,rfl,bY,dP,aK⟩:=Qe.at_;have Py:Hid (uap T w1 (.slice D0 L.length dc) L):=hid (uap.new (xR.out.ext HX.out).lt (xR.out.ext HX.out).fresh x1 ⟨D0,dc,rfl,bY,dP,aK⟩);clear Qe x1 aK HP iT bW fZ
 gi_wp2_with fail
 gi_loopw [22] (fun iv wr=>∃ j:Nat,j<=L.length/\iv=.int .i64 j/\Hid (J (k+j) wr/\yg T w wr/\uap T wr (.slice D0 L.length dc) L)) (fun iv _=>L.length - (intOf iv).toNat)
 case atStart=>exact ⟨0,pZ _,rfl,hid ⟨HE.out.ext _ _ _ HJ.out X1.out,yg.xi xR.out.lt X1.out,Py.out⟩⟩
 case round =>
  obtain ⟨j,hj,rfl,HI⟩:=hrel
  by_cases af:j < L.length
  · obtain ⟨hJ,hK,D0',dc',e',-,-,aK⟩:=HI.out;injection e' with e1 e2 e3
    subst e1 e3;obtain ⟨ad,C0,j0,k0,C1,j1,k1,rfl,ah,⟨g0,g1,g2,g3⟩,fP⟩:=aK.ym j af;obtain ⟨H8,IJ⟩:=HS.out.get j af;have jB:=xR.out.keep hK;obtain ⟨V,hV⟩:=n_m ((wr.alloc (.cells #[.int .i64 L[j].lv,.bool L[j].neg,.slice C0 j0 k0,.slice C1 j1 k1] 33)));have dN:Ext wr V:=by rw [<- hV]; exact (Ext.refl wr).alloc _
    have dV:=HE.out.step (k+j) _ V H8 (HE.out.ext _ _ _ hJ dN) ⟨_,by rw [IJ]; exact fP.ext dN⟩;obtain ⟨s0,s1,s2,s3⟩:jb V wr.heap.size L[j] (.slice C0 j0 k0) (.slice C1 j1 k1):=by rw [<- hV]; exact jb.new wr L[j] _ _ _
    obtain ⟨fn,tmps,assign,body,hy,zN⟩:=dV 4;have qW:=hid zN;have DL:=hid (hK.trans (yg.xi jB.lt dN));have HRV:=hid (HI.out.2.2.keep (yg.xi jB.lt dN));unfold plV at hy;clear zN dV dN hJ hK aK ah fP H8 IJ jB;generalize L[j]=c at *
    gi_wp2_with fail
    clear g0 g1 g2 g3 hV s0 s1 s2 s3;refine qW.out.mono ?_;rintro e W2 ⟨rfl,IV,IU⟩;have HN:Hid (J (k+(j+1)) W2/\yg T w W2/\uap T W2 (.slice (some ad) L.length dc) L):=hid ⟨by rw [<- tR]; exact IV,DL.out.trans IU,HRV.out.keep IU⟩;clear IV IU qW hy HI
    gi_wp2_with fail
    go_roundw
    case rel=>exact ⟨j+1,by omega,by go_num,HN.out⟩
    case measure=>simp [intOf]; omega
  · obtain rfl:j=L.length:=by omega
    have hf:=HI.out;clear HI
    gi_wp2_with fail
    exact bodyPost_ret (v:=.bool true) (by simp [results,Tryz.results112,go_sem]) rfl ⟨rfl,hf.1,hf.2.1⟩
end Go.Proofs.YtcepajijiabkmaaGreat

namespace Go.Proofs.YtcepajijiabkmaaGreat
open Lib (hid)
open Go.RowKit Go.Shelf
attribute [local go_sem] Oper.semAt_some
theorem xac {α β:Type} (f:α->List β) (A:List α) (i:Nat) (hi:i < A.length):((A.take (i+1)).flatMap f).length=((A.take i).flatMap f).length+(f A[i]).length:=by
 rw [pC hi,Th,rh]; simp
theorem Seg.flat {α β:Type} {M:List β} {k:Nat} {f:α->List β} {A:List α} (h:Seg M k (A.flatMap f)) (i:Nat) (hi:i < A.length):Seg M (k+((A.take i).flatMap f).length) (f A[i]):=by
 have e:A.flatMap f=(A.take i).flatMap f ++ (f A[i] ++ (A.drop (i+1)).flatMap f):=by
  conv=>lhs; rw [<- wN i A,Th,sh hi,th]
 rw [e] at h;exact h.right.left
theorem uc2 {w : World} {T lp k : Nat} {J : Nat -> World -> Prop} {M : List Pl} {A B : List Pl} {l : Int} (va vb : Value) (ha : uap T w va A) (hb : uap T w vb B) (hE : Env T lp J M) (hF : Fw T w) (hJ : J k w) (hS : Seg M k (prE l A B)) (Yd : A.length <= 1000000) (hBn : B.length <= 1000000)
 (HP:Hid (∀ r ∈ A,∀ s ∈ B,(gp l r s).length<=1000/\∀ W' v0 v1 q0 q1,PlV W' q0 r v0->PlV W' q1 s v1->Calls Tryz.prog 138 #[v0,v1,.int .i64 l] W' (qaj (fun b=>W'.heap.size<=b) (gp l r s) W'))) :
 Calls Tryz.prog 88 #[va,vb,.int .i64 l,.func (.yield lp) #[] #[]] w (xc8 J T (k+(prE l A B).length) w):=by
 have HE:=hid hE;have xR:=hid hF;have HJ:=hid hJ;have HS:=hid hS;have HA:=hid ha;have HB:=hid hb;obtain ⟨D0,c0,rfl,bY,dP,-⟩:=ha;obtain ⟨E0,d0,rfl,eH,uD,-⟩:=hb;clear hE hF hJ hS;refine (callsIn_wide (n:=5)).1 ?_;refine callsIn_of_wp Tryz.func88 rfl trivial ?_ rfl;simp only [Tryz.ntmps88,tB,pH,rK,Nat.reduceAdd,Nat.reduceSub,u7,u6,Pd,wh,tz,rI]
 gi_wp2_with fail
 gi_loopw [15] (fun iv wr=>∃ i:Nat,i<=A.length/\iv=.int .i64 i/\Hid (J (k+(prE l (A.take i) B).length) wr/\yg T w wr)) (fun iv _=>A.length - (intOf iv).toNat)
 case atStart=>exact ⟨0,pZ _,rfl,hid ⟨by simpa [prE] using HJ.out,yg.xi xR.out.lt (Ext.refl w)⟩⟩
 case round =>
  obtain ⟨i,hi,rfl,HI⟩:=hrel
  by_cases af:i < A.length
  · obtain ⟨hJ,hK⟩:=HI.out;have jB:=xR.out.keep hK;obtain ⟨D0',c0',e',-,-,aK⟩:=HA.out.keep hK;injection e' with e1 e2 e3
    subst e1 e3;obtain ⟨ad,C0,j0,k0,C1,j1,k1,rfl,ah,⟨g0,g1,g2,g3⟩,fP⟩:=aK.ym i af;have iG:=hid (HS.out.flat i af);have jK:=hid (xac (fun r=>B.flatMap fun s=>gp l r s) A i af);have VG:=hid (HP.out A[i] (pt af));obtain ⟨V,hV⟩:=n_m ((wr.alloc (.cells #[.int .i64 A[i].lv,.bool A[i].neg,.slice C0 j0 k0,.slice C1 j1 k1] 33)));have dN:Ext wr V:=by rw [<- hV]; exact (Ext.refl wr).alloc _
    have sV:jb V wr.heap.size A[i] (.slice C0 j0 k0) (.slice C1 j1 k1):=by rw [<- hV]; exact jb.new wr A[i] _ _ _
    have lQ:=hid sV;have iZ:Safe T V wr.heap.size:=ga3 jB.lt jB.fresh dN (pj _) (by rw [<- hV]; simp);have jD:=hid iZ;have DL:=hid (hK.trans (yg.xi jB.lt dN));have Ny:=hid (HE.out.ext _ _ _ hJ dN);have Ey:=hid ((yg.xi jB.lt dN).pl fP);obtain ⟨g,hg⟩:=n_m (wr.heap.size);rw [hg] at lQ jD;obtain ⟨n0,gX⟩:=n_m (k+(prE l (A.take i) B).length);have rF:=hid gX;unfold prE at gX;rw [gX] at iG;rw [rF.out] at Ny;clear hJ hK aK ah fP jB dN sV iZ HI gX;generalize A[i]=r at *
    gi_wp2_with fail
    try rw [hg]
    clear g0 g1 g2 g3 hV hg
    gi_loopw [21] (fun iv wr=>∃ j:Nat,j<=B.length/\iv=.int .i64 j/\Hid (J (n0+((B.take j).flatMap fun s=>gp l r s).length) wr/\yg T V wr)) (fun iv _=>B.length - (intOf iv).toNat)
    case atStart=>exact ⟨0,pZ _,rfl,hid ⟨by simpa using Ny.out,yg.xi (xR.out.keep DL.out).lt (Ext.refl V)⟩⟩
    case round =>
     obtain ⟨j,hj,rfl,rH⟩:=hrel
     by_cases lJ:j < B.length
     · obtain ⟨IV,IU⟩:=rH.out;have KT:=(xR.out.keep DL.out).keep IU;obtain ⟨E0',d0',e',-,-,jZ⟩:=(HB.out.keep DL.out).keep IU;injection e' with e1 e2 e3
       subst e1 e3;obtain ⟨ad2,G0,i0,h0,G1,i1,h1,rfl,IA,⟨f0,f1,f2,f3⟩,Ko⟩:=jZ.ym j lJ;have Vw:=hid (iG.out.flat j lJ);have VR:=hid (xac (fun s=>gp l r s) B j lJ);obtain ⟨Z9,wO⟩:=VG.out B[j] (pt lJ);obtain ⟨U,hU⟩:=n_m ((wr.alloc (.cells #[.int .i64 B[j].lv,.bool B[j].neg,.slice G0 i0 h0,.slice G1 i1 h1] 33)));have hxU:Ext wr U:=by rw [<- hU]; exact (Ext.refl wr).alloc _
       obtain ⟨s0,s1,s2,s3⟩:jb U wr.heap.size B[j] (.slice G0 i0 h0) (.slice G1 i1 h1):=by rw [<- hU]; exact jb.new wr B[j] _ _ _
       have IP:=IU.trans (yg.xi KT.lt hxU);obtain ⟨b0,b1,b2,b3⟩:jb U g r (.slice C0 j0 k0) (.slice C1 j1 k1):=⟨IP.cell jD.out lQ.out.1,IP.cell jD.out lQ.out.2.1,IP.cell jD.out lQ.out.2.2.1,IP.cell jD.out lQ.out.2.2.2⟩;have vV:=hid (qa6 (k:=n0+((B.take j).flatMap fun s=>gp l r s).length) _ _ (IP.pl Ey.out) (Ko.ext hxU) HE.out (KT.ext hxU) (HE.out.ext _ _ _ IV hxU) Vw.out Z9 (hid fun W' hx=>wO W' _ _ _ _ ((IP.pl Ey.out).ext hx) ((Ko.ext hxU).ext hx)));have HKU:=hid IP;unfold plV at vV;clear IV IU KT jZ IA Ko hxU IP wO rH;generalize B[j]=s at *
       gi_wp2_with fail
       clear f0 f1 f2 f3 hU s0 s1 s2 s3 b0 b1 b2 b3;refine ⟨trivial,?_⟩;refine (callsIn_wide.2 vV.out).mono ?_;rintro e W2 ⟨rfl,hJ3,OZ⟩;have HN:Hid (J (n0+((B.take (j+1)).flatMap fun s=>gp l r s).length) W2/\yg T V W2):=hid ⟨by rw [VR.out,<- tR]; exact hJ3,HKU.out.trans OZ⟩;clear hJ3 OZ vV
       gi_wp2_with fail
       go_roundw
       case rel=>exact ⟨j+1,by omega,by go_num,HN.out⟩
       case measure=>simp [intOf]; omega
     · obtain rfl:j=B.length:=by omega
       have hf:=rH.out;rw [pQ] at hf
       have HN:Hid (J (k+(prE l (A.take (i+1)) B).length) wr/\yg T w wr):=hid ⟨by
        have h1:=jK.out;have h2:=rF.out;unfold prE at h2 ⊢
        rw [h1,<- tR,h2]; exact hf.1,DL.out.trans hf.2⟩
       clear rH hf
       gi_wp2_with fail
       go_roundw
       case rel=>exact ⟨i+1,by omega,by go_num,HN.out⟩
       case measure=>simp [intOf]; omega
  · obtain rfl:i=A.length:=by omega
    have hf:=HI.out;rw [pQ] at hf;clear HI
    gi_wp2_with fail
    exact bodyPost_ret (v:=.bool true) (by simp [results,Tryz.results88,go_sem]) rfl ⟨rfl,hf.1,hf.2⟩
end Go.Proofs.YtcepajijiabkmaaGreat

namespace Go.Proofs.YtcepajijiabkmaaGreat
open Lib (hid)
open Go.RowKit Go.Shelf
attribute [local go_sem] Oper.semAt_some
theorem jbn (a:Addr):a.add 0=a:=by simp [Addr.add]
def tailE (l:Int) (A:List Pl) (c:Bool):List Pl:=if A.length=0\/c=true then [] else [qi l 0 (A.getD 0 Pl.zero)]
theorem qch {w : World} {T lp k E D : Nat} {J : Nat -> World -> Prop} {M : List Pl} {A : List Pl} {l : Int} {c : Bool} (va : Value) (hl : 1 <= l) (ag : l <= 4) (ha : uap T w va A) (hE : Env T lp J M) (hF : Fw T w) (hJ : J k w) (hS : Seg M k (A.flatMap (zac l) ++ tailE l A c)) (Yd : A.length <= 1000000) (aF : ∀ r ∈ A, Fit r E D) (hE6 : E <= 62) (hD : D <= 1099511627774)
 (HP:Hid (∀ r ∈ A,(gp l r (yab l r)).length<=1000/\∀ W' v0 v1 q0 q1,PlV W' q0 r v0->PlV W' q1 (yab l r) v1->Calls Tryz.prog 138 #[v0,v1,.int .i64 l] W' (qaj (fun b=>W'.heap.size<=b) (gp l r (yab l r)) W'))) :
 Calls Tryz.prog 87 #[va,.bool c,.int .i64 l,.func (.yield lp) #[] #[]] w (xc8 J T (k+(A.flatMap (zac l) ++ tailE l A c).length) w):=by
 have HE:=hid hE;have xR:=hid hF;have HJ:=hid hJ;have HS:=hid hS.left;have dS:=hid hS.right;have HA:=hid ha;have fE:=hid aF;have nJ:∀ k:Nat,(Fence.wide.depth.isSome=true->1<=k):=fun k h=>by cases h
 have iL:Tryz.prog.follows .mixedOrders=true:=by kernel_rfl
 obtain ⟨D0,c0,rfl,bY,dP,-⟩:=ha;obtain ⟨N,hN⟩:=n_m (k+(A.flatMap (zac l) ++ tailE l A c).length);rw [hN];have qY:=hid hN.symm;clear hN;clear hE hF hJ hS aF;refine (callsIn_wide (n:=5)).1 ?_;refine callsIn_of_wp Tryz.func87 rfl trivial ?_ rfl;simp only [Tryz.ntmps87,tB,pH,rK,Nat.reduceAdd,Nat.reduceSub,u7,u6,Pd,wh,tz,rI]
 gi_wp2_with fail
 gi_loopw [13] (fun iv wr=>∃ i:Nat,i<=A.length/\iv=.int .i64 i/\Hid (J (k+((A.take i).flatMap (zac l)).length) wr/\yg T w wr)) (fun iv _=>A.length - (intOf iv).toNat)
 case atStart=>exact ⟨0,pZ _,rfl,hid ⟨by simpa using HJ.out,yg.xi xR.out.lt (Ext.refl w)⟩⟩
 case round =>
  obtain ⟨i,hi,rfl,HI⟩:=hrel
  by_cases af:i < A.length
  · obtain ⟨hJ,hK⟩:=HI.out;have jB:=xR.out.keep hK;obtain ⟨D0',c0',e',-,-,aK⟩:=HA.out.keep hK;injection e' with e1 e2 e3
    subst e1 e3;obtain ⟨ad,C0,j0,k0,C1,j1,k1,rfl,ah,⟨g0,g1,g2,g3⟩,fP⟩:=aK.ym i af;have fB:=HS.out.flat i af;have hlen:=xac (zac l) A i af;have bG:=fE.out A[i] (pt af);obtain ⟨Z9,wO⟩:=HP.out A[i] (pt af);obtain ⟨V,hV⟩:=n_m ((wr.alloc (.cells #[.int .i64 A[i].lv,.bool A[i].neg,.slice C0 j0 k0,.slice C1 j1 k1] 33)));have dN:Ext wr V:=by rw [<- hV]; exact (Ext.refl wr).alloc _
    have sV:jb V wr.heap.size A[i] (.slice C0 j0 k0) (.slice C1 j1 k1):=by rw [<- hV]; exact jb.new wr A[i] _ _ _
    have iZ:Safe T V wr.heap.size:=ga3 jB.lt jB.fresh dN (pj _) (by rw [<- hV]; simp);have TD:=jB.ext dN;have EE:=hid TD;have ZI:wr.heap.size < V.heap.size:=iZ.1;have lQ:=hid sV;have jD:=hid iZ;have DL:=hid (hK.trans (yg.xi jB.lt dN));have Ny:=hid (HE.out.ext _ _ _ hJ dN);have Ey:=hid ((yg.xi jB.lt dN).pl fP);have HPS:=hid wO;have IJ:=Seg.get (L:=zac l A[i]) fB 0 (by simp [zac]);have PE:Hid (∃ h:(k+((A.take i).flatMap (zac l)).length) < M.length,M[k+((A.take i).flatMap (zac l)).length]=yl l A[i]):=hid IJ;have iG:Hid (Seg M (k+((A.take i).flatMap (zac l)).length+1) (gp l A[i] (yab l A[i]))):=hid (Seg.right (L:=[yl l A[i]]) (R:=gp l A[i] (yab l A[i])) fB);have jK:Hid (((A.take (i+1)).flatMap (zac l)).length=((A.take i).flatMap (zac l)).length+((gp l A[i] (yab l A[i])).length+1)):=hid hlen;have YJ:=hid (fun (W':World) (q:Nat->Prop) (u:Value) (hu:PlV W' q A[i] u)=>wam u hl ag bG (by omega) (by omega) hu);have Jv:=hid (fun (W':World) (q:Nat->Prop) (u:Value) (hu:PlV W' q A[i] u)=>gc3 u hl ag bG hE6 hD hu);obtain ⟨g,hg⟩:=n_m (wr.heap.size);obtain ⟨n0,gX⟩:=n_m (k+((A.take i).flatMap (zac l)).length);rw [gX] at Ny PE iG;have rF:=hid gX;rw [hg] at lQ jD ZI;have hd:Ext V V.drew:=(Ext.refl V).drew;have Ba:=hid hd;obtain ⟨s0,s1,s2,s3⟩:=lQ.out;obtain ⟨s0',s1',s2',s3'⟩:=lQ.out.ext hd ZI;clear hJ hK aK ah fP jB dN sV iZ HI gX IJ fB hlen bG wO hd TD;generalize A[i]=r at *;unfold plV at Ey
    gi_wp2_with fail
    try rw [hg]
    clear g0 g1 g2 g3 hV hg s0 s1 s2 s3
    gi_region_with_o (first
     | (go_simp
        (try refine ⟨nJ _,?_⟩)
        (try refine ⟨trivial,?_⟩)
        refine (callsIn_wide.2 (YJ.out _ _ _ (Ey.out.ext Ba.out))).mono ?_;rintro e v1 ⟨lv,rfl,pl,x1⟩;have X1:=hid (Ba.out.trans x1);obtain ⟨F0,i0,h0,F1,h1,rfl,-⟩:=id pl.open_;obtain ⟨II,IK⟩:=PE.out;obtain ⟨fn,tmps,assign,body,hy,zN⟩:=HE.out.step n0 _ v1 II (HE.out.ext _ _ _ Ny.out X1.out) ⟨_,by rw [IK]; exact pl⟩ 4;have qW:=hid zN;unfold plV at hy ⊢
        clear zN x1 pl II IK)
     | (go_simp
        (try refine ⟨nJ _,?_⟩)
        refine qW.out.mono ?_;rintro e v2 ⟨rfl,oJ,hk2⟩;have vH:=(yg.xi EE.out.lt X1.out).trans hk2;obtain ⟨q0,q1,q2,q3⟩:jb v2 g r (.slice C0 j0 k0) (.slice C1 j1 k1):=⟨vH.cell jD.out lQ.out.1,vH.cell jD.out lQ.out.2.1,vH.cell jD.out lQ.out.2.2.1,vH.cell jD.out lQ.out.2.2.2⟩;have J2:=hid oJ;have K2:=hid vH;have P2:=hid (vH.pl Ey.out)
        clear oJ hk2 vH)
     | (go_simp
        (try refine ⟨nJ _,?_⟩)
        (try refine ⟨trivial,?_⟩)
        refine (callsIn_wide.2 (Jv.out _ _ _ P2.out)).mono ?_;rintro e v3 ⟨dv,rfl,pd,x3⟩;obtain ⟨G0,i2,h2,G1,h3,rfl,-⟩:=id pd.open_;have sU:=(EE.out.keep K2.out).ext x3;have dR:g < v2.heap.size:=px ZI K2.out.size;have y0:=(x3.cell (p:=⟨g,0,none⟩) dR).trans q0;have y1:=(x3.cell (p:=⟨g,1,none⟩) dR).trans q1;have y2:=(x3.cell (p:=⟨g,2,none⟩) dR).trans q2;have y3:=(x3.cell (p:=⟨g,3,none⟩) dR).trans q3;have vV:=hid (qa6 (k:=n0+1) _ _ (P2.out.ext x3) pd HE.out sU (HE.out.ext _ _ _ J2.out x3) iG.out Z9 (hid fun W' hx=>HPS.out W' _ _ _ _ ((P2.out.ext x3).ext hx) (pd.ext hx)));have K3:=hid (K2.out.trans (yg.xi (EE.out.keep K2.out).lt x3));unfold plV at vV ⊢
        clear x3 pd sU dR)
     | (go_simp
        (try refine ⟨nJ _,?_⟩)
        (try refine ⟨trivial,?_⟩)
        refine (callsIn_wide.2 vV.out).mono ?_;rintro e v4 ⟨rfl,ry,Ee⟩
        have HN:Hid (J (k+((A.take (i+1)).flatMap (zac l)).length) v4/\yg T w v4):=hid ⟨by
         have h1:=jK.out;have h2:=rF.out
         rw [h1,<- tR,h2,Nat.add_comm (gp l r (yab l r)).length 1,<- tR]; exact ry,(DL.out.trans K3.out).trans Ee⟩
        clear ry Ee))
    all_goals
     clear s0' s1' s2' s3' qW hy q0 q1 q2 q3 vV
     gi_wp2_with fail
     go_roundw
     case rel=>exact ⟨i+1,by omega,by go_num,HN.out⟩
     case measure=>simp [intOf]; omega
  · obtain rfl:i=A.length:=by omega
    have hf:=HI.out;rw [pQ] at hf;obtain ⟨hJ,hK⟩:=hf
    by_cases h0:A.length=0
    · have HF:Hid (J N wr/\yg T w wr):=hid ⟨by rw [qY.out]; unfold tailE; rw [if_pos (Or.inl h0),sq]; exact hJ,hK⟩;rw [h0];clear HI hJ hK h0
      gi_wp2_with fail
      exact bodyPost_ret (v:=.bool true) (by simp [results,paX,go_sem]) rfl ⟨rfl,HF.out.1,HF.out.2⟩
    · have hz:((A.length:Int) == 0)=false:=by rw [beq_eq_false_iff_ne]; omega
      cases c with
      | true =>
        have HF:Hid (J N wr/\yg T w wr):=hid ⟨by rw [qY.out]; unfold tailE; rw [if_pos (Or.inr rfl),sq]; exact hJ,hK⟩;clear HI hJ hK h0
        gi_wp2_with fail
        exact bodyPost_ret (v:=.bool true) (by simp [results,paX,go_sem]) rfl ⟨rfl,HF.out.1,HF.out.2⟩
      | false =>
        have af:0 < A.length:=by omega
        have qK:tailE l A false=[qi l 0 A[0]]:=by
         unfold tailE; rw [if_neg (by rintro (h | h); exact h0 h; cases h),po,pr af]; rfl
        have Md:=dS.out;rw [qK] at Md;have IJ:=Md.get 0 (by simp);have PE:Hid (∃ h:(k+(A.flatMap (zac l)).length) < M.length,M[k+(A.flatMap (zac l)).length]=qi l 0 A[0]):=hid IJ;have HTE:Hid (N=k+(A.flatMap (zac l)).length+1):=hid (by rw [qY.out,qK,rh,PC,tR]);obtain ⟨n0,gX⟩:=n_m (k+(A.flatMap (zac l)).length);rw [gX] at HTE PE hJ;have jB:=xR.out.keep hK;obtain ⟨D0',c0',e',-,-,aK⟩:=HA.out.keep hK;injection e' with e1 e2 e3
        subst e1 e3;obtain ⟨ad,C0,j0,k0,C1,j1,k1,rfl,ah,⟨g0,g1,g2,g3⟩,fP⟩:=aK.ym 0 af;have oG:=hid (ybs (k:=0) _ (by omega) (by omega) hl ag (fE.out A[0] (pt af)) (by omega) (by omega) fP);have DT:=hid jB;have Be:=hid hJ;have YM:=hid hK;simp only [s8,jbn] at g0 g1 g2 g3;obtain ⟨r,hr⟩:=n_m (A[0]);rw [hr] at oG PE g0 g1;unfold plV at oG;clear HI hJ hK h0 jB aK ah fP Md IJ qK dS hr
        gi_wp2_with fail
        clear g0 g1 g2 g3;refine ⟨trivial,?_⟩;refine (callsIn_wide.2 oG.out).mono ?_;rintro e v1 ⟨cv,rfl,pc,x1⟩;obtain ⟨F0,i0,h0,F1,h1,rfl,-⟩:=id pc.open_;obtain ⟨II,IK⟩:=PE.out;obtain ⟨fn,tmps,assign,body,hy,zN⟩:=HE.out.step n0 _ v1 II (HE.out.ext _ _ _ Be.out x1) ⟨_,by rw [IK]; exact pc⟩ 4;have qW:=hid zN;have K1:=hid (YM.out.trans (yg.xi DT.out.lt x1));obtain ⟨d,hd⟩:=n_m (qi l 0 r);rw [hd] at hy ⊢;unfold plV at hy ⊢;clear zN x1 pc II IK oG hd gX
        gi_wp2_with fail
        refine qW.out.mono ?_;rintro e v2 ⟨rfl,oJ,hk2⟩;rw [<- HTE.out] at oJ;have HF:Hid (J N v2/\yg T w v2):=hid ⟨oJ,K1.out.trans hk2⟩;clear oJ hk2 qW hy
        gi_wp2_with fail
        exact bodyPost_ret (v:=.bool true) (by simp [results,paX,go_sem]) rfl ⟨rfl,HF.out.1,HF.out.2⟩
end Go.Proofs.YtcepajijiabkmaaGreat

namespace Go.Proofs.YtcepajijiabkmaaGreat
open Lib (hid)
open Go.RowKit Go.Shelf
attribute [local go_sem] Oper.semAt_some
theorem xct:(Tryz.prog.info? 31).map (fun i=>(i.zero,i.size,i.bytes))=some (some (.slice none 0 0),1,24):=by kernel_rfl
theorem ubu (n:Int) (h0:0<=n) (h1:n<=1099511627776) (w:World) :
 ∃ w',(Instr.makeSlice 97 (.int .i64 n) (.int .i64 n)).run Tryz.prog w=.ok (.slice (some ⟨w.heap.size,0,none⟩) n.toNat n.toNat) w'/\Ext w w'/\w'.heap.size=w.heap.size+1/\(∀ i,w'.frozen? ⟨w.heap.size,i,none⟩=false)/\(∀ i,i < n.toNat->w'.cell? ⟨w.heap.size,i,none⟩=some (.slice none 0 0))/\∀ i x,w'.cell? ⟨w.heap.size,i,none⟩=some x->∃ D n c,x=.slice D n c:=by
 obtain ⟨i0,hi,iV,iJ,iI⟩:=info_parts xct;have hc:∀ i,(w.alloc (.cells (madeCells (Value.slice none 0 0).cells (n.toNat * i0.size)) 31)).cell? ⟨w.heap.size,i,none⟩=if i < n.toNat then some (.slice none 0 0) else none:=by
  intro i;rw [cell_of_row _ _ i _ _ (0,0) (heap_alloc_new w _),iJ];unfold madeCells;rw [SF,Sc,ur]
  split
  · show some ((#[Value.slice none 0 0]:Array Value)[i % 1]!)=_;rw [Nat.mod_one]; rfl
  · rfl
 refine ⟨_,run_make w 97 31 i0 _ Tryz.underlying97 hi iV .i64 .i64 n n h0 (by omega) (by rw [iI]; omega) (by omega),(Ext.refl w).alloc _,by simp,fun i=>by simp [go_sem],fun i h=>by rw [hc,if_pos h],fun i x h=>?_⟩;rw [hc] at h
 split at h
 · injection h with h; exact ⟨_,_,_,h.symm⟩
 · cases h
structure za6 (T R n : Nat) (W : World) (Ls : List (List Pl)) : Prop where
 safe:Safe T W R
 fr:∀ j,j < n->W.frozen? ⟨R,j,none⟩=false
 sl:∀ j x,W.cell? ⟨R,j,none⟩=some x->∃ D n c,x=.slice D n c
 some_:∀ j,j < n->∃ x,W.cell? ⟨R,j,none⟩=some x
 le:Ls.length<=n
 row:∀ i (h:i < Ls.length),∃ v,W.cell? ⟨R,i,none⟩=some v/\ga5 T R W v Ls[i]
theorem za6.keep {T R n:Nat} {A B:World} {Ls:List (List Pl)} (h:za6 T R n A Ls) (k:yg T A B) (hn:0 < n):za6 T R n B Ls:=by
 obtain ⟨x0,aC⟩:=h.some_ 0 hn;have hb:=k.block h.safe aC;have hc:∀ j,B.cell? ⟨R,j,none⟩=A.cell? ⟨R,j,none⟩:=fun j=>pB (a:=⟨R,j,none⟩) hb
 exact ⟨h.safe.keep k,fun j hj=>(sP (a:=⟨R,j,none⟩) hb).trans (h.fr j hj),fun j x hx=>h.sl j x (by rw [<- hc]; exact hx),fun j hj=>by rw [hc]; exact h.some_ j hj,h.le,fun i hi=>by
  obtain ⟨v,hv,hr⟩:=h.row i hi
  exact ⟨v,by rw [hc]; exact hv,hr.keep (k.x R)⟩⟩
theorem za6.set {T R n:Nat} {A:World} {Ls:List (List Pl)} (h:za6 T R n A Ls) (hi:Ls.length < n) {D:Option Addr} {c:Nat} {L:List Pl} (hr:ga5 T R A (.slice D L.length c) L):za6 T R n (A.setCell ⟨R,Ls.length,none⟩ (.slice D L.length c)) (Ls ++ [L])/\yad T R A (A.setCell ⟨R,Ls.length,none⟩ (.slice D L.length c)):=by
 obtain ⟨u,hu⟩:=h.some_ _ hi;obtain ⟨D',n',c',rfl⟩:=h.sl _ _ hu;have hk:yad T R A (A.setCell ⟨R,Ls.length,none⟩ (.slice D L.length c)):=yad.set h.safe.2.1 hu rfl;have same:=pP A ⟨R,Ls.length,none⟩ (.slice D L.length c) hu;have Oc:∀ j,j ≠ Ls.length->(A.setCell ⟨R,Ls.length,none⟩ (.slice D L.length c)).cell? ⟨R,j,none⟩=A.cell? ⟨R,j,none⟩:=fun j hj=>ph _ _ _ _ (by intro e; injection e with _ e; exact hj e.symm)
 refine ⟨⟨⟨by have:=h.safe.1; simpa [World.setCell] using this,h.safe.2.1,fun e=>h.safe.2.2 (hk.own R h.safe.1 e)⟩,fun j hj=>by rw [rm]; exact h.fr j hj,fun j x hx=>?_,fun j hj=>?_,by simp; omega,fun i jG=>?_⟩,hk⟩
 · by_cases e:j=Ls.length
   · subst e; rw [same] at hx; injection hx with hx; exact ⟨_,_,_,hx.symm⟩
   · rw [Oc j e] at hx; exact h.sl j x hx
 · by_cases e:j=Ls.length
   · subst e; exact ⟨_,same⟩
   · rw [Oc j e]; exact h.some_ j hj
 · by_cases e:i=Ls.length
   · subst e;refine ⟨_,same,?_⟩;simpa using hr.keep hk
   · have af:i < Ls.length:=by simp at jG; omega
     obtain ⟨v,hv,EX⟩:=h.row i af;refine ⟨v,by rw [Oc i e]; exact hv,?_⟩;rw [uL af]; exact EX.keep hk
structure gdj (T lp lo : Nat) (J : Nat -> World -> Prop) (M : List Pl) : Prop extends Env T lp J M where
 rel:∀ k A B,J k A->wat T lo A B->J k B
def udg (x:Value):Array Value:=#[x]
def OkP (M:List Pl) (k:Nat) (x:Value) (W:World):Prop:=∃ _:k < M.length,∃ q,PlV W q M[k] x
def jbb (l:Int) (fs:List Pl):Prop:=∀ r s,((∃ f ∈ fs,r ∈ vg l f/\s=yab l r)\/(∃ (i j:Nat) (hi:i < fs.length) (hj:j < fs.length),i < j/\r ∈ vg l fs[i]/\s ∈ vg l fs[j]))->(gp l r s).length<=1000/\∀ W' v0 v1 q0 q1,PlV W' q0 r v0->PlV W' q1 s v1->Calls Tryz.prog 138 #[v0,v1,.int .i64 l] W' (qaj (fun b=>W'.heap.size<=b) (gp l r s) W')
theorem yb5 {w : World} {T lo E D BL BV c0 : Nat} {D0 : Option Addr} {l : Int} {fs : List Pl} (hl : 1 <= l) (ag : l <= 4) (hF : Fw T w) (hlo : lo <= w.heap.size) (UU : Safe T w BL) (Yc : Safe T w BV) (cL : w.cell? ⟨BL, 0, none⟩ = some (.slice D0 fs.length c0)) (cV : w.cell? ⟨BV, 0, none⟩ = some (.int .i64 l))
 (bY:fs.length<=c0) (dP:c0<=9223372036854775807) (aK:jd w (Safe T w) fs D0 0) (yR:fs.length<=1000) (aF:∀ f ∈ fs,Fit f E D) (hE:E<=60) (hD:D<=100000000000) (HP:Hid (jbb l fs)) (n:Nat) :
 yc9 n Tryz.prog 85 #[.pointer (some ⟨BL,0,none⟩),.pointer (some ⟨BV,0,none⟩)] udg (OkP (elems l fs)) (yg T) (wat T lo) (elems l fs).length w:=by
 intro lp J W hW hJ hR hY h0;have ai:Ext w W:=hW;have HE:Hid (gdj T lp lo J (elems l fs)):=hid ⟨⟨fun k W W' h hx=>hJ k W W' none h ⟨hx.below.os,hx.below.tape,hx.below.output,hx.size,fun i hi _=>hx.below.block i hi⟩ (fun r e=>by cases e),fun k v W h hj hp m=>hY k v W h hj ⟨h,hp⟩ m⟩,hR⟩;have HR:=hid hR;have H0:=hid h0;have xR:=hid (hF.ext ai);have fE:=hid aF;have k1:W.cell? ⟨BL,0,none⟩=some (.slice D0 fs.length c0):=(ai.cell (p:=⟨BL,0,none⟩) UU.1).trans cL;have oH:=ai.size;obtain ⟨W1,dA,iL,RI,uB,Ox,Kz⟩:=ubu (fs.length:Int) (by omega) (by omega) W;rw [sX] at dA Ox;obtain ⟨R,hRe⟩:=n_m (W.heap.size);rw [hRe] at dA uB Ox Kz RI;have hx1:Ext w W1:=ai.trans iL;have jY:=hF.ext hx1;have uU:Safe T W1 R:=⟨by omega,by have:=hF.lt; omega,fun e=>by
  obtain ⟨v,hv,e'⟩:=e;have:=hF.fresh R ⟨v,(hx1.cell (p:=⟨T,0,none⟩) hF.lt).symm.trans hv,e'⟩
  omega⟩
 have DW:Hid (za6 T R fs.length W1 []):=hid ⟨uU,fun j _=>uB j,Kz,fun j hj=>⟨_,Ox j hj⟩,by simp,fun i hi=>by simp at hi⟩;have AQ:=yg.xi hF.lt hx1;have Pq:Hid (yav T R W1 BL):=hid ⟨UU.keep AQ,by have:=UU.1; omega⟩;have MX:Hid (yav T R W1 BV):=hid ⟨Yc.keep AQ,by have:=Yc.1; omega⟩;have HCV:Hid (W1.cell? ⟨BV,0,none⟩=some (.int .i64 l)):=hid ((hx1.cell (p:=⟨BV,0,none⟩) Yc.1).trans cV);have NL:Hid (W1.cell? ⟨BL,0,none⟩=some (.slice D0 fs.length c0)):=hid ((hx1.cell (p:=⟨BL,0,none⟩) UU.1).trans cL);have aQ:Hid (ga5 T R W1 (.slice D0 fs.length c0) fs):=hid ⟨D0,c0,rfl,bY,dP,jd.ju AQ.size AQ.nat (fun a v hp hv=>⟨⟨hp.keep AQ,by have:=hp.1; omega⟩,AQ.vh hp hv⟩) _ _ _ aK⟩;have ND:=hid jY;have aaz:lo<=R:=by omega
 have J1:=hid (HE.out.ext _ _ _ h0 iL);have ajW:R < W1.heap.size:=uU.1;have hPD:∀ r ∈ fs,mdg l r<=62:=fun r hr=>by have:=waj (l:=l) (aF r hr).can (aF r hr).ex; omega
 have HPD:=hid hPD;have nJ:∀ k:Nat,(Fence.wide.depth.isSome=true->1<=k):=fun k h=>by cases h
 have aiV:Tryz.prog.follows .mixedOrders=true:=by kernel_rfl
 obtain ⟨M,hM⟩:=n_m (elems l fs);have LZ:Seg M 0 (fs.flatMap (gaf l) ++ xa4 l (fs.map (vg l))):=by rw [<- hM]; exact Seg.all _
 have HSG:=hid LZ.left;have Dq:=hid LZ.right;have Bc:Hid ((fs.flatMap (gaf l)).length+(xa4 l (fs.map (vg l))).length=M.length):=hid (by rw [<- hM]; unfold elems; rw [rh]);rw [hM] at HE ⊢;clear hW hJ hR hY h0 hF UU Yc cL cV aK aF ai uB Ox Kz hx1 jY uU AQ hPD LZ hM iL;refine callsIn_of_wp Tryz.func85 rfl trivial ?_ rfl;simp only [Tryz.ntmps85,tB,pH,rK,Nat.reduceAdd,Nat.reduceSub,u7,u6,Pd,wh,tz,rI];have k2:=NL.out
 gi_wp2_with fail
 clear k1 k2 dA hRe
 gi_loopw [17] (fun iv wr=>∃ i:Nat,i<=fs.length/\iv=.int .i64 i/\Hid (J ((fs.take i).flatMap (gaf l)).length wr/\yad T R W1 wr/\za6 T R fs.length wr ((fs.take i).map (vg l)))) (fun iv _=>fs.length - (intOf iv).toNat)
 case atStart=>exact ⟨0,pZ _,rfl,hid ⟨by simpa using J1.out,(yg.xi ND.out.lt (Ext.refl W1)).x R,by simpa using DW.out⟩⟩
 case round =>
  obtain ⟨i,hi,rfl,HI⟩:=hrel
  by_cases af:i < fs.length
  · obtain ⟨hJ,hK,hA⟩:=HI.out;have gX:0 < fs.length:=by omega
    have jB:Fw T wr:=⟨px ND.out.lt hK.size,hK.fresh ND.out.fresh⟩;obtain ⟨D0',c0',e',-,-,aK⟩:=aQ.out.keep hK;injection e' with e1 e2 e3
    subst e1 e3;obtain ⟨ad,C0,j0,k0,C1,j1,k1,rfl,ah,⟨g0,g1,g2,g3⟩,fP⟩:=aK.ym i af;have iG:=hid (HSG.out.flat i af);have jK:=hid (xac (gaf l) fs i af);have hfi:=fE.out fs[i] (pt af);obtain ⟨V,hV⟩:=n_m ((wr.alloc (.cells #[.int .i64 fs[i].lv,.bool fs[i].neg,.slice C0 j0 k0,.slice C1 j1 k1] 33)));have dN:Ext wr V:=by rw [<- hV]; exact (Ext.refl wr).alloc _
    obtain ⟨s0,s1,s2,s3⟩:jb V wr.heap.size fs[i] (.slice C0 j0 k0) (.slice C1 j1 k1):=by rw [<- hV]; exact jb.new wr fs[i] _ _ _
    have cv:V.cell? ⟨BV,0,none⟩=some (.int .i64 l):=((yad.trans hK ((yg.xi jB.lt dN).x R)).vh MX.out HCV.out);have HRE:=hid (qb8 _ hl ag (fP.ext dN) hfi (by omega) (by omega));have DL:=hid (hK.trans ((yg.xi jB.lt dN).x R));have HAV:=hid (hA.keep (yg.xi jB.lt dN) gX);have Ny:=hid (HE.out.ext _ _ _ hJ dN);have EE:=hid (jB.ext dN);have rG:Hid (((fs.take i).map (vg l)).length=i):=hid (by rw [pw,pA]; omega);have xM:Hid ((fs.take i).map (vg l) ++ [vg l fs[i]]=(fs.take (i+1)).map (vg l)):=hid (by rw [pC af,uc]; rfl);have oq:=hid (pt af);have iw:=hid hfi;clear hJ hK hA jB aK ah fP dN hfi HI;generalize fs[i]=f at *;unfold plV at HRE
    gi_wp2_with fail
    clear g0 g1 g2 g3 hV s0 s1 s2 s3;refine ⟨trivial,nJ _,?_⟩;refine (callsIn_wide.2 HRE.out).mono ?_;rintro e V2 ⟨v2,rfl,⟨E0,ec,rfl,Lj,aa1,jZ⟩,x2⟩;obtain ⟨rl,wM⟩:=n_m (vg l f);have MH:=HAV.out.keep (yg.xi EE.out.lt x2) gX;have ZU:ga5 T R V2 (.slice E0 rl.length ec) rl:=by
     rw [wM] at Lj jZ;rw [<- wM];exact ⟨E0,ec,rfl,by rw [wM]; exact Lj,aa1,by rw [wM]; exact jZ.mono fun b hb hq=>⟨ga3 EE.out.lt EE.out.fresh x2 hq hb,by have:=HAV.out.safe.1; omega⟩⟩
    have aV:=MH.set (L:=rl) (by rw [rG.out]; exact af) ZU;rw [rG.out,<- wM,xM.out] at aV;obtain ⟨u,hu⟩:=MH.some_ i af;have huf:=MH.fr i af;have cv2:=(x2.cell (p:=⟨BV,0,none⟩) (MX.out.keep DL.out).1.1).trans cv;have G9:wat T lo V2 (V2.setCell ⟨R,i,none⟩ (.slice E0 (vg l f).length ec)):=⟨R,i,u,E0,_,ec,aaz,MH.safe.2.1,MH.safe.2.2,MH.sl,hu,rfl⟩;have hj3:=HE.out.rel _ _ _ (HE.out.ext _ _ _ Ny.out x2) G9;obtain ⟨V3,LX⟩:=n_m (V2.setCell ⟨R,i,none⟩ (.slice E0 (vg l f).length ec));rw [LX] at aV hj3;obtain ⟨hA3,OZ⟩:=aV;have yP:yad T R W1 V3:=(DL.out.trans ((yg.xi EE.out.lt x2).x R)).trans OZ;have sU:Fw T V3:=⟨px ND.out.lt yP.size,yP.fresh ND.out.fresh⟩;have cv3:V3.cell? ⟨BV,0,none⟩=some (.int .i64 l):=yP.vh MX.out HCV.out;have Iy:Ext V3 V3.drew:=(Ext.refl V3).drew;have ck3:V3.cell? ⟨R,i,none⟩=some (.slice E0 (vg l f).length ec):=by rw [<- LX]; exact pP _ _ _ hu
    have cv4:=(Iy.cell (p:=⟨BV,0,none⟩) (MX.out.keep yP).1.1).trans cv3;have ck4:=(Iy.cell (p:=⟨R,i,none⟩) hA3.safe.1).trans ck3;have QM:uap T V3.drew (.slice E0 (vg l f).length ec) (vg l f):=by
     rw [wM]; exact ((ZU.keep OZ).qaW).keep (yg.xi sU.lt Iy)
    have abY:(mdg l f).toNat<=62:=by have:=HPD.out f oq.out; omega
    have GZ:∀ r ∈ vg l f,Fit r E (D+62):=fun r hr=>(jbk iw.out (by have:B32=4294967296:=rfl; omega) r hr).1.mono (pj _) (by omega)
    have QP:(vg l f).length<=1000000:=by have:=kao (l:=l) (mdg l f).toNat f; unfold vg; omega
    have xN:=hid (qch (k:=0+((fs.take i).flatMap (gaf l)).length) (M:=M) (c:=gag l f) _ hl ag QM HE.out.toEnv (sU.ext Iy) (by rw [ri]; exact HE.out.ext _ _ _ hj3 Iy) iG.out QP GZ (by omega) (by omega) (hid fun r hr=>HP.out r (yab l r) (Or.inl ⟨f,oq.out,hr,rfl⟩)));have HA4:=hid (hA3.keep (yg.xi sU.lt Iy) gX);have HK4:=hid (yP.trans ((yg.xi sU.lt Iy).x R));clear MH ZU x2 jZ G9 hj3 hA3 OZ yP sU Iy QM GZ QP HRE wM abY;rw [ri] at xN;obtain ⟨n0,RH⟩:=n_m (((fs.take i).flatMap (gaf l)).length);rw [RH] at xN jK;obtain ⟨rc,Ec⟩:=n_m (gag l f);have Gg:Hid ((gaf l f).length=((vg l f).flatMap (zac l) ++ tailE l (vg l f) (gag l f)).length):=hid rfl;rw [<- Gg.out] at xN;rw [Ec] at xN ⊢;obtain ⟨rn,QP⟩:=n_m ((vg l f).length);rw [QP] at xN ck3 ck4 Lj LX ⊢;clear RH Ec QP Gg
    gi_wp2_with fail
    clear hu huf cv cv2 LX
    gi_region_with_o (first
     | (go_simp
        (try refine ⟨trivial,?_⟩)
        (try refine ⟨nJ _,?_⟩)
        refine (callsIn_wide.2 xN.out).mono ?_;rintro e W4 ⟨rfl,ry,Ee⟩;have HN:Hid (J ((fs.take (i+1)).flatMap (gaf l)).length W4/\yad T R W1 W4/\za6 T R fs.length W4 ((fs.take (i+1)).map (vg l))):=hid ⟨by rw [jK.out]; exact ry,HK4.out.trans (Ee.x R),HA4.out.keep Ee gX⟩
        clear ry Ee))
    all_goals
     clear cv3 cv4 ck3 ck4 xN
     gi_wp2_with fail
     go_roundw
     case rel=>exact ⟨i+1,by omega,by go_num,HN.out⟩
     case measure=>simp [intOf]; omega
  · obtain rfl:i=fs.length:=by omega
    have hf:=HI.out;rw [pQ] at hf;clear HI;obtain ⟨WA,rfl⟩:∃ x,x=wr:=⟨_,rfl⟩;obtain ⟨hJ,hK,hA⟩:=hf;obtain ⟨Ls,XO⟩:=n_m (fs.map (vg l));have UH:Ls.length=fs.length:=by rw [<- XO,pw]
    have Hz:∀ i (h:i < Ls.length),∃ h':i < fs.length,Ls[i]=vg l fs[i]:=fun i h=>by
     have h':i < fs.length:=by rw [<- UH]; exact h
     subst XO;exact ⟨h',rN _⟩
    rw [XO] at hA Dq Bc;have jB:Fw T WA:=⟨px ND.out.lt hK.size,hK.fresh ND.out.fresh⟩;obtain ⟨n1,sG⟩:=n_m ((fs.flatMap (gaf l)).length);rw [sG] at hJ Dq Bc;rw [ri] at Dq;have vX:=hid UH;have Ac:=hid Hz;have qZ:=hid jB;have HKR:=hid hK;have HAR:=hid hA;have HJR:=hid hJ;have JY:=hA.safe.1;clear hJ hK hA XO UH Hz jB sG
    gi_wp2_with fail
    gi_loopw [43] (fun iv w3=>∃ i:Nat,i<=fs.length/\iv=.int .i64 i/\Hid (J (n1+(((List.range Ls.length).take i).flatMap fun i=>(Ls.drop (i+1)).flatMap (prE l (Ls.getD i []))).length) w3/\yg T WA w3)) (fun iv _=>fs.length - (intOf iv).toNat)
    case atStart=>exact ⟨0,pZ _,rfl,hid ⟨by simpa using HJR.out,yg.xi qZ.out.lt (Ext.refl WA)⟩⟩
    case round =>
     obtain ⟨w3,rfl⟩:∃ x,x=wr:=⟨_,rfl⟩;obtain ⟨i,hi,rfl,HI⟩:=hrel
     by_cases af:i < fs.length
     · obtain ⟨hJ,hK⟩:=HI.out;have gX:0 < fs.length:=by omega
       have Fp:i < Ls.length:=by rw [vX.out]; exact af
       have yO:i < (List.range Ls.length).length:=by rw [tt]; exact Fp
       have hA:=HAR.out.keep hK gX;obtain ⟨vi,hvi,Om⟩:=hA.row i Fp;obtain ⟨Di,ci,rfl,-⟩:=id Om;have iG:=hid (Dq.out.flat i yO);have jK:=hid (xac (fun i=>(Ls.drop (i+1)).flatMap (prE l (Ls.getD i []))) (List.range Ls.length) i yO);rw [tI] at iG jK;have jJ:Ls.getD i []=Ls[i]:=by rw [po,pr Fp]; rfl
       rw [jJ] at iG jK;obtain ⟨Ef,KZ⟩:=Ac.out i Fp;obtain ⟨f,Eh⟩:=n_m (fs[i]);have KX:f ∈ fs:=by rw [<- Eh]; exact pt Ef
       rw [Eh] at KZ;have Wi:Hid (f ∈ fs/\Ls[i]=vg l f/\fs[i]=f):=hid ⟨KX,KZ,Eh⟩;obtain ⟨n2,Ou⟩:=n_m (n1+(((List.range Ls.length).take i).flatMap fun i=>(Ls.drop (i+1)).flatMap (prE l (Ls.getD i []))).length);have Jn:=hid Ou;rw [Ou] at hJ iG;have Be:=hid hJ;have YM:=hid hK;have DT:=hid (qZ.out.keep hK);have HRI:=hid Om.qaW;have HA2:=hid hA;have Yd:Ls[i].length<=62:=by
        rw [KZ];have h1:=kao (l:=l) (mdg l f).toNat f;have h2:=HPD.out f KX;unfold vg; omega
       have HAN:=hid Yd;have EF:Hid ((Ls.drop (i+1)).length=fs.length - (i+1)):=hid (by rw [re,vX.out]);have abk:i+1<=fs.length:=af;clear hJ hK hA Om jJ KX KZ Ou HI Yd Eh;generalize hgA:Ls[i]=A at *;clear hgA;have uK:Hid (∀ w4,J (n2+((Ls.drop (i+1)).flatMap (prE l A)).length) w4->yg T w3 w4->J (n1+(((List.range Ls.length).take (i+1)).flatMap fun i=>(Ls.drop (i+1)).flatMap (prE l (Ls.getD i []))).length) w4/\yg T WA w4):=hid (fun w4 h1 h2=>⟨by rw [jK.out,<- tR,Jn.out]; exact h1,YM.out.trans h2⟩)
       by_cases TJ:i+1=fs.length
       · have Rn:Ls.drop (i+1)=[]:=rT (by rw [EF.out]; omega);have HN:=hid (uK.out w3 (by rw [Rn]; simpa using Be.out) (yg.xi DT.out.lt (Ext.refl w3)));have alE:=hid TJ;clear Rn uK iG jK EF
         gi_wp2_with fail
         clear hvi
         gi_loopw [53] (fun iv w4=>iv=.int .i64 0/\w4=w3) (fun _ _=>0)
         case atStart=>exact ⟨rfl,rfl⟩
         case round =>
          obtain ⟨rfl,rfl⟩:=hrel
          gi_wp2_with fail
          go_roundw
          case rel=>exact ⟨i+1,by omega,by go_num,HN.out⟩
          case measure=>simp [intOf]; omega
       · have lJ:i+1 < fs.length:=by omega
         have Rx:¬ fs.length=i+1:=by omega
         clear TJ
         gi_wp2_with fail
         clear hvi
         gi_loopw [53] (fun iv w4=>∃ j:Nat,j<=fs.length - (i+1)/\iv=.int .i64 j/\Hid (J (n2+(((Ls.drop (i+1)).take j).flatMap (prE l A)).length) w4/\yg T w3 w4)) (fun iv _=>fs.length - (intOf iv).toNat)
         case atStart=>exact ⟨0,pZ _,rfl,hid ⟨by simpa using Be.out,yg.xi DT.out.lt (Ext.refl w3)⟩⟩
         case round =>
          obtain ⟨w4,rfl⟩:∃ x,x=wr:=⟨_,rfl⟩;obtain ⟨j,hj,rfl,rH⟩:=hrel
          by_cases aax:j < fs.length - (i+1)
          · obtain ⟨hJ4,OY⟩:=rH.out;have qQ:i+1+j < Ls.length:=by have:=vX.out; omega
            have hjd:j < (Ls.drop (i+1)).length:=by rw [EF.out]; exact aax
            have hA4:=HA2.out.keep OY gX;obtain ⟨vj,hvj,ZY⟩:=hA4.row (i+1+j) qQ;obtain ⟨Dj,cj,rfl,-⟩:=id ZY;have Jd:=hid (iG.out.flat j hjd);have Jp:=hid (xac (prE l A) (Ls.drop (i+1)) j hjd);rw [wg] at Jd Jp;obtain ⟨SV,FI⟩:=Ac.out (i+1+j) qQ;obtain ⟨f2,FH⟩:=n_m (fs[i+1+j]);have TG:f2 ∈ fs:=by rw [<- FH]; exact pt SV
            rw [FH] at FI;have hBn:Ls[i+1+j].length<=62:=by
             rw [FI];have h1:=kao (l:=l) (mdg l f2).toNat f2;have h2:=HPD.out f2 TG;unfold vg; omega
            have Hq:=uc2 (k:=n2+(((Ls.drop (i+1)).take j).flatMap (prE l A)).length) (M:=M) _ _ (HRI.out.keep OY) ZY.qaW HE.out.toEnv (DT.out.keep OY) hJ4 Jd.out (by have:=HAN.out; omega) (by omega) (hid fun r hr s hs=>HP.out r s (Or.inr ⟨i,i+1+j,af,SV,by omega,by rw [Wi.out.2.2,<- Wi.out.2.1]; exact hr,by rw [FH,<- FI]; exact hs⟩));have zX:=hid Hq;have cv:=((HKR.out.trans (YM.out.x R)).trans (OY.x R)).vh MX.out HCV.out;have HK4:=hid OY;have uN:((i:Int)+1+(j:Int))<=2000:=by omega
            clear hJ4 OY hA4 ZY TG FI hBn Hq rH FH;generalize hgB:Ls[i+1+j]=B at *;clear hgB
            gi_wp2_with fail
            clear hvj cv;refine ⟨trivial,nJ _,?_⟩;refine (callsIn_wide.2 zX.out).mono ?_;rintro e w5 ⟨rfl,hj5,hk5⟩;have HN:Hid (J (n2+(((Ls.drop (i+1)).take (j+1)).flatMap (prE l A)).length) w5/\yg T w3 w5):=hid ⟨by rw [Jp.out,<- tR]; exact hj5,HK4.out.trans hk5⟩;clear hj5 hk5 zX
            gi_wp2_with fail
            go_roundw
            case rel=>exact ⟨j+1,by omega,by go_num,HN.out⟩
            case measure=>simp [intOf]; omega
          · obtain rfl:j=fs.length - (i+1):=by omega
            have hf:=rH.out;rw [<- EF.out,pQ] at hf;have HN:=hid (uK.out w4 hf.1 hf.2);clear rH hf
            gi_wp2_with fail
            go_roundw
            case rel=>exact ⟨i+1,by omega,by go_num,HN.out⟩
            case measure=>simp [intOf]; omega
     · obtain rfl:i=fs.length:=by omega
       have hf:=HI.out;rw [<- vX.out] at hf;have e1:(List.range Ls.length).take Ls.length=List.range Ls.length:=by
        have h9:=pQ (l:=List.range Ls.length)
        rwa [tt] at h9
       rw [e1] at hf;have HJF:Hid (J M.length w3):=hid (by rw [<- Bc.out]; exact hf.1);clear HI hf e1
       gi_wp2_with fail
       go_end0
       exact ⟨⟨_,rfl⟩,HJF.out⟩
end Go.Proofs.YtcepajijiabkmaaGreat
