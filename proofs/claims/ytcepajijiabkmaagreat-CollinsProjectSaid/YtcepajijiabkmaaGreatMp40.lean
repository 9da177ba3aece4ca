/- A range over a function whose elements are made anew, as RangeOk, for iterators that hand the loop's body on to other functions. -/
import Derived.Test.YtcepajijiabkmaaGreatMp37
import Derived.Test.YtcepajijiabkmaaGreatMp39
import Derived.Test.YtcepajijiabkmaaGreatMp35
set_option linter.unusedSimpArgs false
set_option linter.unusedVariables false

namespace Go.Proofs.YtcepajijiabkmaaGreat
open Lib (hid)
open Go.RowKit
def xc3 {α:Type} (n:Nat) (P:Program) (g:Nat) (lb:Array Value) (enc:α->Array Value) (Ok:Nat->α->World->Prop) (Kp Rel:World->World->Prop) (N:Nat) (w:World):Prop:=
 ∀ (l:Nat) (J:Nat->World->Prop) (W:World),Below w.heap.size w W->AbidesFrom W.heap.size J->(∀ k A B,J k A->Rel A B->J k B) ->
   (∀ k x W1,k < N->J k W1->Ok k x W1->∀ m,YieldAt Fence.wide m P l (enc x) W1 fun e W'=>e=.returned (.bool true)/\J (k+1) W'/\Kp W1 W') ->
   J 0 W->CallsIn Fence.wide n P g (#[.func (.yield l) #[] #[]] ++ lb) W fun e W'=>(∃ v,e=.returned v)/\J N W'
theorem zcv {α : Type} {n : Nat} {P : Program} {w : World} {g : Operand} {ps : Array Tmp} {assign body : Code} {Q : Exit -> Act -> World -> Prop} {a : Act}
 (h1:1<=n) {gf:Nat} {lb:Array Value} (hg:a.eval g=.func (.func gf) #[] lb) (eg:∀ args w,(callFunc gf args).run P w=.ok (.enter gf args) w)
 {enc:α->Array Value} {Ok:Nat->α->World->Prop} {Kp Rel:World->World->Prop} {N:Nat} {w0:World} (yL:xc3 (n - 1) P gf lb enc Ok Kp Rel N w0) (hRo:∀ A B,Rel A B->∀ (i:Nat) (o:Obj),A.heap[i]?=some o->o.isCells=false->B.heap[i]?=some o)
 (LY:∀ {A B C:World},Kp A B->Kp B C->Kp A C) (LZ:∀ (W:World) (l:Nat) (o o':Obj),w.heap.size<=l->W.heap[l]?=some o->o.isCells=false->o.isWalk=false->Kp W (W.putObj l o')) (aX:Below w0.heap.size w0 w) (wQ:∀ x,(enc x).size=ps.size)
 (I:Nat->World->Prop) (hI:OwnFrom w.heap.size I) (hRI:∀ k A B,I k A->Rel A B->I k B) (h0:I 0 w) (Ax:Nat->α->Act->World->Prop) (UU:∀ k x a',OwnFrom w.heap.size (fun (_:Unit) W=>Ax k x a' W))
 (kX:∀ (m l k:Nat) (x:α) (W:World) (K:Act->World->Prop),k < N->I k W->Ok k x W->(∀ a' W',KeepsFrom w.heap.size W W'->Kp W W'->Ax k x a' W'->K a' W') ->
   assign.wpIn (Fence.wide.inRound l) m P (Exit.then K (fun _ _ _=>False)) { tmps:=(ps.zip (enc x)).foldl (fun t (p,v)=>t.setIfInBounds p v) a.tmps,defers:=[] } W)
 (sV:∀ (m l k:Nat) (x:α) (a':Act) (W:World),k < N->Ax k x a' W->body.wpIn (Fence.wide.inRound l) m P (ga6 w.heap.size Kp (I (k+1)) W) a' W)
 (iL:∀ (D:Nat) (W:World),w.heap.size<=D->I N W->W.heap[D]?=some (.deferred (some []))->Q .normal { a with defers:={ target:=.collected D,args:=#[] } :: a.defers } W) :
 (Code.rangeFunc g ps assign body).wpIn Fence.wide n P Q a w:=by
 refine wpIn_rangeFunc fun fn uC=>?_
 obtain ⟨B,hB⟩:=n_m (w.heap.size)
 let rc:LoopState->Option Code->Loop:=fun st pe=>{ state:=st,pending:=pe,fn,tmps:=a.tmps,params:=ps,assign,body,defers:=B }
 obtain ⟨V,hV⟩:=n_m ((w.alloc (.deferred (some []))).alloc (.loop (rc .ready none)));have vL:V.heap[B+1]?=some (.loop (rc .ready none)):=by
  rw [<- hV,<- hB];have:=World.alloc_heap_new (w.alloc (.deferred (some []))) (.loop (rc .ready none))
  rwa [tL] at this
 have vD:V.heap[B]?=some (.deferred (some [])):=by
  rw [<- hV,<- hB]; exact (Below.heap_alloc _ _ _ (by simp)).trans (World.alloc_heap_new w _)
 have vI:I 0 V:=by rw [<- hV]; exact hI.alloc _ (hI.alloc _ h0)
 have vB:Below w0.heap.size w0 V:=by
  rw [<- hV]; exact aX.trans ((((Below.refl _ w).alloc (pj _) _).alloc (by simp) _).mono aX.size)
 have vS:V.heap.size=B+2:=by rw [<- hV,<- hB]; simp
 rw [hB] at LZ hI UU kX sV iL
 have walk:∀ {A A':World} {row:Option Nat} {k:Nat} {o:Obj},A.grownBy A' row->(∀ r,row=some r->V.heap.size<=r/\∃ o:Obj,A.heap[r]?=some o/\o.isWalk=true)->A.heap[k]?=some o->o.isWalk=false->A'.heap[k]?=some o:=
  fun jS hr hk ho=>(grownBy_keeps jS (fun r e=>(hr r e).2) hk ho).trans hk
 refine ⟨B+1,[{ target:=.collected B,args:=#[] }],V,{ target:=.fn (.func gf) lb,args:=#[.func (.yield (B+1)) #[] #[]] },V,gf,#[.func (.yield (B+1)) #[] #[]] ++ lb,V,?_,?_,?_,?_,fun _=>h1,?_⟩
 · subst hB; rw [<- hV]; exact run_enterLoop_outer _ _ _ _ _
 · simp only [resolve,hg]; simp [go_sem]
 · intro f' hf'; simp [Target.leads] at hf'; subst hf'; trivial
 · simp [invoke,go_sem,eg]
 · refine (yL (B+1) (fun k W=>I k W/\W.heap[B+1]?=some (.loop (rc .ready none))/\W.heap[B]?=some (.deferred (some []))) V vB (fun k A A' row hs jS hr=>⟨hI k A A' row hs.1 jS (fun r e=>?_),walk jS hr hs.2.1 rfl,walk jS hr hs.2.2 rfl⟩) (fun k A B hs hr=>⟨hRI k A B hs.1 hr,hRo A B hr _ _ hs.2.1 rfl,hRo A B hr _ _ hs.2.2 rfl⟩) ?_ ⟨vI,vL,vD⟩).mono ?_
   · obtain ⟨h2,o,ho,hw⟩:=hr r e;exact ⟨by omega,o,ho,Obj.not_cells_of_walk hw⟩
   · -- a round
     rintro k x W hk ⟨hi,hl,hd⟩ lU m;refine ⟨fn,_,assign,body,run_yield (P:=P) (args:=enc x) hl (wQ x),roundIn_of_wpIn uC (kX m _ k x W _ hk hi lU fun a' Wa SL pq vP=>?_)⟩;have al:=SL.same _ _ (r6 _) hl rfl;have ad:=SL.same _ _ (pj _) hd rfl;have asz:=(rB.1 al).1;refine ⟨_,run_beginRound al rfl,wpIn_mono (sV m _ k x a' _ hk ((UU k x a').putObj (s:=()) _ vP (r6 _) al rfl)) ?_⟩;have bl:(Wa.putObj (B+1) (.loop (rc .busy none))).heap[B+1]?=some (.loop (rc .busy none)):=World.putObj_heap_same asz;have bd:(Wa.putObj (B+1) (.loop (rc .busy none))).heap[B]?=some (.deferred (some [])):=(World.putObj_heap_other (by omega)).trans ad;have bp:Kp Wa (Wa.putObj (B+1) (.loop (rc .busy none))):=LZ _ _ _ _ (r6 _) al rfl rfl;rintro e a3 W3 hp;cases e with
     | normal =>
       obtain ⟨SQ,QV,SY⟩:=hp;have cl:=SQ.same _ _ (r6 _) bl rfl;have cd:=SQ.same _ _ (pj _) bd rfl;have cs:=(rB.1 cl).1;exact ⟨_,_,run_endRound (P:=P) none cl,rfl,⟨hI.putObj _ SY (r6 _) cl rfl,World.putObj_heap_same cs,(World.putObj_heap_other (by omega)).trans cd⟩,LY pq (LY (LY bp QV) (LZ _ _ _ _ (r6 _) cl rfl rfl))⟩
     | ret=>exact hp.elim
     | exit id=>exact hp.elim
     | goto t=>exact hp.elim
     | panic ch=>exact hp.elim
     | outgrown=>exact hp.elim
   · -- behind the iterator
     rintro e W2 ⟨⟨v,rfl⟩,hi,hl,hd⟩;exact ⟨none,_,run_endLoop (P:=P) hl (by simp [rc]),iL B _ (pj _) (hI.putObj _ hi (r6 _) hl rfl) ((World.putObj_heap_other (by omega)).trans hd)⟩
def wad (T:Nat) (W:World) (b:Nat):Prop:=∃ v,W.cell? ⟨T,0,none⟩=some v/\v.ownBlock=some b
structure yg (T : Nat) (A B : World) : Prop where
 size:A.heap.size<=B.heap.size
 obj:∀ (i:Nat) (o:Obj),i ≠ T->¬ wad T A i->A.heap[i]?=some o->o.isCells=true->B.heap[i]?=some o
 own:∀ i,i < A.heap.size->wad T B i->wad T A i
 fresh:(∀ b,wad T A b->b < A.heap.size)->∀ b,wad T B b->b < B.heap.size
 nat:∀ v ds,jc A v ds->jc B v ds
section
variable {T:Nat} {A B C:World}
theorem lt_of_some {W:World} {i:Nat} {o:Obj} (h:W.heap[i]?=some o):i < W.heap.size:=(rB.1 h).1
theorem yg.trans (h:yg T A B) (k:yg T B C):yg T A C:=
 ⟨py h.size k.size,fun i o hT hn hi ho=>k.obj i o hT (fun e=>hn (h.own i (lt_of_some hi) e)) (h.obj i o hT hn hi ho) ho,fun i hi e=>h.own i hi (k.own i (pw hi h.size) e),fun hf=>k.fresh (h.fresh hf),fun v ds hv=>k.nat v ds (h.nat v ds hv)⟩
theorem yg.q9 (hT:T < A.heap.size) (h:Ext A B):yg T A B:=by
 have hc:B.cell? ⟨T,0,none⟩=A.cell? ⟨T,0,none⟩:=h.cell (p:=⟨T,0,none⟩) hT;exact ⟨h.size,fun i o _ _ hi _=>(h.below.block i (lt_of_some hi)).trans hi,fun i _ ⟨v,hv,e⟩=>⟨v,hc.symm.trans hv,e⟩,fun hf b ⟨v,hv,e⟩=>pw (hf b ⟨v,hc.symm.trans hv,e⟩) h.size,fun v ds hv=>hv.ext h⟩
theorem yg.putObj (T:Nat) (W:World) (l:Nat) (o o':Obj) (hT:T ≠ l) (h:W.heap[l]?=some o) (ho:o.isCells=false):yg T W (W.putObj l o'):=by
 obtain ⟨h1,h2,h3⟩:=gp.putObj T W l o o' h ho;have hc:(W.putObj l o').cell? ⟨T,0,none⟩=W.cell? ⟨T,0,none⟩:=pB (a:=⟨T,0,none⟩) (World.putObj_heap_other hT);exact ⟨h1,fun i x hi _ hx hc=>h2 i x hi hx hc,fun i _ ⟨v,hv,e⟩=>⟨v,hc.symm.trans hv,e⟩,fun hf b ⟨v,hv,e⟩=>pw (hf b ⟨v,hc.symm.trans hv,e⟩) h1,h3⟩
def Safe (T:Nat) (W:World) (b:Nat):Prop:=b < W.heap.size/\b ≠ T/\¬ wad T W b
theorem Safe.keep {b:Nat} (h:Safe T A b) (k:yg T A B):Safe T B b:=⟨pw h.1 k.size,h.2.1,fun e=>h.2.2 (k.own b h.1 e)⟩
theorem yg.block {b:Nat} (k:yg T A B) (h:Safe T A b) {i:Nat} {v:Value} (hv:A.cell? ⟨b,i,none⟩=some v):B.heap[b]?=A.heap[b]?:=by
 obtain ⟨o,ho,hc⟩:=cells_of_cell hv;exact (k.obj b o h.2.1 h.2.2 ho hc).trans ho.symm
theorem yg.cell {b i:Nat} {v:Value} (k:yg T A B) (h:Safe T A b) (hv:A.cell? ⟨b,i,none⟩=some v):B.cell? ⟨b,i,none⟩=some v:=(pB (a:=⟨b,i,none⟩) (k.block h hv)).trans hv
theorem yg.vh {a:Addr} {v:Value} (k:yg T A B) (h:Safe T A a.block) (hv:A.cell? a=some v):B.cell? a=some v:=by
 obtain ⟨o,ho,hc⟩:=cells_of_cell hv;exact (pB ((k.obj _ o h.2.1 h.2.2 ho hc).trans ho.symm)).trans hv
end
section
variable {w w':World} {p q:Nat->Prop}
mutual
theorem PlV.jt (hs : w.heap.size <= w'.heap.size) (hn : ∀ v ds, jc w v ds -> jc w' v ds) (hc : ∀ (a : Addr) (v : Value), p a.block -> w.cell? a = some v -> q a.block /\ w'.cell? a = some v) : ∀ (t : Pl) (v : Value), PlV w p t v -> PlV w' q t v
 | .mk l n d cs,v,h=>by
   unfold PlV at h ⊢;obtain ⟨s,A,c,e,h1,h2,h3,h4⟩:=h;exact ⟨s,A,c,e,hn _ _ h1,h2,h3,jd.jt hs hn hc cs A 0 h4⟩
theorem jd.jt (hs : w.heap.size <= w'.heap.size) (hn : ∀ v ds, jc w v ds -> jc w' v ds) (hc : ∀ (a : Addr) (v : Value), p a.block -> w.cell? a = some v -> q a.block /\ w'.cell? a = some v) : ∀ (l : List Pl) (A : Option Addr) (j : Nat), jd w p l A j -> jd w' q l A j
 | [],A,j,h=>by unfold jd; trivial
 | t :: r,A,j,h=>by
   unfold jd at h ⊢;obtain ⟨⟨ad,s,K,e,hb,uZ,⟨k0,k1,k2,k3⟩,h2⟩,h3⟩:=h;have hp:p (ad.add (j * 4)).block:=by rw [ja]; exact uZ
   have c0:=hc _ _ hp k0;have hq:q ad.block:=by have:=c0.1; rwa [ja] at this
   exact ⟨⟨ad,s,K,e,pw hb hs,hq,⟨c0.2,(hc ⟨(ad.add (j * 4)).block,_,none⟩ _ hp k1).2,(hc ⟨(ad.add (j * 4)).block,_,none⟩ _ hp k2).2,(hc ⟨(ad.add (j * 4)).block,_,none⟩ _ hp k3).2⟩,PlV.jt hs hn hc t _ h2⟩,jd.jt hs hn hc r A (j+1) h3⟩
end
end
section
variable {T:Nat} {A B:World}
theorem yg.pl {t:Pl} {v:Value} (k:yg T A B) (h:PlV A (Safe T A) t v):PlV B (Safe T B) t v:=PlV.jt k.size k.nat (fun a v hp hv=>⟨hp.keep k,k.vh hp hv⟩) t v h
theorem yg.qbI {l:List Pl} {D:Option Addr} {j:Nat} (k:yg T A B) (h:jd A (Safe T A) l D j):jd B (Safe T B) l D j:=jd.jt k.size k.nat (fun a v hp hv=>⟨hp.keep k,k.vh hp hv⟩) l D j h
theorem za2 {b:Nat} (hT:T < A.heap.size) (hf:∀ b,wad T A b->b < A.heap.size) (hx:Ext A B) (hb:A.heap.size<=b) (hB:b < B.heap.size):Safe T B b:=
 ⟨hB,by omega,fun ⟨v,hv,e⟩=>by
   have:=hf b ⟨v,(hx.cell (p:=⟨T,0,none⟩) hT).symm.trans hv,e⟩
   omega⟩
theorem jd.xo {W:World} {q:Nat->Prop} {l:List Pl} {D:Option Addr} {j:Nat} (h:jd W q l D j):jd W (fun b=>q b/\b < W.heap.size) l D j:=jd.xl (pj _) (fun _ _ h=>h) (fun b hb hq=>⟨⟨hq,hb⟩,rfl⟩) l D j h
theorem jd.mono {W:World} {q q':Nat->Prop} {l:List Pl} {D:Option Addr} {j:Nat} (h:jd W q l D j) (hq:∀ b,b < W.heap.size->q b->q' b):jd W q' l D j:=jd.xl (pj _) (fun _ _ h=>h) (fun b hb hp=>⟨hq b hb hp,rfl⟩) l D j h
def kao (T:Nat) (W:World) (v:Value) (L:List Pl):Prop:=∃ D c,v=.slice D L.length c/\L.length<=c/\c<=9223372036854775807/\jd W (Safe T W) L D 0
theorem kao.keep {v:Value} {L:List Pl} (h:kao T A v L) (k:yg T A B):kao T B v L:=by
 obtain ⟨D,c,e,h1,h2,h3⟩:=h;exact ⟨D,c,e,h1,h2,k.qbI h3⟩
theorem kao.new {v:Value} {L:List Pl} (hT:T < A.heap.size) (hf:∀ b,wad T A b->b < A.heap.size) (hx:Ext A B) (h:∃ D c,v=.slice D L.length c/\L.length<=c/\c<=9223372036854775807/\jd B (fun b=>A.heap.size<=b) L D 0):kao T B v L:=by
 obtain ⟨D,c,e,h1,h2,h3⟩:=h;exact ⟨D,c,e,h1,h2,h3.mono fun b hb hq=>za2 hT hf hx hq hb⟩
end
def FS (T base:Nat) (W:World) (acc:List Pl):Prop:=T < base/\base<=W.heap.size/\∃ v,W.heap[T]?=some (.cells #[v] 31 (0,0))/\jg base (fun b=>base<=b) W v acc
section
variable {T base:Nat} {W W':World} {acc:List Pl}
theorem FS.fresh (h:FS T base W acc):∀ b,wad T W b->b < W.heap.size:=fun b ⟨v,hv,e⟩=>by
 obtain ⟨h1,h2,u,hu,hq⟩:=h;rw [box1 hu] at hv;injection hv with hv
 subst hv;exact (hq.own e).2
theorem FS.lt (h:FS T base W acc):T < W.heap.size:=pw h.1 h.2.1
theorem FS.ext (h:FS T base W acc) (hx:Ext W W'):FS T base W' acc:=by
 obtain ⟨h1,h2,u,hu,hq⟩:=h;exact ⟨h1,py h2 hx.size,u,(hx.below.block T (by omega)).trans hu,hq.ext hx⟩
theorem jg.jt {q:Nat->Prop} {v:Value} {l:List Pl} (h:jg base q W v l) (hs:W.heap.size<=W'.heap.size) (hn:∀ v ds,jc W v ds->jc W' v ds) (ho:∀ (i:Nat) (o:Obj),W.heap[i]?=some o->o.isCells=true->W'.heap[i]?=some o):jg base q W' v l:=by
 obtain ⟨rs,e,h2,h3⟩:=h;refine ⟨rs,e,h2.xl fun R hR=>?_,fun r hr=>⟨(h3 r hr).1,PlV.jt hs hn (fun a v hp hv=>⟨hp,?_⟩) _ _ (h3 r hr).2⟩⟩
 · obtain ⟨cur,t,fr,hc⟩:=yaf h2.1 R hR;rw [hc]; exact ho R _ hc rfl
 · obtain ⟨o,hob,Hf⟩:=cells_of_cell hv;exact (pB ((ho _ o hob Hf).trans hob.symm)).trans hv
theorem FS.kept {row:Option Nat} (h:FS T base W acc) (hg:W.grownBy W' row) (hr:∀ r,row=some r->∃ o:Obj,W.heap[r]?=some o/\o.isCells=false):FS T base W' acc:=by
 obtain ⟨h1,h2,u,hu,hq⟩:=h;refine ⟨h1,py h2 hg.size,u,cells_kept hg hr hu,hq.jt hg.size (fun v ds hv=>kat hg hr hv) fun i o hi hc=>?_⟩;obtain ⟨c,t,f,rfl⟩:∃ c t f,o=.cells c t f:=by cases o <;> simp_all [Obj.isCells]
 exact cells_kept hg hr hi
end
section
variable {W:World} {q:Nat->Prop} {R:Nat}
mutual
theorem PlV.apart (hR : ∀ j x, W.cell? ⟨R, j, none⟩ = some x -> ∃ D n c, x = .slice D n c) : ∀ (t : Pl) (v : Value), PlV W q t v -> PlV W (fun b => q b /\ b ≠ R) t v
 | .mk l n d cs,v,h=>by
   unfold PlV at h ⊢;obtain ⟨s,A,c,e,h1,h2,h3,h4⟩:=h;exact ⟨s,A,c,e,h1,h2,h3,jd.apart hR cs A 0 h4⟩
theorem jd.apart (hR : ∀ j x, W.cell? ⟨R, j, none⟩ = some x -> ∃ D n c, x = .slice D n c) : ∀ (l : List Pl) (A : Option Addr) (j : Nat), jd W q l A j -> jd W (fun b => q b /\ b ≠ R) l A j
 | [],A,j,h=>by unfold jd; trivial
 | t :: r,A,j,h=>by
   unfold jd at h ⊢;obtain ⟨⟨ad,s,K,e,hb,uZ,⟨k0,k1,k2,k3⟩,h2⟩,h3⟩:=h;refine ⟨⟨ad,s,K,e,hb,⟨uZ,fun e=>?_⟩,⟨k0,k1,k2,k3⟩,PlV.apart hR t _ h2⟩,jd.apart hR r A (j+1) h3⟩;obtain ⟨D,n,c,hx⟩:=hR ((ad.add (j * 4)).off+1) _ (by rw [ja,e] at k1; exact k1);cases hx
end
end
def vas (T lo:Nat) (A B:World):Prop:=∃ R i u D n c,lo<=R/\R ≠ T/\¬ wad T A R/\(∀ j x,A.cell? ⟨R,j,none⟩=some x->∃ D n c,x=.slice D n c)/\A.cell? ⟨R,i,none⟩=some u/\B=A.setCell ⟨R,i,none⟩ (.slice D n c)
theorem vas.nat {T lo:Nat} {A B:World} (h:vas T lo A B):∀ v ds,jc A v ds->jc B v ds:=by
 obtain ⟨R,i,u,D,n,c,-,-,-,h4,h5,rfl⟩:=h;obtain ⟨_,_,_,rfl⟩:=h4 i u h5;exact fun v ds hv=>hv.box h5 rfl _
theorem vas.other {T lo:Nat} {A B:World} (h:vas T lo A B):∀ (i:Nat) (o:Obj),A.heap[i]?=some o->o.isCells=false->B.heap[i]?=some o:=by
 obtain ⟨R,i,u,D,n,c,-,-,-,h4,h5,rfl⟩:=h;intro k o hk ho;rw [Below.heap_setCell _ _ _ k (fun e=>?_)]; exact hk;obtain ⟨o',Ol,lD⟩:=cells_of_cell h5;have e':k=R:=e;rw [e',Ol] at hk;injection hk with hk
 rw [hk,ho] at lD;cases lD
theorem vas.ext {T lo:Nat} {w A B:World} (h:vas T lo A B) (hx:Ext w A) (hlo:w.heap.size<=lo):Ext w B:=by
 obtain ⟨R,i,u,D,n,c,h1,-,-,h4,h5,rfl⟩:=h;exact hx.setCell (py hlo h1) _
theorem vas.keep {T lo:Nat} {A B:World} (h:vas T lo A B):(∀ b,wad T B b ↔ wad T A b)/\A.heap.size=B.heap.size:=by
 obtain ⟨R,i,u,D,n,c,-,h2,-,h4,h5,rfl⟩:=h;have hc:(A.setCell ⟨R,i,none⟩ (.slice D n c)).cell? ⟨T,0,none⟩=A.cell? ⟨T,0,none⟩:=by rw [ph _ _ _ _ (by intro e; injection e with e; exact h2 e)]
 exact ⟨fun b=>by unfold wad; rw [hc],by simp [World.setCell]⟩
theorem FS.rel {T base lo:Nat} {W W':World} {acc:List Pl} (h:FS T base W acc) (hr:vas T lo W W'):FS T base W' acc:=by
 have hn:=hr.nat;have hk:=hr.keep.2;obtain ⟨R,i,u,D,n,c,h1,h2,h3,h4,h5,rfl⟩:=hr;obtain ⟨g1,g2,v,hv,hq⟩:=h;have hb:∀ k,k ≠ R->(W.setCell ⟨R,i,none⟩ (.slice D n c)).heap[k]?=W.heap[k]?:=fun k hk=>Below.heap_setCell _ _ _ k hk
 refine ⟨g1,by omega,v,(hb T (fun e=>h2 e.symm)).trans hv,?_⟩;obtain ⟨rs,e,q2,q3⟩:=hq;refine ⟨rs,e,q2.xl fun S hS=>hb S (fun e=>h3 ⟨v,box1 hv,by rw [<- e]; exact hS⟩),fun r hr=>⟨(q3 r hr).1,?_⟩⟩;exact PlV.zd (by omega) hn (fun b _ hq=>⟨hq.1,hb b hq.2⟩) (PlV.apart h4 _ _ (q3 r hr).2)
structure yac (T R : Nat) (A B : World) : Prop where
 size:A.heap.size<=B.heap.size
 obj:∀ (i:Nat) (o:Obj),i ≠ T->i ≠ R->¬ wad T A i->A.heap[i]?=some o->o.isCells=true->B.heap[i]?=some o
 own:∀ i,i < A.heap.size->wad T B i->wad T A i
 fresh:(∀ b,wad T A b->b < A.heap.size)->∀ b,wad T B b->b < B.heap.size
 nat:∀ v ds,jc A v ds->jc B v ds
section
variable {T R:Nat} {A B C:World}
theorem yac.trans (h:yac T R A B) (k:yac T R B C):yac T R A C:=
 ⟨py h.size k.size,fun i o hT hR hn hi ho=>k.obj i o hT hR (fun e=>hn (h.own i (lt_of_some hi) e)) (h.obj i o hT hR hn hi ho) ho,fun i hi e=>h.own i hi (k.own i (pw hi h.size) e),fun hf=>k.fresh (h.fresh hf),fun v ds hv=>k.nat v ds (h.nat v ds hv)⟩
theorem yg.x (h:yg T A B) (R:Nat):yac T R A B:=⟨h.size,fun i o hT _ hn hi ho=>h.obj i o hT hn hi ho,h.own,h.fresh,h.nat⟩
theorem yac.set {i:Nat} {u:Value} {D:Option Addr} {n c:Nat} (hT:R ≠ T) (hu:A.cell? ⟨R,i,none⟩=some u) (hd:jo u=false):yac T R A (A.setCell ⟨R,i,none⟩ (.slice D n c)):=by
 have hc:(A.setCell ⟨R,i,none⟩ (.slice D n c)).cell? ⟨T,0,none⟩=A.cell? ⟨T,0,none⟩:=by rw [ph _ _ _ _ (by intro e; injection e with e; exact hT e)]
 have hs:(A.setCell ⟨R,i,none⟩ (.slice D n c)).heap.size=A.heap.size:=by simp [World.setCell]
 exact ⟨by omega,fun k o _ hR _ hk _=>by rw [Below.heap_setCell _ _ _ k hR]; exact hk,fun k _ ⟨v,hv,e⟩=>⟨v,hc ▸ hv,e⟩,fun hf b ⟨v,hv,e⟩=>by rw [hs]; exact hf b ⟨v,hc ▸ hv,e⟩,fun v ds hv=>hv.box hu hd _⟩
def zau (T R:Nat) (W:World) (b:Nat):Prop:=Safe T W b/\b ≠ R
theorem zau.keep {b:Nat} (h:zau T R A b) (k:yac T R A B):zau T R B b:=⟨⟨pw h.1.1 k.size,h.1.2.1,fun e=>h.1.2.2 (k.own b h.1.1 e)⟩,h.2⟩
theorem yac.vh {a:Addr} {v:Value} (k:yac T R A B) (h:zau T R A a.block) (hv:A.cell? a=some v):B.cell? a=some v:=by
 obtain ⟨o,ho,hc⟩:=cells_of_cell hv;exact (pB ((k.obj _ o h.1.2.1 h.2 h.1.2.2 ho hc).trans ho.symm)).trans hv
theorem yac.qbI {l:List Pl} {D:Option Addr} {j:Nat} (k:yac T R A B) (h:jd A (zau T R A) l D j):jd B (zau T R B) l D j:=jd.jt k.size k.nat (fun a v hp hv=>⟨hp.keep k,k.vh hp hv⟩) l D j h
end
def za4 (T R:Nat) (W:World) (v:Value) (L:List Pl):Prop:=∃ D c,v=.slice D L.length c/\L.length<=c/\c<=9223372036854775807/\jd W (zau T R W) L D 0
theorem za4.keep {T R:Nat} {A B:World} {v:Value} {L:List Pl} (h:za4 T R A v L) (k:yac T R A B):za4 T R B v L:=by
 obtain ⟨D,c,e,h1,h2,h3⟩:=h;exact ⟨D,c,e,h1,h2,k.qbI h3⟩
theorem za4.qaV {T R:Nat} {A:World} {v:Value} {L:List Pl} (h:za4 T R A v L):kao T A v L:=by
 obtain ⟨D,c,e,h1,h2,h3⟩:=h;exact ⟨D,c,e,h1,h2,h3.mono fun b _ hb=>hb.1⟩
end Go.Proofs.YtcepajijiabkmaaGreat

namespace Go.Proofs.YtcepajijiabkmaaGreat
open Lib (hid)
def snc (l:Sp):Nat:=l.foldl (fun a x=>Nat.gcd a x.1.natAbs) 0
theorem yct {l:Sp} {k:Nat} (hk:k < l.length):snc (l.take (k+1))=Nat.gcd (snc (l.take k)) l[k].1.natAbs:=by
 unfold snc;rw [pC hk,List.foldl_append]; rfl
theorem ybu : ∀ (l : Sp) (a : Nat), l.foldl (fun a x => Nat.gcd a x.1.natAbs) a ∣ a /\ ∀ x ∈ l, l.foldl (fun a x => Nat.gcd a x.1.natAbs) a ∣ x.1.natAbs
 | [],a=>⟨Nat.dvd_refl a,fun x hx=>by cases hx⟩
 | y :: r,a=>by
   obtain ⟨h1,h2⟩:=ybu r (Nat.gcd a y.1.natAbs);rw [Sn];refine ⟨Nat.dvd_trans h1 (Nat.gcd_dvd_left _ _),fun x hx=>?_⟩;rcases pQ.1 hx with rfl | hx
   · exact Nat.dvd_trans h1 (Nat.gcd_dvd_right _ _)
   · exact h2 x hx
theorem ubk {l:Sp}:∀ x ∈ l,snc l ∣ x.1.natAbs:=(ybu l 0).2
theorem jc5 {l:Sp} {x:Int × Mo} (hx:x ∈ l) (h0:x.1 ≠ 0):0 < snc l:=Nat.pos_of_dvd_of_pos (ubk x hx) (by omega)
theorem xck {l:Sp} {x:Int × Mo} (hx:x ∈ l) (h0:x.1 ≠ 0):snc l<=x.1.natAbs:=Nat.le_of_dvd (by omega) (ubk x hx)
theorem wc9 : ∀ (l : Sp) (N : Nat), (∀ x ∈ l, x.1.natAbs <= N) -> snc l <= N
 | l,N,h=>by
   by_cases hx:∃ x ∈ l,x.1 ≠ 0
   · obtain ⟨x,hx,h0⟩:=hx;exact py (xck hx h0) (h x hx)
   · have h0:∀ x ∈ l,x.1.natAbs=0:=fun x iY=>by
      have:¬ x.1 ≠ 0:=fun h=>hx ⟨x,iY,h⟩
      omega
     have:∀ (l:Sp),(∀ x ∈ l,x.1.natAbs=0)->l.foldl (fun a x=>Nat.gcd a x.1.natAbs) 0=0:=by
      intro l
      induction l with
      | nil=>intro _; rfl
      | cons y r ih =>
        intro h;rw [Sn,h y r5];exact ih fun x hx=>h x (rz _ hx)
     unfold snc;rw [this l h0]; omega
def sdv : Sp -> Int
 | []=>1
 | x :: r=>if x.1 < 0 then -(snc (x :: r):Int) else (snc (x :: r):Int)
def zab (d:Int) (l:Sp):Sp:=l.map fun x=>(x.1.tdiv d,x.2)
def ssn (l:Sp):Sp:=zab (sdv l) l
theorem wbk {l:Sp} (h:l ≠ []):(sdv l).natAbs=snc l:=by
 cases l with
 | nil=>exact absurd rfl h
 | cons x r =>
   show (if x.1 < 0 then -(snc (x :: r):Int) else (snc (x :: r):Int)).natAbs=snc (x :: r)
   split
   · rw [Int.natAbs_neg,uL]
   · rw [uL]
theorem gbk {l:Sp}:∀ x ∈ l,sdv l ∣ x.1:=fun x hx=>by
 rw [<- Int.natAbs_dvd_natAbs,wbk (fun e=>by rw [e] at hx; cases hx)];exact ubk x hx
theorem zda {l:Sp} (h:∀ x ∈ l,x.1 ≠ 0):sdv l ≠ 0:=by
 cases l with
 | nil=>decide
 | cons x r =>
   have h1:=jc5 (l:=x :: r) (x:=x) r5 (h x r5);have h2:=wbk (l:=x :: r) (by simp);omega
theorem ybl : ∀ l : Sp, yt l -> ∀ x ∈ l, x.1 ≠ 0
 | [],_,x,hx=>by cases hx
 | (z,m) :: r,h,x,hx=>by
   unfold yt at h;rcases pQ.1 hx with rfl | hx
   · exact h.1
   · exact ybl r h.2.2 x hx
theorem vbd {d:Int} {l:Sp} {x:Int × Mo} (h:x ∈ zab d l):∃ y ∈ l,x=(y.1.tdiv d,y.2):=by
 unfold zab at h;obtain ⟨y,hy,e⟩:=pZ.1 h;exact ⟨y,hy,e.symm⟩
theorem xc4 {a d:Int} (ha:a ≠ 0) (h:d ∣ a):a.tdiv d ≠ 0:=fun e=>ha (by have:=Int.tdiv_mul_cancel h; rw [e] at this; omega)
theorem kbu {d : Int} : ∀ l : Sp, yt l -> (∀ x ∈ l, d ∣ x.1) -> yt (zab d l)
 | [],_,_=>by trivial
 | (z,m) :: r,h,hd=>by
   have h':=h;unfold yt at h';have e:zab d ((z,m) :: r)=(z.tdiv d,m) :: zab d r:=rfl;rw [e];unfold yt;refine ⟨xc4 h'.1 (hd (z,m) r5),fun x hx=>?_,kbu r h'.2.2 fun x hx=>hd x (rz _ hx)⟩;obtain ⟨y,hy,rfl⟩:=vbd hx;exact h'.2.1 y hy
theorem jbu (ρ : Int -> Rat) {d : Int} : ∀ l : Sp, (∀ x ∈ l, d ∣ x.1) -> xn ρ (zab d l) * (d : Rat) = xn ρ l
 | [],_=>by simp [zab,xn]
 | (z,m) :: r,hd=>by
   have e:zab d ((z,m) :: r)=(z.tdiv d,m) :: zab d r:=rfl;have ih:=jbu ρ r fun x hx=>hd x (rz _ hx)
   have h1:(z:Rat)=((z.tdiv d:Int):Rat) * (d:Rat):=by
    have:=Int.tdiv_mul_cancel (hd (z,m) r5);rw [<- Rat.intCast_mul,this]
   rw [e];simp only [xn];rw [<- ih,h1]
   grind
theorem ubn {d : Int} : ∀ l : Sp, zg (zab d l) <= zg l
 | []=>pj _
 | (z,m) :: r=>by
   have e:zab d ((z,m) :: r)=(z.tdiv d,m) :: zab d r:=rfl;rw [e];simp only [zg];have:=ubn (d:=d) r;have:(z.tdiv d).natAbs<=z.natAbs:=by rw [Int.natAbs_tdiv]; exact Nat.div_le_self _ _
   omega
theorem gc4 {l:Sp} (h:yt l):yt (ssn l):=kbu l h gbk
def snP (p:Pl):Pl:=Pl.jz (ssn p.sp)
theorem vbt (p:Pl):∀ x ∈ ssn p.sp,x.2.qe:=fun x hx=>by
 obtain ⟨y,hy,rfl⟩:=vbd hx;exact p.kI y hy
theorem qck (p:Pl):(snP p).sp=ssn p.sp:=(Pl.Kx (gc4 p.ki) (vbt p) fun ρ=>by unfold snP; rw [Pl.ka ρ (vbt p)]).symm
theorem jaz (p:Pl):(snP p).Can:=Pl.jj _
theorem kc5 (ρ:Int->Rat) (p:Pl):(snP p).val ρ * (sdv p.sp:Rat)=p.val ρ:=by
 unfold snP;rw [Pl.ka ρ (vbt p),<- Pl.Kc ρ p];exact jbu ρ p.sp gbk
theorem ual {p:Pl} {E D:Nat} (h:Fit p E D):Fit (snP p) E D:=
 ⟨jaz p,Pl.vA fun x hx=>by obtain ⟨y,hy,rfl⟩:=vbd hx; exact h.qaA y hy,sw (Pl.kA _) (sw (ubn _) h.vy)⟩
def kac (l:Int) (r:Pl):List Pl:=qo l r :: wu l r (jac l r)
def wak (l:Int) (f:Pl):List Pl:=(uh l f).flatMap (kac l) ++ if (uh l f).length=0\/qak l f=true then [] else [ji l 0 ((uh l f).getD 0 Pl.zero)]
def prE (l:Int) (a b:List Pl):List Pl:=a.flatMap fun r=>b.flatMap fun s=>wu l r s
def ybe (l:Int) (Ls:List (List Pl)):List Pl:=(List.range Ls.length).flatMap fun i=>(Ls.drop (i+1)).flatMap (prE l (Ls.getD i []))
def elems (l:Int) (fs:List Pl):List Pl:=fs.flatMap (wak l) ++ ybe l (fs.map (uh l))
def Seg {α:Type} (M:List α) (k:Nat) (L:List α):Prop:=∃ a b,M=a ++ (L ++ b)/\a.length=k
theorem Seg.get {α:Type} {M:List α} {k:Nat} {L:List α} (h:Seg M k L) (j:Nat) (hj:j < L.length):∃ h':k+j < M.length,M[k+j]=L[j]:=by
 obtain ⟨a,b,rfl,rfl⟩:=h;refine ⟨by simp only [ra]; omega,?_⟩;rw [tB (by omega)];simp only [P4];rw [ud hj]
theorem Seg.all {α:Type} (M:List α):Seg M 0 M:=⟨[],[],by simp,rfl⟩
theorem Seg.left {α:Type} {M:List α} {k:Nat} {L R:List α} (h:Seg M k (L ++ R)):Seg M k L:=by
 obtain ⟨a,b,rfl,e⟩:=h;exact ⟨a,R ++ b,by simp,e⟩
theorem Seg.right {α:Type} {M:List α} {k:Nat} {L R:List α} (h:Seg M k (L ++ R)):Seg M (k+L.length) R:=by
 obtain ⟨a,b,rfl,e⟩:=h;exact ⟨a ++ L,b,by simp,by rw [ra,e]⟩
noncomputable def putL (acc:List Pl) (p:Pl):List Pl:=if p.lv=0 then acc else if acc.any (qE (snP p))=true then acc else acc ++ [snP p]
noncomputable def putA (acc:List Pl) (l:List Pl):List Pl:=l.foldl putL acc
noncomputable def dF (l:Int) (fs:List Pl):List Pl:=putA [] (elems l fs)
end Go.Proofs.YtcepajijiabkmaaGreat

set_option maxRecDepth 100000
set_option maxHeartbeats 8000000
namespace Go.Proofs.YtcepajijiabkmaaGreat
open Lib (hid)
open Go.RowKit Go.Shelf
attribute [local go_sem] Oper.semAt_some
structure Env (T lp : Nat) (J : Nat -> World -> Prop) (M : List Pl) : Prop where
 ext:∀ k W W',J k W->Ext W W'->J k W'
 step:∀ k v W,(h:k < M.length)->J k W->(∃ q,PlV W q M[k] v)->∀ m,YieldAt Fence.wide m Tryz.prog lp #[v] W fun e W'=>e=.returned (.bool true)/\J (k+1) W'/\yg T W W'
structure Fw (T : Nat) (W : World) : Prop where
 lt:T < W.heap.size
 fresh:∀ b,wad T W b->b < W.heap.size
theorem Fw.keep {T:Nat} {A B:World} (h:Fw T A) (k:yg T A B):Fw T B:=⟨pw h.lt k.size,k.fresh h.fresh⟩
theorem Fw.ext {T:Nat} {A B:World} (h:Fw T A) (hx:Ext A B):Fw T B:=h.keep (yg.q9 h.lt hx)
def yc2 (J:Nat->World->Prop) (T k:Nat) (w:World) (e:Ending) (w':World):Prop:=e=.returned (.bool true)/\J k w'/\yg T w w'
theorem ka4 {w : World} {T lp k : Nat} {J : Nat -> World -> Prop} {M : List Pl} {r s : Pl} {l : Int} {L : List Pl} (v0 v1 : Value) {q0 q1 : Nat -> Prop} (h0 : PlV w q0 r v0) (h1 : PlV w q1 s v1) (hE : Env T lp J M) (hF : Fw T w) (hJ : J k w) (hS : Seg M k L) (hn : L.length <= 1000)
 (HP:Hid (∀ W',Ext w W'->Calls Tryz.prog 138 #[v0,v1,.int .i64 l] W' (yai (fun b=>W'.heap.size<=b) L W'))) :
 Calls Tryz.prog 112 #[v0,v1,.int .i64 l,.func (.yield lp) #[] #[]] w (yc2 J T (k+L.length) w):=by
 have HE:=hid hE;have xY:=hid hF;have HJ:=hid hJ;have HS:=hid hS;have nH:∀ k:Nat,(Fence.wide.depth.isSome=true->1<=k):=fun k h=>by cases h
 clear hE hF hJ hS;have H0:=hid h0;have H1:=hid h1;obtain ⟨A0,m0,e0,B0,f0,rfl,-⟩:=h0.open_;obtain ⟨A1,m1,e1,B1,f1,rfl,-⟩:=h1.open_;obtain ⟨Ej,W,fV,jK,iT,aC,bW,hx1,aX,bF⟩:=b_2 w r s (.slice A0 m0 e0) (.slice B0 r.cs.length f0) (.slice A1 m1 e1) (.slice B1 s.cs.length f1);have HX:=hid (aC.trans hx1);have dJ:=hid aX;have dH:=hid bF;have fO:W.heap.size=w.heap.size+1+1:=bW;clear h0 h1 aC hx1 aX bF;obtain ⟨b0,b1,b2,b3⟩:=dJ.out;obtain ⟨d0,d1,d2,d3⟩:=dH.out;unfold plV at HP ⊢;refine (callsIn_wide (n:=5)).1 ?_;refine callsIn_of_wp Tryz.func112 rfl trivial ?_ rfl;simp only [Tryz.ntmps112,tP,pL,r8,Nat.reduceAdd,Nat.reduceSub,uW,uR,Pb,we,tI,rI]
 gi_wp2_with fail
 clear fV jK;clear b0 b1 b2 b3 d0 d1 d2 d3;refine ⟨trivial,?_⟩;refine (callsIn_wide.2 (HP.out _ HX.out)).mono ?_;rintro e w1 ⟨vr,rfl,Qd,x1⟩;have X1:=hid (HX.out.trans x1);obtain ⟨D0,dc,rfl,bZ,dO,aK⟩:=Qd.at_;have Pv:Hid (kao T w1 (.slice D0 L.length dc) L):=hid (kao.new (xY.out.ext HX.out).lt (xY.out.ext HX.out).fresh x1 ⟨D0,dc,rfl,bZ,dO,aK⟩);clear Qd x1 aK HP iT bW fO
 gi_wp2_with fail
 gi_loopw [22] (fun iv wr=>∃ j:Nat,j<=L.length/\iv=.int .i64 j/\Hid (J (k+j) wr/\yg T w wr/\kao T wr (.slice D0 L.length dc) L)) (fun iv _=>L.length - (intOf iv).toNat)
 case atStart=>exact ⟨0,pS _,rfl,hid ⟨HE.out.ext _ _ _ HJ.out X1.out,yg.q9 xY.out.lt X1.out,Pv.out⟩⟩
 case round =>
  obtain ⟨j,hj,rfl,HI⟩:=hrel
  by_cases af:j < L.length
  · obtain ⟨hJ,hK,D0',dc',e',-,-,aK⟩:=HI.out;injection e' with e1 e2 e3
    subst e1 e3;obtain ⟨ad,C0,j0,k0,C1,j1,k1,rfl,ah,⟨g0,g1,g2,g3⟩,fP⟩:=aK.ym j af;obtain ⟨Ht,IA⟩:=HS.out.get j af;have jC:=xY.out.keep hK;obtain ⟨V,hV⟩:=n_m ((wr.alloc (.cells #[.int .i64 L[j].lv,.bool L[j].neg,.slice C0 j0 k0,.slice C1 j1 k1] 33)));have dM:Ext wr V:=by rw [<- hV]; exact (Ext.refl wr).alloc _
    have dV:=HE.out.step (k+j) _ V Ht (HE.out.ext _ _ _ hJ dM) ⟨_,by rw [IA]; exact fP.ext dM⟩;obtain ⟨s0,s1,s2,s3⟩:jb V wr.heap.size L[j] (.slice C0 j0 k0) (.slice C1 j1 k1):=by rw [<- hV]; exact jb.new wr L[j] _ _ _
    obtain ⟨fn,tmps,assign,body,hy,zS⟩:=dV 4;have qX:=hid zS;have DI:=hid (hK.trans (yg.q9 jC.lt dM));have HRV:=hid (HI.out.2.2.keep (yg.q9 jC.lt dM));unfold plV at hy;clear zS dV dM hJ hK aK ah fP Ht IA jC;generalize L[j]=c at *
    gi_wp2_with fail
    clear g0 g1 g2 g3 hV s0 s1 s2 s3;refine qX.out.mono ?_;rintro e W2 ⟨rfl,II,IG⟩;have HN:Hid (J (k+(j+1)) W2/\yg T w W2/\kao T W2 (.slice (some ad) L.length dc) L):=hid ⟨by rw [<- tO]; exact II,DI.out.trans IG,HRV.out.keep IG⟩;clear II IG qX hy HI
    gi_wp2_with fail
    go_roundw
    case rel=>exact ⟨j+1,by omega,by go_num,HN.out⟩
    case measure=>simp [intOf]; omega
  · obtain rfl:j=L.length:=by omega
    have hf:=HI.out;clear HI
    gi_wp2_with fail
    exact bodyPost_ret (v:=.bool true) (by simp [results,Tryz.results112,go_sem]) rfl ⟨rfl,hf.1,hf.2.1⟩
end Go.Proofs.YtcepajijiabkmaaGreat

namespace Go.Proofs.YtcepajijiabkmaaGreat
open Lib (hid)
open Go.RowKit Go.Shelf
attribute [local go_sem] Oper.semAt_some
theorem xab {α β:Type} (f:α->List β) (A:List α) (i:Nat) (hi:i < A.length):((A.take (i+1)).flatMap f).length=((A.take i).flatMap f).length+(f A[i]).length:=by
 rw [pC hi,S8,ra]; simp
theorem Seg.flat {α β:Type} {M:List β} {k:Nat} {f:α->List β} {A:List α} (h:Seg M k (A.flatMap f)) (i:Nat) (hi:i < A.length):Seg M (k+((A.take i).flatMap f).length) (f A[i]):=by
 have e:A.flatMap f=(A.take i).flatMap f ++ (f A[i] ++ (A.drop (i+1)).flatMap f):=by
  conv=>lhs; rw [<- wj i A,S8,r9 hi,th]
 rw [e] at h;exact h.right.left
theorem wcv {w : World} {T lp k : Nat} {J : Nat -> World -> Prop} {M : List Pl} {A B : List Pl} {l : Int} (va vb : Value) (ha : kao T w va A) (hb : kao T w vb B) (hE : Env T lp J M) (hF : Fw T w) (hJ : J k w) (hS : Seg M k (prE l A B)) (Yb : A.length <= 1000000) (hBn : B.length <= 1000000)
 (HP:Hid (∀ r ∈ A,∀ s ∈ B,(wu l r s).length<=1000/\∀ W' v0 v1 q0 q1,PlV W' q0 r v0->PlV W' q1 s v1->Calls Tryz.prog 138 #[v0,v1,.int .i64 l] W' (yai (fun b=>W'.heap.size<=b) (wu l r s) W'))) :
 Calls Tryz.prog 88 #[va,vb,.int .i64 l,.func (.yield lp) #[] #[]] w (yc2 J T (k+(prE l A B).length) w):=by
 have HE:=hid hE;have xY:=hid hF;have HJ:=hid hJ;have HS:=hid hS;have HA:=hid ha;have HB:=hid hb;obtain ⟨D0,c0,rfl,bZ,dO,-⟩:=ha;obtain ⟨E0,d0,rfl,eH,uF,-⟩:=hb;clear hE hF hJ hS;refine (callsIn_wide (n:=5)).1 ?_;refine callsIn_of_wp Tryz.func88 rfl trivial ?_ rfl;simp only [Tryz.ntmps88,tP,pL,r8,Nat.reduceAdd,Nat.reduceSub,uW,uR,Pb,we,tI,rI]
 gi_wp2_with fail
 gi_loopw [15] (fun iv wr=>∃ i:Nat,i<=A.length/\iv=.int .i64 i/\Hid (J (k+(prE l (A.take i) B).length) wr/\yg T w wr)) (fun iv _=>A.length - (intOf iv).toNat)
 case atStart=>exact ⟨0,pS _,rfl,hid ⟨by simpa [prE] using HJ.out,yg.q9 xY.out.lt (Ext.refl w)⟩⟩
 case round =>
  obtain ⟨i,hi,rfl,HI⟩:=hrel
  by_cases af:i < A.length
  · obtain ⟨hJ,hK⟩:=HI.out;have jC:=xY.out.keep hK;obtain ⟨D0',c0',e',-,-,aK⟩:=HA.out.keep hK;injection e' with e1 e2 e3
    subst e1 e3;obtain ⟨ad,C0,j0,k0,C1,j1,k1,rfl,ah,⟨g0,g1,g2,g3⟩,fP⟩:=aK.ym i af;have iD:=hid (HS.out.flat i af);have iF:=hid (xab (fun r=>B.flatMap fun s=>wu l r s) A i af);have VF:=hid (HP.out A[i] (pt af));obtain ⟨V,hV⟩:=n_m ((wr.alloc (.cells #[.int .i64 A[i].lv,.bool A[i].neg,.slice C0 j0 k0,.slice C1 j1 k1] 33)));have dM:Ext wr V:=by rw [<- hV]; exact (Ext.refl wr).alloc _
    have sU:jb V wr.heap.size A[i] (.slice C0 j0 k0) (.slice C1 j1 k1):=by rw [<- hV]; exact jb.new wr A[i] _ _ _
    have lN:=hid sU;have iZ:Safe T V wr.heap.size:=za2 jC.lt jC.fresh dM (pj _) (by rw [<- hV]; simp);have jE:=hid iZ;have DI:=hid (hK.trans (yg.q9 jC.lt dM));have Nr:=hid (HE.out.ext _ _ _ hJ dM);have xW:=hid ((yg.q9 jC.lt dM).pl fP);obtain ⟨g,hg⟩:=n_m (wr.heap.size);rw [hg] at lN jE;obtain ⟨n0,gX⟩:=n_m (k+(prE l (A.take i) B).length);have rH:=hid gX;unfold prE at gX;rw [gX] at iD;rw [rH.out] at Nr;clear hJ hK aK ah fP jC dM sU iZ HI gX;generalize A[i]=r at *
    gi_wp2_with fail
    try rw [hg]
    clear g0 g1 g2 g3 hV hg
    gi_loopw [21] (fun iv wr=>∃ j:Nat,j<=B.length/\iv=.int .i64 j/\Hid (J (n0+((B.take j).flatMap fun s=>wu l r s).length) wr/\yg T V wr)) (fun iv _=>B.length - (intOf iv).toNat)
    case atStart=>exact ⟨0,pS _,rfl,hid ⟨by simpa using Nr.out,yg.q9 (xY.out.keep DI.out).lt (Ext.refl V)⟩⟩
    case round =>
     obtain ⟨j,hj,rfl,rJ⟩:=hrel
     by_cases lI:j < B.length
     · obtain ⟨II,IG⟩:=rJ.out;have KL:=(xY.out.keep DI.out).keep IG;obtain ⟨E0',d0',e',-,-,kF⟩:=(HB.out.keep DI.out).keep IG;injection e' with e1 e2 e3
       subst e1 e3;obtain ⟨ad2,G0,i0,h0,G1,i1,h1,rfl,Iq,⟨f0,f1,f2,f3⟩,J4⟩:=kF.ym j lI;have Vt:=hid (iD.out.flat j lI);have VR:=hid (xab (fun s=>wu l r s) B j lI);obtain ⟨ZZ,wQ⟩:=VF.out B[j] (pt lI);obtain ⟨U,hU⟩:=n_m ((wr.alloc (.cells #[.int .i64 B[j].lv,.bool B[j].neg,.slice G0 i0 h0,.slice G1 i1 h1] 33)));have hxU:Ext wr U:=by rw [<- hU]; exact (Ext.refl wr).alloc _
       obtain ⟨s0,s1,s2,s3⟩:jb U wr.heap.size B[j] (.slice G0 i0 h0) (.slice G1 i1 h1):=by rw [<- hU]; exact jb.new wr B[j] _ _ _
       have IE:=IG.trans (yg.q9 KL.lt hxU);obtain ⟨b0,b1,b2,b3⟩:jb U g r (.slice C0 j0 k0) (.slice C1 j1 k1):=⟨IE.cell jE.out lN.out.1,IE.cell jE.out lN.out.2.1,IE.cell jE.out lN.out.2.2.1,IE.cell jE.out lN.out.2.2.2⟩;have vX:=hid (ka4 (k:=n0+((B.take j).flatMap fun s=>wu l r s).length) _ _ (IE.pl xW.out) (J4.ext hxU) HE.out (KL.ext hxU) (HE.out.ext _ _ _ II hxU) Vt.out ZZ (hid fun W' hx=>wQ W' _ _ _ _ ((IE.pl xW.out).ext hx) ((J4.ext hxU).ext hx)));have HKU:=hid IE;unfold plV at vX;clear II IG KL kF Iq J4 hxU IE wQ rJ;generalize B[j]=s at *
       gi_wp2_with fail
       clear f0 f1 f2 f3 hU s0 s1 s2 s3 b0 b1 b2 b3;refine ⟨trivial,?_⟩;refine (callsIn_wide.2 vX.out).mono ?_;rintro e W2 ⟨rfl,hJ3,OW⟩;have HN:Hid (J (n0+((B.take (j+1)).flatMap fun s=>wu l r s).length) W2/\yg T V W2):=hid ⟨by rw [VR.out,<- tO]; exact hJ3,HKU.out.trans OW⟩;clear hJ3 OW vX
       gi_wp2_with fail
       go_roundw
       case rel=>exact ⟨j+1,by omega,by go_num,HN.out⟩
       case measure=>simp [intOf]; omega
     · obtain rfl:j=B.length:=by omega
       have hf:=rJ.out;rw [pP] at hf
       have HN:Hid (J (k+(prE l (A.take (i+1)) B).length) wr/\yg T w wr):=hid ⟨by
        have h1:=iF.out;have h2:=rH.out;unfold prE at h2 ⊢
        rw [h1,<- tO,h2]; exact hf.1,DI.out.trans hf.2⟩
       clear rJ hf
       gi_wp2_with fail
       go_roundw
       case rel=>exact ⟨i+1,by omega,by go_num,HN.out⟩
       case measure=>simp [intOf]; omega
  · obtain rfl:i=A.length:=by omega
    have hf:=HI.out;rw [pP] at hf;clear HI
    gi_wp2_with fail
    exact bodyPost_ret (v:=.bool true) (by simp [results,Tryz.results88,go_sem]) rfl ⟨rfl,hf.1,hf.2⟩
end Go.Proofs.YtcepajijiabkmaaGreat

namespace Go.Proofs.YtcepajijiabkmaaGreat
open Lib (hid)
open Go.RowKit Go.Shelf
attribute [local go_sem] Oper.semAt_some
theorem zbk (a:Addr):a.add 0=a:=by simp [Addr.add]
def tailE (l:Int) (A:List Pl) (c:Bool):List Pl:=if A.length=0\/c=true then [] else [ji l 0 (A.getD 0 Pl.zero)]
theorem gcc {w : World} {T lp k E D : Nat} {J : Nat -> World -> Prop} {M : List Pl} {A : List Pl} {l : Int} {c : Bool} (va : Value) (hl : 1 <= l) (ag : l <= 4) (ha : kao T w va A) (hE : Env T lp J M) (hF : Fw T w) (hJ : J k w) (hS : Seg M k (A.flatMap (kac l) ++ tailE l A c)) (Yb : A.length <= 1000000) (aF : ∀ r ∈ A, Fit r E D) (hE6 : E <= 62) (hD : D <= 1099511627774)
 (HP:Hid (∀ r ∈ A,(wu l r (jac l r)).length<=1000/\∀ W' v0 v1 q0 q1,PlV W' q0 r v0->PlV W' q1 (jac l r) v1->Calls Tryz.prog 138 #[v0,v1,.int .i64 l] W' (yai (fun b=>W'.heap.size<=b) (wu l r (jac l r)) W'))) :
 Calls Tryz.prog 87 #[va,.bool c,.int .i64 l,.func (.yield lp) #[] #[]] w (yc2 J T (k+(A.flatMap (kac l) ++ tailE l A c).length) w):=by
 have HE:=hid hE;have xY:=hid hF;have HJ:=hid hJ;have HS:=hid hS.left;have dS:=hid hS.right;have HA:=hid ha;have iG:=hid aF;have nH:∀ k:Nat,(Fence.wide.depth.isSome=true->1<=k):=fun k h=>by cases h
 have iK:Tryz.prog.follows .mixedOrders=true:=by kernel_rfl
 obtain ⟨D0,c0,rfl,bZ,dO,-⟩:=ha;obtain ⟨N,hN⟩:=n_m (k+(A.flatMap (kac l) ++ tailE l A c).length);rw [hN];have qZ:=hid hN.symm;clear hN;clear hE hF hJ hS aF;refine (callsIn_wide (n:=5)).1 ?_;refine callsIn_of_wp Tryz.func87 rfl trivial ?_ rfl;simp only [Tryz.ntmps87,tP,pL,r8,Nat.reduceAdd,Nat.reduceSub,uW,uR,Pb,we,tI,rI]
 gi_wp2_with fail
 gi_loopw [13] (fun iv wr=>∃ i:Nat,i<=A.length/\iv=.int .i64 i/\Hid (J (k+((A.take i).flatMap (kac l)).length) wr/\yg T w wr)) (fun iv _=>A.length - (intOf iv).toNat)
 case atStart=>exact ⟨0,pS _,rfl,hid ⟨by simpa using HJ.out,yg.q9 xY.out.lt (Ext.refl w)⟩⟩
 case round =>
  obtain ⟨i,hi,rfl,HI⟩:=hrel
  by_cases af:i < A.length
  · obtain ⟨hJ,hK⟩:=HI.out;have jC:=xY.out.keep hK;obtain ⟨D0',c0',e',-,-,aK⟩:=HA.out.keep hK;injection e' with e1 e2 e3
    subst e1 e3;obtain ⟨ad,C0,j0,k0,C1,j1,k1,rfl,ah,⟨g0,g1,g2,g3⟩,fP⟩:=aK.ym i af;have fA:=HS.out.flat i af;have hlen:=xab (kac l) A i af;have bG:=iG.out A[i] (pt af);obtain ⟨ZZ,wQ⟩:=HP.out A[i] (pt af);obtain ⟨V,hV⟩:=n_m ((wr.alloc (.cells #[.int .i64 A[i].lv,.bool A[i].neg,.slice C0 j0 k0,.slice C1 j1 k1] 33)));have dM:Ext wr V:=by rw [<- hV]; exact (Ext.refl wr).alloc _
    have sU:jb V wr.heap.size A[i] (.slice C0 j0 k0) (.slice C1 j1 k1):=by rw [<- hV]; exact jb.new wr A[i] _ _ _
    have iZ:Safe T V wr.heap.size:=za2 jC.lt jC.fresh dM (pj _) (by rw [<- hV]; simp);have TD:=jC.ext dM;have Ew:=hid TD;have ZC:wr.heap.size < V.heap.size:=iZ.1;have lN:=hid sU;have jE:=hid iZ;have DI:=hid (hK.trans (yg.q9 jC.lt dM));have Nr:=hid (HE.out.ext _ _ _ hJ dM);have xW:=hid ((yg.q9 jC.lt dM).pl fP);have HPS:=hid wQ;have IA:=Seg.get (L:=kac l A[i]) fA 0 (by simp [kac]);have PD:Hid (∃ h:(k+((A.take i).flatMap (kac l)).length) < M.length,M[k+((A.take i).flatMap (kac l)).length]=qo l A[i]):=hid IA;have iD:Hid (Seg M (k+((A.take i).flatMap (kac l)).length+1) (wu l A[i] (jac l A[i]))):=hid (Seg.right (L:=[qo l A[i]]) (R:=wu l A[i] (jac l A[i])) fA);have iF:Hid (((A.take (i+1)).flatMap (kac l)).length=((A.take i).flatMap (kac l)).length+((wu l A[i] (jac l A[i])).length+1)):=hid hlen;have YF:=hid (fun (W':World) (q:Nat->Prop) (u:Value) (hu:PlV W' q A[i] u)=>gal u hl ag bG (by omega) (by omega) hu);have Jp:=hid (fun (W':World) (q:Nat->Prop) (u:Value) (hu:PlV W' q A[i] u)=>ucw u hl ag bG hE6 hD hu);obtain ⟨g,hg⟩:=n_m (wr.heap.size);obtain ⟨n0,gX⟩:=n_m (k+((A.take i).flatMap (kac l)).length);rw [gX] at Nr PD iD;have rH:=hid gX;rw [hg] at lN jE ZC;have hd:Ext V V.drew:=(Ext.refl V).drew;have Bf:=hid hd;obtain ⟨s0,s1,s2,s3⟩:=lN.out;obtain ⟨s0',s1',s2',s3'⟩:=lN.out.ext hd ZC;clear hJ hK aK ah fP jC dM sU iZ HI gX IA fA hlen bG wQ hd TD;generalize A[i]=r at *;unfold plV at xW
    gi_wp2_with fail
    try rw [hg]
    clear g0 g1 g2 g3 hV hg s0 s1 s2 s3
    gi_region_with_o (first
     | (go_simp
        (try refine ⟨nH _,?_⟩)
        (try refine ⟨trivial,?_⟩)
        refine (callsIn_wide.2 (YF.out _ _ _ (xW.out.ext Bf.out))).mono ?_;rintro e v1 ⟨lv,rfl,pl,x1⟩;have X1:=hid (Bf.out.trans x1);obtain ⟨F0,i0,h0,F1,h1,rfl,-⟩:=id pl.open_;obtain ⟨Iz,IB⟩:=PD.out;obtain ⟨fn,tmps,assign,body,hy,zS⟩:=HE.out.step n0 _ v1 Iz (HE.out.ext _ _ _ Nr.out X1.out) ⟨_,by rw [IB]; exact pl⟩ 4;have qX:=hid zS;unfold plV at hy ⊢
        clear zS x1 pl Iz IB)
     | (go_simp
        (try refine ⟨nH _,?_⟩)
        refine qX.out.mono ?_;rintro e v2 ⟨rfl,oH,hk2⟩;have vK:=(yg.q9 Ew.out.lt X1.out).trans hk2;obtain ⟨q0,q1,q2,q3⟩:jb v2 g r (.slice C0 j0 k0) (.slice C1 j1 k1):=⟨vK.cell jE.out lN.out.1,vK.cell jE.out lN.out.2.1,vK.cell jE.out lN.out.2.2.1,vK.cell jE.out lN.out.2.2.2⟩;have J2:=hid oH;have K2:=hid vK;have P2:=hid (vK.pl xW.out)
        clear oH hk2 vK)
     | (go_simp
        (try refine ⟨nH _,?_⟩)
        (try refine ⟨trivial,?_⟩)
        refine (callsIn_wide.2 (Jp.out _ _ _ P2.out)).mono ?_;rintro e v3 ⟨dv,rfl,pd,x3⟩;obtain ⟨G0,i2,h2,G1,h3,rfl,-⟩:=id pd.open_;have sS:=(Ew.out.keep K2.out).ext x3;have dR:g < v2.heap.size:=pw ZC K2.out.size;have y0:=(x3.cell (p:=⟨g,0,none⟩) dR).trans q0;have y1:=(x3.cell (p:=⟨g,1,none⟩) dR).trans q1;have y2:=(x3.cell (p:=⟨g,2,none⟩) dR).trans q2;have y3:=(x3.cell (p:=⟨g,3,none⟩) dR).trans q3;have vX:=hid (ka4 (k:=n0+1) _ _ (P2.out.ext x3) pd HE.out sS (HE.out.ext _ _ _ J2.out x3) iD.out ZZ (hid fun W' hx=>HPS.out W' _ _ _ _ ((P2.out.ext x3).ext hx) (pd.ext hx)));have K3:=hid (K2.out.trans (yg.q9 (Ew.out.keep K2.out).lt x3));unfold plV at vX ⊢
        clear x3 pd sS dR)
     | (go_simp
        (try refine ⟨nH _,?_⟩)
        (try refine ⟨trivial,?_⟩)
        refine (callsIn_wide.2 vX.out).mono ?_;rintro e v4 ⟨rfl,rD,Ea⟩
        have HN:Hid (J (k+((A.take (i+1)).flatMap (kac l)).length) v4/\yg T w v4):=hid ⟨by
         have h1:=iF.out;have h2:=rH.out
         rw [h1,<- tO,h2,Nat.add_comm (wu l r (jac l r)).length 1,<- tO]; exact rD,(DI.out.trans K3.out).trans Ea⟩
        clear rD Ea))
    all_goals
     clear s0' s1' s2' s3' qX hy q0 q1 q2 q3 vX
     gi_wp2_with fail
     go_roundw
     case rel=>exact ⟨i+1,by omega,by go_num,HN.out⟩
     case measure=>simp [intOf]; omega
  · obtain rfl:i=A.length:=by omega
    have hf:=HI.out;rw [pP] at hf;obtain ⟨hJ,hK⟩:=hf
    by_cases h0:A.length=0
    · have HF:Hid (J N wr/\yg T w wr):=hid ⟨by rw [qZ.out]; unfold tailE; rw [if_pos (Or.inl h0),si]; exact hJ,hK⟩;rw [h0];clear HI hJ hK h0
      gi_wp2_with fail
      exact bodyPost_ret (v:=.bool true) (by simp [results,Tryz.results87,go_sem]) rfl ⟨rfl,HF.out.1,HF.out.2⟩
    · have hz:((A.length:Int) == 0)=false:=by rw [beq_eq_false_iff_ne]; omega
      cases c with
      | true =>
        have HF:Hid (J N wr/\yg T w wr):=hid ⟨by rw [qZ.out]; unfold tailE; rw [if_pos (Or.inr rfl),si]; exact hJ,hK⟩;clear HI hJ hK h0
        gi_wp2_with fail
        exact bodyPost_ret (v:=.bool true) (by simp [results,Tryz.results87,go_sem]) rfl ⟨rfl,HF.out.1,HF.out.2⟩
      | false =>
        have af:0 < A.length:=by omega
        have qJ:tailE l A false=[ji l 0 A[0]]:=by
         unfold tailE; rw [if_neg (by rintro (h | h); exact h0 h; cases h),pr,po af]; rfl
        have LW:=dS.out;rw [qJ] at LW;have IA:=LW.get 0 (by simp);have PD:Hid (∃ h:(k+(A.flatMap (kac l)).length) < M.length,M[k+(A.flatMap (kac l)).length]=ji l 0 A[0]):=hid IA;have HTE:Hid (N=k+(A.flatMap (kac l)).length+1):=hid (by rw [qZ.out,qJ,ra,Pt,tO]);obtain ⟨n0,gX⟩:=n_m (k+(A.flatMap (kac l)).length);rw [gX] at HTE PD hJ;have jC:=xY.out.keep hK;obtain ⟨D0',c0',e',-,-,aK⟩:=HA.out.keep hK;injection e' with e1 e2 e3
        subst e1 e3;obtain ⟨ad,C0,j0,k0,C1,j1,k1,rfl,ah,⟨g0,g1,g2,g3⟩,fP⟩:=aK.ym 0 af;have ou:=hid (ybp (k:=0) _ (by omega) (by omega) hl ag (iG.out A[0] (pt af)) (by omega) (by omega) fP);have DL:=hid jC;have Bh:=hid hJ;have YI:=hid hK;simp only [sY,zbk] at g0 g1 g2 g3;obtain ⟨r,hr⟩:=n_m (A[0]);rw [hr] at ou PD g0 g1;unfold plV at ou;clear HI hJ hK h0 jC aK ah fP LW IA qJ dS hr
        gi_wp2_with fail
        clear g0 g1 g2 g3;refine ⟨trivial,?_⟩;refine (callsIn_wide.2 ou.out).mono ?_;rintro e v1 ⟨cv,rfl,pc,x1⟩;obtain ⟨F0,i0,h0,F1,h1,rfl,-⟩:=id pc.open_;obtain ⟨Iz,IB⟩:=PD.out;obtain ⟨fn,tmps,assign,body,hy,zS⟩:=HE.out.step n0 _ v1 Iz (HE.out.ext _ _ _ Bh.out x1) ⟨_,by rw [IB]; exact pc⟩ 4;have qX:=hid zS;have K1:=hid (YI.out.trans (yg.q9 DL.out.lt x1));obtain ⟨d,hd⟩:=n_m (ji l 0 r);rw [hd] at hy ⊢;unfold plV at hy ⊢;clear zS x1 pc Iz IB ou hd gX
        gi_wp2_with fail
        refine qX.out.mono ?_;rintro e v2 ⟨rfl,oH,hk2⟩;rw [<- HTE.out] at oH;have HF:Hid (J N v2/\yg T w v2):=hid ⟨oH,K1.out.trans hk2⟩;clear oH hk2 qX hy
        gi_wp2_with fail
        exact bodyPost_ret (v:=.bool true) (by simp [results,Tryz.results87,go_sem]) rfl ⟨rfl,HF.out.1,HF.out.2⟩
end Go.Proofs.YtcepajijiabkmaaGreat

namespace Go.Proofs.YtcepajijiabkmaaGreat
open Lib (hid)
open Go.RowKit Go.Shelf
attribute [local go_sem] Oper.semAt_some
theorem zco:(Tryz.prog.info? 31).map (fun i=>(i.zero,i.size,i.bytes))=some (some (.slice none 0 0),1,24):=by kernel_rfl
theorem vbr (n:Int) (h0:0<=n) (h1:n<=1099511627776) (w:World) :
 ∃ w',(Instr.makeSlice 97 (.int .i64 n) (.int .i64 n)).run Tryz.prog w=.ok (.slice (some ⟨w.heap.size,0,none⟩) n.toNat n.toNat) w'/\Ext w w'/\w'.heap.size=w.heap.size+1/\(∀ i,w'.frozen? ⟨w.heap.size,i,none⟩=false)/\(∀ i,i < n.toNat->w'.cell? ⟨w.heap.size,i,none⟩=some (.slice none 0 0))/\∀ i x,w'.cell? ⟨w.heap.size,i,none⟩=some x->∃ D n c,x=.slice D n c:=by
 obtain ⟨i0,hi,iV,iI,iH⟩:=info_parts zco;have hc:∀ i,(w.alloc (.cells (madeCells (Value.slice none 0 0).cells (n.toNat * i0.size)) 31)).cell? ⟨w.heap.size,i,none⟩=if i < n.toNat then some (.slice none 0 0) else none:=by
  intro i;rw [cell_of_row _ _ i _ _ (0,0) (heap_alloc_new w _),iI];unfold madeCells;rw [Sq,RW,ua]
  split
  · show some ((#[Value.slice none 0 0]:Array Value)[i % 1]!)=_;rw [Nat.mod_one]; rfl
  · rfl
 refine ⟨_,run_make w 97 31 i0 _ Tryz.underlying97 hi iV .i64 .i64 n n h0 (by omega) (by rw [iH]; omega) (by omega),(Ext.refl w).alloc _,by simp,fun i=>by simp [go_sem],fun i h=>by rw [hc,if_pos h],fun i x h=>?_⟩;rw [hc] at h
 split at h
 · injection h with h; exact ⟨_,_,_,h.symm⟩
 · cases h
structure xa4 (T R n : Nat) (W : World) (Ls : List (List Pl)) : Prop where
 safe:Safe T W R
 fr:∀ j,j < n->W.frozen? ⟨R,j,none⟩=false
 sl:∀ j x,W.cell? ⟨R,j,none⟩=some x->∃ D n c,x=.slice D n c
 some_:∀ j,j < n->∃ x,W.cell? ⟨R,j,none⟩=some x
 le:Ls.length<=n
 row:∀ i (h:i < Ls.length),∃ v,W.cell? ⟨R,i,none⟩=some v/\za4 T R W v Ls[i]
theorem xa4.keep {T R n:Nat} {A B:World} {Ls:List (List Pl)} (h:xa4 T R n A Ls) (k:yg T A B) (hn:0 < n):xa4 T R n B Ls:=by
 obtain ⟨x0,aC⟩:=h.some_ 0 hn;have hb:=k.block h.safe aC;have hc:∀ j,B.cell? ⟨R,j,none⟩=A.cell? ⟨R,j,none⟩:=fun j=>pB (a:=⟨R,j,none⟩) hb
 exact ⟨h.safe.keep k,fun j hj=>(sL (a:=⟨R,j,none⟩) hb).trans (h.fr j hj),fun j x hx=>h.sl j x (by rw [<- hc]; exact hx),fun j hj=>by rw [hc]; exact h.some_ j hj,h.le,fun i hi=>by
  obtain ⟨v,hv,hr⟩:=h.row i hi
  exact ⟨v,by rw [hc]; exact hv,hr.keep (k.x R)⟩⟩
theorem xa4.set {T R n:Nat} {A:World} {Ls:List (List Pl)} (h:xa4 T R n A Ls) (hi:Ls.length < n) {D:Option Addr} {c:Nat} {L:List Pl} (hr:za4 T R A (.slice D L.length c) L):xa4 T R n (A.setCell ⟨R,Ls.length,none⟩ (.slice D L.length c)) (Ls ++ [L])/\yac T R A (A.setCell ⟨R,Ls.length,none⟩ (.slice D L.length c)):=by
 obtain ⟨u,hu⟩:=h.some_ _ hi;obtain ⟨D',n',c',rfl⟩:=h.sl _ _ hu;have hk:yac T R A (A.setCell ⟨R,Ls.length,none⟩ (.slice D L.length c)):=yac.set h.safe.2.1 hu rfl;have same:=pN A ⟨R,Ls.length,none⟩ (.slice D L.length c) hu;have N7:∀ j,j ≠ Ls.length->(A.setCell ⟨R,Ls.length,none⟩ (.slice D L.length c)).cell? ⟨R,j,none⟩=A.cell? ⟨R,j,none⟩:=fun j hj=>ph _ _ _ _ (by intro e; injection e with _ e; exact hj e.symm)
 refine ⟨⟨⟨by have:=h.safe.1; simpa [World.setCell] using this,h.safe.2.1,fun e=>h.safe.2.2 (hk.own R h.safe.1 e)⟩,fun j hj=>by rw [rm]; exact h.fr j hj,fun j x hx=>?_,fun j hj=>?_,by simp; omega,fun i jI=>?_⟩,hk⟩
 · by_cases e:j=Ls.length
   · subst e; rw [same] at hx; injection hx with hx; exact ⟨_,_,_,hx.symm⟩
   · rw [N7 j e] at hx; exact h.sl j x hx
 · by_cases e:j=Ls.length
   · subst e; exact ⟨_,same⟩
   · rw [N7 j e]; exact h.some_ j hj
 · by_cases e:i=Ls.length
   · subst e;refine ⟨_,same,?_⟩;simpa using hr.keep hk
   · have af:i < Ls.length:=by simp at jI; omega
     obtain ⟨v,hv,JX⟩:=h.row i af;refine ⟨v,by rw [N7 i e]; exact hv,?_⟩;rw [ud af]; exact JX.keep hk
structure kde (T lp lo : Nat) (J : Nat -> World -> Prop) (M : List Pl) : Prop extends Env T lp J M where
 rel:∀ k A B,J k A->vas T lo A B->J k B
def jdb (x:Value):Array Value:=#[x]
def OkP (M:List Pl) (k:Nat) (x:Value) (W:World):Prop:=∃ _:k < M.length,∃ q,PlV W q M[k] x
def xa9 (l:Int) (fs:List Pl):Prop:=∀ r s,((∃ f ∈ fs,r ∈ uh l f/\s=jac l r)\/(∃ (i j:Nat) (hi:i < fs.length) (hj:j < fs.length),i < j/\r ∈ uh l fs[i]/\s ∈ uh l fs[j]))->(wu l r s).length<=1000/\∀ W' v0 v1 q0 q1,PlV W' q0 r v0->PlV W' q1 s v1->Calls Tryz.prog 138 #[v0,v1,.int .i64 l] W' (yai (fun b=>W'.heap.size<=b) (wu l r s) W')
theorem wbz {w : World} {T lo E D BL BV c0 : Nat} {D0 : Option Addr} {l : Int} {fs : List Pl} (hl : 1 <= l) (ag : l <= 4) (hF : Fw T w) (hlo : lo <= w.heap.size) (UT : Safe T w BL) (Ya : Safe T w BV) (cL : w.cell? ⟨BL, 0, none⟩ = some (.slice D0 fs.length c0)) (cV : w.cell? ⟨BV, 0, none⟩ = some (.int .i64 l))
 (bZ:fs.length<=c0) (dO:c0<=9223372036854775807) (aK:jd w (Safe T w) fs D0 0) (uC:fs.length<=1000) (aF:∀ f ∈ fs,Fit f E D) (hE:E<=60) (hD:D<=100000000000) (HP:Hid (xa9 l fs)) (n:Nat) :
 xc3 n Tryz.prog 85 #[.pointer (some ⟨BL,0,none⟩),.pointer (some ⟨BV,0,none⟩)] jdb (OkP (elems l fs)) (yg T) (vas T lo) (elems l fs).length w:=by
 intro lp J W hW hJ hR hY h0;have ai:Ext w W:=hW;have HE:Hid (kde T lp lo J (elems l fs)):=hid ⟨⟨fun k W W' h hx=>hJ k W W' none h ⟨hx.below.os,hx.below.tape,hx.below.output,hx.size,fun i hi _=>hx.below.block i hi⟩ (fun r e=>by cases e),fun k v W h hj hp m=>hY k v W h hj ⟨h,hp⟩ m⟩,hR⟩;have HR:=hid hR;have H0:=hid h0;have xY:=hid (hF.ext ai);have iG:=hid aF;have k1:W.cell? ⟨BL,0,none⟩=some (.slice D0 fs.length c0):=(ai.cell (p:=⟨BL,0,none⟩) UT.1).trans cL;have oz:=ai.size;obtain ⟨W1,dw,iK,RI,uB,Oq,Kq⟩:=vbr (fs.length:Int) (by omega) (by omega) W;rw [sT] at dw Oq;obtain ⟨R,hRe⟩:=n_m (W.heap.size);rw [hRe] at dw uB Oq Kq RI;have hx1:Ext w W1:=ai.trans iK;have kE:=hF.ext hx1;have uV:Safe T W1 R:=⟨by omega,by have:=hF.lt; omega,fun e=>by
  obtain ⟨v,hv,e'⟩:=e;have:=hF.fresh R ⟨v,(hx1.cell (p:=⟨T,0,none⟩) hF.lt).symm.trans hv,e'⟩
  omega⟩
 have DT:Hid (xa4 T R fs.length W1 []):=hid ⟨uV,fun j _=>uB j,Kq,fun j hj=>⟨_,Oq j hj⟩,by simp,fun i hi=>by simp at hi⟩;have AX:=yg.q9 hF.lt hx1;have Pn:Hid (zau T R W1 BL):=hid ⟨UT.keep AX,by have:=UT.1; omega⟩;have MO:Hid (zau T R W1 BV):=hid ⟨Ya.keep AX,by have:=Ya.1; omega⟩;have HCV:Hid (W1.cell? ⟨BV,0,none⟩=some (.int .i64 l)):=hid ((hx1.cell (p:=⟨BV,0,none⟩) Ya.1).trans cV);have NG:Hid (W1.cell? ⟨BL,0,none⟩=some (.slice D0 fs.length c0)):=hid ((hx1.cell (p:=⟨BL,0,none⟩) UT.1).trans cL);have aW:Hid (za4 T R W1 (.slice D0 fs.length c0) fs):=hid ⟨D0,c0,rfl,bZ,dO,jd.jt AX.size AX.nat (fun a v hp hv=>⟨⟨hp.keep AX,by have:=hp.1; omega⟩,AX.vh hp hv⟩) _ _ _ aK⟩;have Nv:=hid kE;have aat:lo<=R:=by omega
 have J1:=hid (HE.out.ext _ _ _ h0 iK);have ajO:R < W1.heap.size:=uV.1;have hPD:∀ r ∈ fs,mdg l r<=62:=fun r hr=>by have:=wan (l:=l) (aF r hr).can (aF r hr).ex; omega
 have HPD:=hid hPD;have nH:∀ k:Nat,(Fence.wide.depth.isSome=true->1<=k):=fun k h=>by cases h
 have aiM:Tryz.prog.follows .mixedOrders=true:=by kernel_rfl
 obtain ⟨M,hM⟩:=n_m (elems l fs);have LM:Seg M 0 (fs.flatMap (wak l) ++ ybe l (fs.map (uh l))):=by rw [<- hM]; exact Seg.all _
 have HSG:=hid LM.left;have xP:=hid LM.right;have Bg:Hid ((fs.flatMap (wak l)).length+(ybe l (fs.map (uh l))).length=M.length):=hid (by rw [<- hM]; unfold elems; rw [ra]);rw [hM] at HE ⊢;clear hW hJ hR hY h0 hF UT Ya cL cV aK aF ai uB Oq Kq hx1 kE uV AX hPD LM hM iK;refine callsIn_of_wp Tryz.func85 rfl trivial ?_ rfl;simp only [Tryz.ntmps85,tP,pL,r8,Nat.reduceAdd,Nat.reduceSub,uW,uR,Pb,we,tI,rI];have k2:=NG.out
 gi_wp2_with fail
 clear k1 k2 dw hRe
 gi_loopw [17] (fun iv wr=>∃ i:Nat,i<=fs.length/\iv=.int .i64 i/\Hid (J ((fs.take i).flatMap (wak l)).length wr/\yac T R W1 wr/\xa4 T R fs.length wr ((fs.take i).map (uh l)))) (fun iv _=>fs.length - (intOf iv).toNat)
 case atStart=>exact ⟨0,pS _,rfl,hid ⟨by simpa using J1.out,(yg.q9 Nv.out.lt (Ext.refl W1)).x R,by simpa using DT.out⟩⟩
 case round =>
  obtain ⟨i,hi,rfl,HI⟩:=hrel
  by_cases af:i < fs.length
  · obtain ⟨hJ,hK,hA⟩:=HI.out;have gX:0 < fs.length:=by omega
    have jC:Fw T wr:=⟨pw Nv.out.lt hK.size,hK.fresh Nv.out.fresh⟩;obtain ⟨D0',c0',e',-,-,aK⟩:=aW.out.keep hK;injection e' with e1 e2 e3
    subst e1 e3;obtain ⟨ad,C0,j0,k0,C1,j1,k1,rfl,ah,⟨g0,g1,g2,g3⟩,fP⟩:=aK.ym i af;have iD:=hid (HSG.out.flat i af);have iF:=hid (xab (wak l) fs i af);have hfi:=iG.out fs[i] (pt af);obtain ⟨V,hV⟩:=n_m ((wr.alloc (.cells #[.int .i64 fs[i].lv,.bool fs[i].neg,.slice C0 j0 k0,.slice C1 j1 k1] 33)));have dM:Ext wr V:=by rw [<- hV]; exact (Ext.refl wr).alloc _
    obtain ⟨s0,s1,s2,s3⟩:jb V wr.heap.size fs[i] (.slice C0 j0 k0) (.slice C1 j1 k1):=by rw [<- hV]; exact jb.new wr fs[i] _ _ _
    have cv:V.cell? ⟨BV,0,none⟩=some (.int .i64 l):=((yac.trans hK ((yg.q9 jC.lt dM).x R)).vh MO.out HCV.out);have HRE:=hid (kb4 _ hl ag (fP.ext dM) hfi (by omega) (by omega));have DI:=hid (hK.trans ((yg.q9 jC.lt dM).x R));have HAV:=hid (hA.keep (yg.q9 jC.lt dM) gX);have Nr:=hid (HE.out.ext _ _ _ hJ dM);have Ew:=hid (jC.ext dM);have nK:Hid (((fs.take i).map (uh l)).length=i):=hid (by rw [px,pA]; omega);have xO:Hid ((fs.take i).map (uh l) ++ [uh l fs[i]]=(fs.take (i+1)).map (uh l)):=hid (by rw [pC af,ux]; rfl);have og:=hid (pt af);have iM:=hid hfi;clear hJ hK hA jC aK ah fP dM hfi HI;generalize fs[i]=f at *;unfold plV at HRE
    gi_wp2_with fail
    clear g0 g1 g2 g3 hV s0 s1 s2 s3;refine ⟨trivial,nH _,?_⟩;refine (callsIn_wide.2 HRE.out).mono ?_;rintro e V2 ⟨v2,rfl,⟨E0,ec,rfl,KX,aaX,kF⟩,x2⟩;obtain ⟨rl,wP⟩:=n_m (uh l f);have Md:=HAV.out.keep (yg.q9 Ew.out.lt x2) gX;have ZO:za4 T R V2 (.slice E0 rl.length ec) rl:=by
     rw [wP] at KX kF;rw [<- wP];exact ⟨E0,ec,rfl,by rw [wP]; exact KX,aaX,by rw [wP]; exact kF.mono fun b hb hq=>⟨za2 Ew.out.lt Ew.out.fresh x2 hq hb,by have:=HAV.out.safe.1; omega⟩⟩
    have aU:=Md.set (L:=rl) (by rw [nK.out]; exact af) ZO;rw [nK.out,<- wP,xO.out] at aU;obtain ⟨u,hu⟩:=Md.some_ i af;have huf:=Md.fr i af;have cv2:=(x2.cell (p:=⟨BV,0,none⟩) (MO.out.keep DI.out).1.1).trans cv;have GN:vas T lo V2 (V2.setCell ⟨R,i,none⟩ (.slice E0 (uh l f).length ec)):=⟨R,i,u,E0,_,ec,aat,Md.safe.2.1,Md.safe.2.2,Md.sl,hu,rfl⟩;have hj3:=HE.out.rel _ _ _ (HE.out.ext _ _ _ Nr.out x2) GN;obtain ⟨V3,LJ⟩:=n_m (V2.setCell ⟨R,i,none⟩ (.slice E0 (uh l f).length ec));rw [LJ] at aU hj3;obtain ⟨hA3,OW⟩:=aU;have yX:yac T R W1 V3:=(DI.out.trans ((yg.q9 Ew.out.lt x2).x R)).trans OW;have sS:Fw T V3:=⟨pw Nv.out.lt yX.size,yX.fresh Nv.out.fresh⟩;have cv3:V3.cell? ⟨BV,0,none⟩=some (.int .i64 l):=yX.vh MO.out HCV.out;have Il:Ext V3 V3.drew:=(Ext.refl V3).drew;have ck3:V3.cell? ⟨R,i,none⟩=some (.slice E0 (uh l f).length ec):=by rw [<- LJ]; exact pN _ _ _ hu
    have cv4:=(Il.cell (p:=⟨BV,0,none⟩) (MO.out.keep yX).1.1).trans cv3;have ck4:=(Il.cell (p:=⟨R,i,none⟩) hA3.safe.1).trans ck3;have QL:kao T V3.drew (.slice E0 (uh l f).length ec) (uh l f):=by
     rw [wP]; exact ((ZO.keep OW).qaV).keep (yg.q9 sS.lt Il)
    have abU:(mdg l f).toNat<=62:=by have:=HPD.out f og.out; omega
    have GL:∀ r ∈ uh l f,Fit r E (D+62):=fun r hr=>(xbh iM.out (by have:B32=4294967296:=rfl; omega) r hr).1.mono (pj _) (by omega)
    have QO:(uh l f).length<=1000000:=by have:=qan (l:=l) (mdg l f).toNat f; unfold uh; omega
    have xQ:=hid (gcc (k:=0+((fs.take i).flatMap (wak l)).length) (M:=M) (c:=qak l f) _ hl ag QL HE.out.toEnv (sS.ext Il) (by rw [rh]; exact HE.out.ext _ _ _ hj3 Il) iD.out QO GL (by omega) (by omega) (hid fun r hr=>HP.out r (jac l r) (Or.inl ⟨f,og.out,hr,rfl⟩)));have HA4:=hid (hA3.keep (yg.q9 sS.lt Il) gX);have HK4:=hid (yX.trans ((yg.q9 sS.lt Il).x R));clear Md ZO x2 kF GN hj3 hA3 OW yX sS Il QL GL QO HRE wP abU;rw [rh] at xQ;obtain ⟨n0,RH⟩:=n_m (((fs.take i).flatMap (wak l)).length);rw [RH] at xQ iF;obtain ⟨rc,DZ⟩:=n_m (qak l f);have F6:Hid ((wak l f).length=((uh l f).flatMap (kac l) ++ tailE l (uh l f) (qak l f)).length):=hid rfl;rw [<- F6.out] at xQ;rw [DZ] at xQ ⊢;obtain ⟨rn,QO⟩:=n_m ((uh l f).length);rw [QO] at xQ ck3 ck4 KX LJ ⊢;clear RH DZ QO F6
    gi_wp2_with fail
    clear hu huf cv cv2 LJ
    gi_region_with_o (first
     | (go_simp
        (try refine ⟨trivial,?_⟩)
        (try refine ⟨nH _,?_⟩)
        refine (callsIn_wide.2 xQ.out).mono ?_;rintro e W4 ⟨rfl,rD,Ea⟩;have HN:Hid (J ((fs.take (i+1)).flatMap (wak l)).length W4/\yac T R W1 W4/\xa4 T R fs.length W4 ((fs.take (i+1)).map (uh l))):=hid ⟨by rw [iF.out]; exact rD,HK4.out.trans (Ea.x R),HA4.out.keep Ea gX⟩
        clear rD Ea))
    all_goals
     clear cv3 cv4 ck3 ck4 xQ
     gi_wp2_with fail
     go_roundw
     case rel=>exact ⟨i+1,by omega,by go_num,HN.out⟩
     case measure=>simp [intOf]; omega
  · obtain rfl:i=fs.length:=by omega
    have hf:=HI.out;rw [pP] at hf;clear HI;obtain ⟨WA,rfl⟩:∃ x,x=wr:=⟨_,rfl⟩;obtain ⟨hJ,hK,hA⟩:=hf;obtain ⟨Ls,XM⟩:=n_m (fs.map (uh l));have UH:Ls.length=fs.length:=by rw [<- XM,px]
    have Ho:∀ i (h:i < Ls.length),∃ h':i < fs.length,Ls[i]=uh l fs[i]:=fun i h=>by
     have h':i < fs.length:=by rw [<- UH]; exact h
     subst XM;exact ⟨h',rK _⟩
    rw [XM] at hA xP Bg;have jC:Fw T WA:=⟨pw Nv.out.lt hK.size,hK.fresh Nv.out.fresh⟩;obtain ⟨n1,sF⟩:=n_m ((fs.flatMap (wak l)).length);rw [sF] at hJ xP Bg;rw [rh] at xP;have vZ:=hid UH;have Ag:=hid Ho;have rq:=hid jC;have HKR:=hid hK;have HAR:=hid hA;have HJR:=hid hJ;have JQ:=hA.safe.1;clear hJ hK hA XM UH Ho jC sF
    gi_wp2_with fail
    gi_loopw [43] (fun iv w3=>∃ i:Nat,i<=fs.length/\iv=.int .i64 i/\Hid (J (n1+(((List.range Ls.length).take i).flatMap fun i=>(Ls.drop (i+1)).flatMap (prE l (Ls.getD i []))).length) w3/\yg T WA w3)) (fun iv _=>fs.length - (intOf iv).toNat)
    case atStart=>exact ⟨0,pS _,rfl,hid ⟨by simpa using HJR.out,yg.q9 rq.out.lt (Ext.refl WA)⟩⟩
    case round =>
     obtain ⟨w3,rfl⟩:∃ x,x=wr:=⟨_,rfl⟩;obtain ⟨i,hi,rfl,HI⟩:=hrel
     by_cases af:i < fs.length
     · obtain ⟨hJ,hK⟩:=HI.out;have gX:0 < fs.length:=by omega
       have Fe:i < Ls.length:=by rw [vZ.out]; exact af
       have yT:i < (List.range Ls.length).length:=by rw [tt]; exact Fe
       have hA:=HAR.out.keep hK gX;obtain ⟨vi,hvi,Og⟩:=hA.row i Fe;obtain ⟨Di,ci,rfl,-⟩:=id Og;have iD:=hid (xP.out.flat i yT);have iF:=hid (xab (fun i=>(Ls.drop (i+1)).flatMap (prE l (Ls.getD i []))) (List.range Ls.length) i yT);rw [tF] at iD iF;have jB:Ls.getD i []=Ls[i]:=by rw [pr,po Fe]; rfl
       rw [jB] at iD iF;obtain ⟨Eb,KR⟩:=Ag.out i Fe;obtain ⟨f,Ec⟩:=n_m (fs[i]);have KP:f ∈ fs:=by rw [<- Ec]; exact pt Eb
       rw [Ec] at KR;have Wi:Hid (f ∈ fs/\Ls[i]=uh l f/\fs[i]=f):=hid ⟨KP,KR,Ec⟩;obtain ⟨n2,Om⟩:=n_m (n1+(((List.range Ls.length).take i).flatMap fun i=>(Ls.drop (i+1)).flatMap (prE l (Ls.getD i []))).length);have Jg:=hid Om;rw [Om] at hJ iD;have Bh:=hid hJ;have YI:=hid hK;have DL:=hid (rq.out.keep hK);have HRI:=hid Og.qaV;have HA2:=hid hA;have Yb:Ls[i].length<=62:=by
        rw [KR];have h1:=qan (l:=l) (mdg l f).toNat f;have h2:=HPD.out f KP;unfold uh; omega
       have HAN:=hid Yb;have Ey:Hid ((Ls.drop (i+1)).length=fs.length - (i+1)):=hid (by rw [re,vZ.out]);have abg:i+1<=fs.length:=af;clear hJ hK hA Og jB KP KR Om HI Yb Ec;generalize hgA:Ls[i]=A at *;clear hgA;have uK:Hid (∀ w4,J (n2+((Ls.drop (i+1)).flatMap (prE l A)).length) w4->yg T w3 w4->J (n1+(((List.range Ls.length).take (i+1)).flatMap fun i=>(Ls.drop (i+1)).flatMap (prE l (Ls.getD i []))).length) w4/\yg T WA w4):=hid (fun w4 h1 h2=>⟨by rw [iF.out,<- tO,Jg.out]; exact h1,YI.out.trans h2⟩)
       by_cases TJ:i+1=fs.length
       · have Rl:Ls.drop (i+1)=[]:=rL (by rw [Ey.out]; omega);have HN:=hid (uK.out w3 (by rw [Rl]; simpa using Bh.out) (yg.q9 DL.out.lt (Ext.refl w3)));have aly:=hid TJ;clear Rl uK iD iF Ey
         gi_wp2_with fail
         clear hvi
         gi_loopw [53] (fun iv w4=>iv=.int .i64 0/\w4=w3) (fun _ _=>0)
         case atStart=>exact ⟨rfl,rfl⟩
         case round =>
          obtain ⟨rfl,rfl⟩:=hrel
          gi_wp2_with fail
          go_roundw
          case rel=>exact ⟨i+1,by omega,by go_num,HN.out⟩
          case measure=>simp [intOf]; omega
       · have lI:i+1 < fs.length:=by omega
         have Rw:¬ fs.length=i+1:=by omega
         clear TJ
         gi_wp2_with fail
         clear hvi
         gi_loopw [53] (fun iv w4=>∃ j:Nat,j<=fs.length - (i+1)/\iv=.int .i64 j/\Hid (J (n2+(((Ls.drop (i+1)).take j).flatMap (prE l A)).length) w4/\yg T w3 w4)) (fun iv _=>fs.length - (intOf iv).toNat)
         case atStart=>exact ⟨0,pS _,rfl,hid ⟨by simpa using Bh.out,yg.q9 DL.out.lt (Ext.refl w3)⟩⟩
         case round =>
          obtain ⟨w4,rfl⟩:∃ x,x=wr:=⟨_,rfl⟩;obtain ⟨j,hj,rfl,rJ⟩:=hrel
          by_cases aar:j < fs.length - (i+1)
          · obtain ⟨hJ4,OV⟩:=rJ.out;have qR:i+1+j < Ls.length:=by have:=vZ.out; omega
            have hjd:j < (Ls.drop (i+1)).length:=by rw [Ey.out]; exact aar
            have hA4:=HA2.out.keep OV gX;obtain ⟨vj,hvj,ZT⟩:=hA4.row (i+1+j) qR;obtain ⟨Dj,cj,rfl,-⟩:=id ZT;have I5:=hid (iD.out.flat j hjd);have Ji:=hid (xab (prE l A) (Ls.drop (i+1)) j hjd);rw [List.getElem_drop] at I5 Ji;obtain ⟨SV,Fz⟩:=Ag.out (i+1+j) qR;obtain ⟨f2,Fv⟩:=n_m (fs[i+1+j]);have TG:f2 ∈ fs:=by rw [<- Fv]; exact pt SV
            rw [Fv] at Fz;have hBn:Ls[i+1+j].length<=62:=by
             rw [Fz];have h1:=qan (l:=l) (mdg l f2).toNat f2;have h2:=HPD.out f2 TG;unfold uh; omega
            have He:=wcv (k:=n2+(((Ls.drop (i+1)).take j).flatMap (prE l A)).length) (M:=M) _ _ (HRI.out.keep OV) ZT.qaV HE.out.toEnv (DL.out.keep OV) hJ4 I5.out (by have:=HAN.out; omega) (by omega) (hid fun r hr s hs=>HP.out r s (Or.inr ⟨i,i+1+j,af,SV,by omega,by rw [Wi.out.2.2,<- Wi.out.2.1]; exact hr,by rw [Fv,<- Fz]; exact hs⟩));have Ad:=hid He;have cv:=((HKR.out.trans (YI.out.x R)).trans (OV.x R)).vh MO.out HCV.out;have HK4:=hid OV;have uN:((i:Int)+1+(j:Int))<=2000:=by omega
            clear hJ4 OV hA4 ZT TG Fz hBn He rJ Fv;generalize hgB:Ls[i+1+j]=B at *;clear hgB
            gi_wp2_with fail
            clear hvj cv;refine ⟨trivial,nH _,?_⟩;refine (callsIn_wide.2 Ad.out).mono ?_;rintro e w5 ⟨rfl,hj5,hk5⟩;have HN:Hid (J (n2+(((Ls.drop (i+1)).take (j+1)).flatMap (prE l A)).length) w5/\yg T w3 w5):=hid ⟨by rw [Ji.out,<- tO]; exact hj5,HK4.out.trans hk5⟩;clear hj5 hk5 Ad
            gi_wp2_with fail
            go_roundw
            case rel=>exact ⟨j+1,by omega,by go_num,HN.out⟩
            case measure=>simp [intOf]; omega
          · obtain rfl:j=fs.length - (i+1):=by omega
            have hf:=rJ.out;rw [<- Ey.out,pP] at hf;have HN:=hid (uK.out w4 hf.1 hf.2);clear rJ hf
            gi_wp2_with fail
            go_roundw
            case rel=>exact ⟨i+1,by omega,by go_num,HN.out⟩
            case measure=>simp [intOf]; omega
     · obtain rfl:i=fs.length:=by omega
       have hf:=HI.out;rw [<- vZ.out] at hf;have e1:(List.range Ls.length).take Ls.length=List.range Ls.length:=by
        have h9:=pP (l:=List.range Ls.length)
        rwa [tt] at h9
       rw [e1] at hf;have HJF:Hid (J M.length w3):=hid (by rw [<- Bg.out]; exact hf.1);clear HI hf e1
       gi_wp2_with fail
       go_end0
       exact ⟨⟨_,rfl⟩,HJF.out⟩
end Go.Proofs.YtcepajijiabkmaaGreat
