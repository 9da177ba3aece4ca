/- A range over a function whose elements are made anew, as RangeOk, for iterators that hand the loop's body on to other functions. -/
import Derived.Test.YtcepajijiabkmaaGreatMq37
import Derived.Test.YtcepajijiabkmaaGreatMq39
import Derived.Test.YtcepajijiabkmaaGreatMq35
set_option linter.unusedSimpArgs false
set_option linter.unusedVariables false

namespace Go.Proofs.YtcepajijiabkmaaGreat
open Lib (hid)
open Go.RowKit
def zcy {α:Type} (n:Nat) (P:Program) (g:Nat) (lb:Array Value) (enc:α->Array Value) (Ok:Nat->α->World->Prop) (Kp Rel:World->World->Prop) (N:Nat) (w:World):Prop:=
 ∀ (l:Nat) (J:Nat->World->Prop) (W:World),Below w.heap.size w W->AbidesFrom W.heap.size J->(∀ k A B,J k A->Rel A B->J k B) ->
   (∀ k x W1,k < N->J k W1->Ok k x W1->∀ m,YieldAt Fence.wide m P l (enc x) W1 fun e W'=>e=.returned (.bool true)/\J (k+1) W'/\Kp W1 W') ->
   J 0 W->CallsIn Fence.wide n P g (#[.func (.yield l) #[] #[]] ++ lb) W fun e W'=>(∃ v,e=.returned v)/\J N W'
theorem qcr {α : Type} {n : Nat} {P : Program} {w : World} {g : Operand} {ps : Array Tmp} {assign body : Code} {Q : Exit -> Act -> World -> Prop} {a : Act}
 (h1:1<=n) {gf:Nat} {lb:Array Value} (hg:a.eval g=.func (.func gf) #[] lb) (eg:∀ args w,(callFunc gf args).run P w=.ok (.enter gf args) w)
 {enc:α->Array Value} {Ok:Nat->α->World->Prop} {Kp Rel:World->World->Prop} {N:Nat} {w0:World} (wS:zcy (n - 1) P gf lb enc Ok Kp Rel N w0) (hRo:∀ A B,Rel A B->∀ (i:Nat) (o:Obj),A.heap[i]?=some o->o.isCells=false->B.heap[i]?=some o)
 (Jq:∀ {A B C:World},Kp A B->Kp B C->Kp A C) (Jr:∀ (W:World) (l:Nat) (o o':Obj),w.heap.size<=l->W.heap[l]?=some o->o.isCells=false->o.isWalk=false->Kp W (W.putObj l o')) (bU:Below w0.heap.size w0 w) (uG:∀ x,(enc x).size=ps.size)
 (I:Nat->World->Prop) (hI:OwnFrom w.heap.size I) (hRI:∀ k A B,I k A->Rel A B->I k B) (h0:I 0 w) (Ax:Nat->α->Act->World->Prop) (QU:∀ k x a',OwnFrom w.heap.size (fun (_:Unit) W=>Ax k x a' W))
 (jD:∀ (m l k:Nat) (x:α) (W:World) (K:Act->World->Prop),k < N->I k W->Ok k x W->(∀ a' W',KeepsFrom w.heap.size W W'->Kp W W'->Ax k x a' W'->K a' W') ->
   assign.wpIn (Fence.wide.inRound l) m P (Exit.then K (fun _ _ _=>False)) { tmps:=(ps.zip (enc x)).foldl (fun t (p,v)=>t.setIfInBounds p v) a.tmps,defers:=[] } W)
 (qM:∀ (m l k:Nat) (x:α) (a':Act) (W:World),k < N->Ax k x a' W->body.wpIn (Fence.wide.inRound l) m P (ga4 w.heap.size Kp (I (k+1)) W) a' W)
 (fB:∀ (D:Nat) (W:World),w.heap.size<=D->I N W->W.heap[D]?=some (.deferred (some []))->Q .normal { a with defers:={ target:=.collected D,args:=#[] } :: a.defers } W) :
 (Code.rangeFunc g ps assign body).wpIn Fence.wide n P Q a w:=by
 refine wpIn_rangeFunc fun fn Ce=>?_
 obtain ⟨B,hB⟩:=n_m (w.heap.size)
 let rc:LoopState->Option Code->Loop:=fun st pe=>{ state:=st,pending:=pe,fn,tmps:=a.tmps,params:=ps,assign,body,defers:=B }
 obtain ⟨V,hV⟩:=n_m ((w.alloc (.deferred (some []))).alloc (.loop (rc .ready none)));have vL:V.heap[B+1]?=some (.loop (rc .ready none)):=by
  rw [<- hV,<- hB];have:=World.alloc_heap_new (w.alloc (.deferred (some []))) (.loop (rc .ready none))
  rwa [World.size_alloc] at this
 have vD:V.heap[B]?=some (.deferred (some [])):=by
  rw [<- hV,<- hB]; exact (Below.heap_alloc _ _ _ (by simp)).trans (World.alloc_heap_new w _)
 have vI:I 0 V:=by rw [<- hV]; exact hI.alloc _ (hI.alloc _ h0)
 have vB:Below w0.heap.size w0 V:=by
  rw [<- hV]; exact bU.trans ((((Below.refl _ w).alloc (Nat.le_refl _) _).alloc (by simp) _).mono bU.size)
 have vS:V.heap.size=B+2:=by rw [<- hV,<- hB]; simp
 rw [hB] at Jr hI QU jD qM fB
 have walk:∀ {A A':World} {row:Option Nat} {k:Nat} {o:Obj},A.grownBy A' row->(∀ r,row=some r->V.heap.size<=r/\∃ o:Obj,A.heap[r]?=some o/\o.isWalk=true)->A.heap[k]?=some o->o.isWalk=false->A'.heap[k]?=some o:=
  fun iG hr hk ho=>(grownBy_keeps iG (fun r e=>(hr r e).2) hk ho).trans hk
 refine ⟨B+1,[{ target:=.collected B,args:=#[] }],V,{ target:=.fn (.func gf) lb,args:=#[.func (.yield (B+1)) #[] #[]] },V,gf,#[.func (.yield (B+1)) #[] #[]] ++ lb,V,?_,?_,?_,?_,fun _=>h1,?_⟩
 · subst hB; rw [<- hV]; exact run_enterLoop_outer _ _ _ _ _
 · simp only [resolve,hg]; simp [go_sem]
 · intro f' hf'; simp [Target.leads] at hf'; subst hf'; trivial
 · simp [invoke,go_sem,eg]
 · refine (wS (B+1) (fun k W=>I k W/\W.heap[B+1]?=some (.loop (rc .ready none))/\W.heap[B]?=some (.deferred (some []))) V vB (fun k A A' row hs iG hr=>⟨hI k A A' row hs.1 iG (fun r e=>?_),walk iG hr hs.2.1 rfl,walk iG hr hs.2.2 rfl⟩) (fun k A B hs hr=>⟨hRI k A B hs.1 hr,hRo A B hr _ _ hs.2.1 rfl,hRo A B hr _ _ hs.2.2 rfl⟩) ?_ ⟨vI,vL,vD⟩).mono ?_
   · obtain ⟨h2,o,ho,hw⟩:=hr r e;exact ⟨by omega,o,ho,Obj.not_cells_of_walk hw⟩
   · -- a round
     rintro k x W hk ⟨hi,hl,hd⟩ jX m;refine ⟨fn,_,assign,body,run_yield (P:=P) (args:=enc x) hl (uG x),roundIn_of_wpIn Ce (jD m _ k x W _ hk hi jX fun a' Wa Pg wV sZ=>?_)⟩;have al:=Pg.same _ _ (Nat.le_succ _) hl rfl;have ad:=Pg.same _ _ (Nat.le_refl _) hd rfl;have Zr:=(Array.getElem?_eq_some_iff.1 al).1;refine ⟨_,run_beginRound al rfl,wpIn_mono (qM m _ k x a' _ hk ((QU k x a').putObj (s:=()) _ sZ (Nat.le_succ _) al rfl)) ?_⟩;have bl:(Wa.putObj (B+1) (.loop (rc .busy none))).heap[B+1]?=some (.loop (rc .busy none)):=World.putObj_heap_same Zr;have bd:(Wa.putObj (B+1) (.loop (rc .busy none))).heap[B]?=some (.deferred (some [])):=(World.putObj_heap_other (by omega)).trans ad;have bp:Kp Wa (Wa.putObj (B+1) (.loop (rc .busy none))):=Jr _ _ _ _ (Nat.le_succ _) al rfl rfl;rintro e a3 W3 hp;cases e with
     | normal =>
       obtain ⟨Pi,WQ,Po⟩:=hp;have cl:=Pi.same _ _ (Nat.le_succ _) bl rfl;have cd:=Pi.same _ _ (Nat.le_refl _) bd rfl;have cs:=(Array.getElem?_eq_some_iff.1 cl).1;exact ⟨_,_,run_endRound (P:=P) none cl,rfl,⟨hI.putObj _ Po (Nat.le_succ _) cl rfl,World.putObj_heap_same cs,(World.putObj_heap_other (by omega)).trans cd⟩,Jq wV (Jq (Jq bp WQ) (Jr _ _ _ _ (Nat.le_succ _) cl rfl rfl))⟩
     | ret=>exact hp.elim
     | exit id=>exact hp.elim
     | goto t=>exact hp.elim
     | panic ch=>exact hp.elim
     | outgrown=>exact hp.elim
   · -- behind the iterator
     rintro e W2 ⟨⟨v,rfl⟩,hi,hl,hd⟩;exact ⟨none,_,run_endLoop (P:=P) hl (by simp [rc]),fB B _ (Nat.le_refl _) (hI.putObj _ hi (Nat.le_succ _) hl rfl) ((World.putObj_heap_other (by omega)).trans hd)⟩
def zad (T:Nat) (W:World) (b:Nat):Prop:=∃ v,W.cell? ⟨T,0,none⟩=some v/\v.ownBlock=some b
structure xg (T : Nat) (A B : World) : Prop where
 size:A.heap.size<=B.heap.size
 obj:∀ (i:Nat) (o:Obj),i ≠ T->¬ zad T A i->A.heap[i]?=some o->o.isCells=true->B.heap[i]?=some o
 own:∀ i,i < A.heap.size->zad T B i->zad T A i
 fresh:(∀ b,zad T A b->b < A.heap.size)->∀ b,zad T B b->b < B.heap.size
 nat:∀ v ds,jb A v ds->jb B v ds
section
variable {T:Nat} {A B C:World}
theorem lt_of_some {W:World} {i:Nat} {o:Obj} (h:W.heap[i]?=some o):i < W.heap.size:=(Array.getElem?_eq_some_iff.1 h).1
theorem xg.trans (h:xg T A B) (k:xg T B C):xg T A C:=
 ⟨Nat.le_trans h.size k.size,fun i o hT hn hi ho=>k.obj i o hT (fun e=>hn (h.own i (lt_of_some hi) e)) (h.obj i o hT hn hi ho) ho,fun i hi e=>h.own i hi (k.own i (Nat.lt_of_lt_of_le hi h.size) e),fun hf=>k.fresh (h.fresh hf),fun v ds hv=>k.nat v ds (h.nat v ds hv)⟩
theorem xg.of_ext (hT:T < A.heap.size) (h:Ext A B):xg T A B:=by
 have hc:B.cell? ⟨T,0,none⟩=A.cell? ⟨T,0,none⟩:=h.cell (p:=⟨T,0,none⟩) hT;exact ⟨h.size,fun i o _ _ hi _=>(h.below.block i (lt_of_some hi)).trans hi,fun i _ ⟨v,hv,e⟩=>⟨v,hc.symm.trans hv,e⟩,fun hf b ⟨v,hv,e⟩=>Nat.lt_of_lt_of_le (hf b ⟨v,hc.symm.trans hv,e⟩) h.size,fun v ds hv=>hv.ext h⟩
theorem xg.putObj (T:Nat) (W:World) (l:Nat) (o o':Obj) (hT:T ≠ l) (h:W.heap[l]?=some o) (ho:o.isCells=false):xg T W (W.putObj l o'):=by
 obtain ⟨h1,h2,h3⟩:=zq.putObj T W l o o' h ho;have hc:(W.putObj l o').cell? ⟨T,0,none⟩=W.cell? ⟨T,0,none⟩:=World.cell?_of_block (a:=⟨T,0,none⟩) (World.putObj_heap_other hT);exact ⟨h1,fun i x hi _ hx hc=>h2 i x hi hx hc,fun i _ ⟨v,hv,e⟩=>⟨v,hc.symm.trans hv,e⟩,fun hf b ⟨v,hv,e⟩=>Nat.lt_of_lt_of_le (hf b ⟨v,hc.symm.trans hv,e⟩) h1,h3⟩
def Safe (T:Nat) (W:World) (b:Nat):Prop:=b < W.heap.size/\b ≠ T/\¬ zad T W b
theorem Safe.keep {b:Nat} (h:Safe T A b) (k:xg T A B):Safe T B b:=⟨Nat.lt_of_lt_of_le h.1 k.size,h.2.1,fun e=>h.2.2 (k.own b h.1 e)⟩
theorem xg.block {b:Nat} (k:xg T A B) (h:Safe T A b) {i:Nat} {v:Value} (hv:A.cell? ⟨b,i,none⟩=some v):B.heap[b]?=A.heap[b]?:=by
 obtain ⟨o,ho,hc⟩:=cells_of_cell hv;exact (k.obj b o h.2.1 h.2.2 ho hc).trans ho.symm
theorem xg.cell {b i:Nat} {v:Value} (k:xg T A B) (h:Safe T A b) (hv:A.cell? ⟨b,i,none⟩=some v):B.cell? ⟨b,i,none⟩=some v:=(World.cell?_of_block (a:=⟨b,i,none⟩) (k.block h hv)).trans hv
theorem xg.cellA {a:Addr} {v:Value} (k:xg T A B) (h:Safe T A a.block) (hv:A.cell? a=some v):B.cell? a=some v:=by
 obtain ⟨o,ho,hc⟩:=cells_of_cell hv;exact (World.cell?_of_block ((k.obj _ o h.2.1 h.2.2 ho hc).trans ho.symm)).trans hv
end
section
variable {w w':World} {p q:Nat->Prop}
mutual
theorem PlV.turnC (hs : w.heap.size <= w'.heap.size) (hn : ∀ v ds, jb w v ds -> jb w' v ds) (hc : ∀ (a : Addr) (v : Value), p a.block -> w.cell? a = some v -> q a.block /\ w'.cell? a = some v) : ∀ (t : Pl) (v : Value), PlV w p t v -> PlV w' q t v
 | .mk l n d cs,v,h=>by
   unfold PlV at h ⊢;obtain ⟨s,A,c,e,h1,h2,h3,h4⟩:=h;exact ⟨s,A,c,e,hn _ _ h1,h2,h3,jd.turnC hs hn hc cs A 0 h4⟩
theorem jd.turnC (hs : w.heap.size <= w'.heap.size) (hn : ∀ v ds, jb w v ds -> jb w' v ds) (hc : ∀ (a : Addr) (v : Value), p a.block -> w.cell? a = some v -> q a.block /\ w'.cell? a = some v) : ∀ (l : List Pl) (A : Option Addr) (j : Nat), jd w p l A j -> jd w' q l A j
 | [],A,j,h=>by unfold jd; trivial
 | t :: r,A,j,h=>by
   unfold jd at h ⊢;obtain ⟨⟨ad,s,K,e,hb,yK,⟨k0,k1,k2,k3⟩,h2⟩,h3⟩:=h;have hp:p (ad.add (j * 4)).block:=by rw [ja]; exact yK
   have c0:=hc _ _ hp k0;have hq:q ad.block:=by have:=c0.1; rwa [ja] at this
   exact ⟨⟨ad,s,K,e,Nat.lt_of_lt_of_le hb hs,hq,⟨c0.2,(hc ⟨(ad.add (j * 4)).block,_,none⟩ _ hp k1).2,(hc ⟨(ad.add (j * 4)).block,_,none⟩ _ hp k2).2,(hc ⟨(ad.add (j * 4)).block,_,none⟩ _ hp k3).2⟩,PlV.turnC hs hn hc t _ h2⟩,jd.turnC hs hn hc r A (j+1) h3⟩
end
end
section
variable {T:Nat} {A B:World}
theorem xg.pl {t:Pl} {v:Value} (k:xg T A B) (h:PlV A (Safe T A) t v):PlV B (Safe T B) t v:=PlV.turnC k.size k.nat (fun a v hp hv=>⟨hp.keep k,k.cellA hp hv⟩) t v h
theorem xg.pls {l:List Pl} {D:Option Addr} {j:Nat} (k:xg T A B) (h:jd A (Safe T A) l D j):jd B (Safe T B) l D j:=jd.turnC k.size k.nat (fun a v hp hv=>⟨hp.keep k,k.cellA hp hv⟩) l D j h
theorem ja0 {b:Nat} (hT:T < A.heap.size) (hf:∀ b,zad T A b->b < A.heap.size) (hx:Ext A B) (hb:A.heap.size<=b) (hB:b < B.heap.size):Safe T B b:=
 ⟨hB,by omega,fun ⟨v,hv,e⟩=>by
   have:=hf b ⟨v,(hx.cell (p:=⟨T,0,none⟩) hT).symm.trans hv,e⟩
   omega⟩
theorem jd.below_ {W:World} {q:Nat->Prop} {l:List Pl} {D:Option Addr} {j:Nat} (h:jd W q l D j):jd W (fun b=>q b/\b < W.heap.size) l D j:=jd.turn (Nat.le_refl _) (fun _ _ h=>h) (fun b hb hq=>⟨⟨hq,hb⟩,rfl⟩) l D j h
theorem jd.mono {W:World} {q q':Nat->Prop} {l:List Pl} {D:Option Addr} {j:Nat} (h:jd W q l D j) (hq:∀ b,b < W.heap.size->q b->q' b):jd W q' l D j:=jd.turn (Nat.le_refl _) (fun _ _ h=>h) (fun b hb hp=>⟨hq b hb hp,rfl⟩) l D j h
def gam (T:Nat) (W:World) (v:Value) (L:List Pl):Prop:=∃ D c,v=.slice D L.length c/\L.length<=c/\c<=9223372036854775807/\jd W (Safe T W) L D 0
theorem gam.keep {v:Value} {L:List Pl} (h:gam T A v L) (k:xg T A B):gam T B v L:=by
 obtain ⟨D,c,e,h1,h2,h3⟩:=h;exact ⟨D,c,e,h1,h2,k.pls h3⟩
theorem gam.new {v:Value} {L:List Pl} (hT:T < A.heap.size) (hf:∀ b,zad T A b->b < A.heap.size) (hx:Ext A B) (h:∃ D c,v=.slice D L.length c/\L.length<=c/\c<=9223372036854775807/\jd B (fun b=>A.heap.size<=b) L D 0):gam T B v L:=by
 obtain ⟨D,c,e,h1,h2,h3⟩:=h;exact ⟨D,c,e,h1,h2,h3.mono fun b hb hq=>ja0 hT hf hx hq hb⟩
end
def FS (T base:Nat) (W:World) (acc:List Pl):Prop:=T < base/\base<=W.heap.size/\∃ v,W.heap[T]?=some (.cells #[v] 31 (0,0))/\yh base (fun b=>base<=b) W v acc
section
variable {T base:Nat} {W W':World} {acc:List Pl}
theorem FS.fresh (h:FS T base W acc):∀ b,zad T W b->b < W.heap.size:=fun b ⟨v,hv,e⟩=>by
 obtain ⟨h1,h2,u,hu,hq⟩:=h;rw [box1 hu] at hv;injection hv with hv
 subst hv;exact (hq.own e).2
theorem FS.lt (h:FS T base W acc):T < W.heap.size:=Nat.lt_of_lt_of_le h.1 h.2.1
theorem FS.ext (h:FS T base W acc) (hx:Ext W W'):FS T base W' acc:=by
 obtain ⟨h1,h2,u,hu,hq⟩:=h;exact ⟨h1,Nat.le_trans h2 hx.size,u,(hx.below.block T (by omega)).trans hu,hq.ext hx⟩
theorem yh.turnC {q:Nat->Prop} {v:Value} {l:List Pl} (h:yh base q W v l) (hs:W.heap.size<=W'.heap.size) (hn:∀ v ds,jb W v ds->jb W' v ds) (ho:∀ (i:Nat) (o:Obj),W.heap[i]?=some o->o.isCells=true->W'.heap[i]?=some o):yh base q W' v l:=by
 obtain ⟨rs,e,h2,h3⟩:=h;refine ⟨rs,e,h2.turn fun R hR=>?_,fun r hr=>⟨(h3 r hr).1,PlV.turnC hs hn (fun a v hp hv=>⟨hp,?_⟩) _ _ (h3 r hr).2⟩⟩
 · obtain ⟨cur,t,fr,hc⟩:=yae h2.1 R hR;rw [hc]; exact ho R _ hc rfl
 · obtain ⟨o,hob,EU⟩:=cells_of_cell hv;exact (World.cell?_of_block ((ho _ o hob EU).trans hob.symm)).trans hv
theorem FS.kept {row:Option Nat} (h:FS T base W acc) (hg:W.grownBy W' row) (hr:∀ r,row=some r->∃ o:Obj,W.heap[r]?=some o/\o.isCells=false):FS T base W' acc:=by
 obtain ⟨h1,h2,u,hu,hq⟩:=h;refine ⟨h1,Nat.le_trans h2 hg.size,u,cells_kept hg hr hu,hq.turnC hg.size (fun v ds hv=>qar hg hr hv) fun i o hi hc=>?_⟩;obtain ⟨c,t,f,rfl⟩:∃ c t f,o=.cells c t f:=by cases o <;> simp_all [Obj.isCells]
 exact cells_kept hg hr hi
end
section
variable {W:World} {q:Nat->Prop} {R:Nat}
mutual
theorem PlV.apart (hR : ∀ j x, W.cell? ⟨R, j, none⟩ = some x -> ∃ D n c, x = .slice D n c) : ∀ (t : Pl) (v : Value), PlV W q t v -> PlV W (fun b => q b /\ b ≠ R) t v
 | .mk l n d cs,v,h=>by
   unfold PlV at h ⊢;obtain ⟨s,A,c,e,h1,h2,h3,h4⟩:=h;exact ⟨s,A,c,e,h1,h2,h3,jd.apart hR cs A 0 h4⟩
theorem jd.apart (hR : ∀ j x, W.cell? ⟨R, j, none⟩ = some x -> ∃ D n c, x = .slice D n c) : ∀ (l : List Pl) (A : Option Addr) (j : Nat), jd W q l A j -> jd W (fun b => q b /\ b ≠ R) l A j
 | [],A,j,h=>by unfold jd; trivial
 | t :: r,A,j,h=>by
   unfold jd at h ⊢;obtain ⟨⟨ad,s,K,e,hb,yK,⟨k0,k1,k2,k3⟩,h2⟩,h3⟩:=h;refine ⟨⟨ad,s,K,e,hb,⟨yK,fun e=>?_⟩,⟨k0,k1,k2,k3⟩,PlV.apart hR t _ h2⟩,jd.apart hR r A (j+1) h3⟩;obtain ⟨D,n,c,hx⟩:=hR ((ad.add (j * 4)).off+1) _ (by rw [ja,e] at k1; exact k1);cases hx
end
end
def qaq (T lo:Nat) (A B:World):Prop:=∃ R i u D n c,lo<=R/\R ≠ T/\¬ zad T A R/\(∀ j x,A.cell? ⟨R,j,none⟩=some x->∃ D n c,x=.slice D n c)/\A.cell? ⟨R,i,none⟩=some u/\B=A.setCell ⟨R,i,none⟩ (.slice D n c)
theorem qaq.nat {T lo:Nat} {A B:World} (h:qaq T lo A B):∀ v ds,jb A v ds->jb B v ds:=by
 obtain ⟨R,i,u,D,n,c,-,-,-,h4,h5,rfl⟩:=h;obtain ⟨_,_,_,rfl⟩:=h4 i u h5;exact fun v ds hv=>hv.box h5 rfl _
theorem qaq.other {T lo:Nat} {A B:World} (h:qaq T lo A B):∀ (i:Nat) (o:Obj),A.heap[i]?=some o->o.isCells=false->B.heap[i]?=some o:=by
 obtain ⟨R,i,u,D,n,c,-,-,-,h4,h5,rfl⟩:=h;intro k o hk ho;rw [Below.heap_setCell _ _ _ k (fun e=>?_)]; exact hk;obtain ⟨o',KY,jH⟩:=cells_of_cell h5;have e':k=R:=e;rw [e',KY] at hk;injection hk with hk
 rw [hk,ho] at jH;cases jH
theorem qaq.ext {T lo:Nat} {w A B:World} (h:qaq T lo A B) (hx:Ext w A) (hlo:w.heap.size<=lo):Ext w B:=by
 obtain ⟨R,i,u,D,n,c,h1,-,-,h4,h5,rfl⟩:=h;exact hx.setCell (Nat.le_trans hlo h1) _
theorem qaq.keep {T lo:Nat} {A B:World} (h:qaq T lo A B):(∀ b,zad T B b ↔ zad T A b)/\A.heap.size=B.heap.size:=by
 obtain ⟨R,i,u,D,n,c,-,h2,-,h4,h5,rfl⟩:=h;have hc:(A.setCell ⟨R,i,none⟩ (.slice D n c)).cell? ⟨T,0,none⟩=A.cell? ⟨T,0,none⟩:=by rw [World.cell?_setCell_other _ _ _ _ (by intro e; injection e with e; exact h2 e)]
 exact ⟨fun b=>by unfold zad; rw [hc],by simp [World.setCell]⟩
theorem FS.rel {T base lo:Nat} {W W':World} {acc:List Pl} (h:FS T base W acc) (hr:qaq T lo W W'):FS T base W' acc:=by
 have hn:=hr.nat;have hk:=hr.keep.2;obtain ⟨R,i,u,D,n,c,h1,h2,h3,h4,h5,rfl⟩:=hr;obtain ⟨g1,g2,v,hv,hq⟩:=h;have hb:∀ k,k ≠ R->(W.setCell ⟨R,i,none⟩ (.slice D n c)).heap[k]?=W.heap[k]?:=fun k hk=>Below.heap_setCell _ _ _ k hk
 refine ⟨g1,by omega,v,(hb T (fun e=>h2 e.symm)).trans hv,?_⟩;obtain ⟨rs,e,q2,q3⟩:=hq;refine ⟨rs,e,q2.turn fun S hS=>hb S (fun e=>h3 ⟨v,box1 hv,by rw [<- e]; exact hS⟩),fun r hr=>⟨(q3 r hr).1,?_⟩⟩;exact PlV.turn_ (by omega) hn (fun b _ hq=>⟨hq.1,hb b hq.2⟩) (PlV.apart h4 _ _ (q3 r hr).2)
structure uab (T R : Nat) (A B : World) : Prop where
 size:A.heap.size<=B.heap.size
 obj:∀ (i:Nat) (o:Obj),i ≠ T->i ≠ R->¬ zad T A i->A.heap[i]?=some o->o.isCells=true->B.heap[i]?=some o
 own:∀ i,i < A.heap.size->zad T B i->zad T A i
 fresh:(∀ b,zad T A b->b < A.heap.size)->∀ b,zad T B b->b < B.heap.size
 nat:∀ v ds,jb A v ds->jb B v ds
section
variable {T R:Nat} {A B C:World}
theorem uab.trans (h:uab T R A B) (k:uab T R B C):uab T R A C:=
 ⟨Nat.le_trans h.size k.size,fun i o hT hR hn hi ho=>k.obj i o hT hR (fun e=>hn (h.own i (lt_of_some hi) e)) (h.obj i o hT hR hn hi ho) ho,fun i hi e=>h.own i hi (k.own i (Nat.lt_of_lt_of_le hi h.size) e),fun hf=>k.fresh (h.fresh hf),fun v ds hv=>k.nat v ds (h.nat v ds hv)⟩
theorem xg.x (h:xg T A B) (R:Nat):uab T R A B:=⟨h.size,fun i o hT _ hn hi ho=>h.obj i o hT hn hi ho,h.own,h.fresh,h.nat⟩
theorem uab.set {i:Nat} {u:Value} {D:Option Addr} {n c:Nat} (hT:R ≠ T) (hu:A.cell? ⟨R,i,none⟩=some u) (hd:qo u=false):uab T R A (A.setCell ⟨R,i,none⟩ (.slice D n c)):=by
 have hc:(A.setCell ⟨R,i,none⟩ (.slice D n c)).cell? ⟨T,0,none⟩=A.cell? ⟨T,0,none⟩:=by rw [World.cell?_setCell_other _ _ _ _ (by intro e; injection e with e; exact hT e)]
 have hs:(A.setCell ⟨R,i,none⟩ (.slice D n c)).heap.size=A.heap.size:=by simp [World.setCell]
 exact ⟨by omega,fun k o _ hR _ hk _=>by rw [Below.heap_setCell _ _ _ k hR]; exact hk,fun k _ ⟨v,hv,e⟩=>⟨v,hc ▸ hv,e⟩,fun hf b ⟨v,hv,e⟩=>by rw [hs]; exact hf b ⟨v,hc ▸ hv,e⟩,fun v ds hv=>hv.box hu hd _⟩
def gar (T R:Nat) (W:World) (b:Nat):Prop:=Safe T W b/\b ≠ R
theorem gar.keep {b:Nat} (h:gar T R A b) (k:uab T R A B):gar T R B b:=⟨⟨Nat.lt_of_lt_of_le h.1.1 k.size,h.1.2.1,fun e=>h.1.2.2 (k.own b h.1.1 e)⟩,h.2⟩
theorem uab.cellA {a:Addr} {v:Value} (k:uab T R A B) (h:gar T R A a.block) (hv:A.cell? a=some v):B.cell? a=some v:=by
 obtain ⟨o,ho,hc⟩:=cells_of_cell hv;exact (World.cell?_of_block ((k.obj _ o h.1.2.1 h.2 h.1.2.2 ho hc).trans ho.symm)).trans hv
theorem uab.pls {l:List Pl} {D:Option Addr} {j:Nat} (k:uab T R A B) (h:jd A (gar T R A) l D j):jd B (gar T R B) l D j:=jd.turnC k.size k.nat (fun a v hp hv=>⟨hp.keep k,k.cellA hp hv⟩) l D j h
end
def ua2 (T R:Nat) (W:World) (v:Value) (L:List Pl):Prop:=∃ D c,v=.slice D L.length c/\L.length<=c/\c<=9223372036854775807/\jd W (gar T R W) L D 0
theorem ua2.keep {T R:Nat} {A B:World} {v:Value} {L:List Pl} (h:ua2 T R A v L) (k:uab T R A B):ua2 T R B v L:=by
 obtain ⟨D,c,e,h1,h2,h3⟩:=h;exact ⟨D,c,e,h1,h2,k.pls h3⟩
theorem ua2.rowS {T R:Nat} {A:World} {v:Value} {L:List Pl} (h:ua2 T R A v L):gam T A v L:=by
 obtain ⟨D,c,e,h1,h2,h3⟩:=h;exact ⟨D,c,e,h1,h2,h3.mono fun b _ hb=>hb.1⟩
end Go.Proofs.YtcepajijiabkmaaGreat

namespace Go.Proofs.YtcepajijiabkmaaGreat
open Lib (hid)
def snc (l:Sp):Nat:=l.foldl (fun a x=>Nat.gcd a x.1.natAbs) 0
theorem jcp {l:Sp} {k:Nat} (hk:k < l.length):snc (l.take (k+1))=Nat.gcd (snc (l.take k)) l[k].1.natAbs:=by
 unfold snc;rw [List.take_succ_eq_append_getElem hk,List.foldl_append]; rfl
theorem jbr : ∀ (l : Sp) (a : Nat), l.foldl (fun a x => Nat.gcd a x.1.natAbs) a ∣ a /\ ∀ x ∈ l, l.foldl (fun a x => Nat.gcd a x.1.natAbs) a ∣ x.1.natAbs
 | [],a=>⟨Nat.dvd_refl a,fun x hx=>by cases hx⟩
 | y :: r,a=>by
   obtain ⟨h1,h2⟩:=jbr r (Nat.gcd a y.1.natAbs);rw [List.foldl_cons];refine ⟨Nat.dvd_trans h1 (Nat.gcd_dvd_left _ _),fun x hx=>?_⟩;rcases List.mem_cons.1 hx with rfl | hx
   · exact Nat.dvd_trans h1 (Nat.gcd_dvd_right _ _)
   · exact h2 x hx
theorem kbi {l:Sp}:∀ x ∈ l,snc l ∣ x.1.natAbs:=(jbr l 0).2
theorem kcz {l:Sp} {x:Int × Mo} (hx:x ∈ l) (h0:x.1 ≠ 0):0 < snc l:=Nat.pos_of_dvd_of_pos (kbi x hx) (by omega)
theorem xch {l:Sp} {x:Int × Mo} (hx:x ∈ l) (h0:x.1 ≠ 0):snc l<=x.1.natAbs:=Nat.le_of_dvd (by omega) (kbi x hx)
theorem kc4 : ∀ (l : Sp) (N : Nat), (∀ x ∈ l, x.1.natAbs <= N) -> snc l <= N
 | l,N,h=>by
   by_cases hx:∃ x ∈ l,x.1 ≠ 0
   · obtain ⟨x,hx,h0⟩:=hx;exact Nat.le_trans (xch hx h0) (h x hx)
   · have h0:∀ x ∈ l,x.1.natAbs=0:=fun x ed=>by
      have:¬ x.1 ≠ 0:=fun h=>hx ⟨x,ed,h⟩
      omega
     have:∀ (l:Sp),(∀ x ∈ l,x.1.natAbs=0)->l.foldl (fun a x=>Nat.gcd a x.1.natAbs) 0=0:=by
      intro l
      induction l with
      | nil=>intro _; rfl
      | cons y r ih =>
        intro h;rw [List.foldl_cons,h y List.mem_cons_self];exact ih fun x hx=>h x (List.mem_cons_of_mem _ hx)
     unfold snc;rw [this l h0]; omega
def sdv : Sp -> Int
 | []=>1
 | x :: r=>if x.1 < 0 then -(snc (x :: r):Int) else (snc (x :: r):Int)
def zx (d:Int) (l:Sp):Sp:=l.map fun x=>(x.1.tdiv d,x.2)
def ssn (l:Sp):Sp:=zx (sdv l) l
theorem vbi {l:Sp} (h:l ≠ []):(sdv l).natAbs=snc l:=by
 cases l with
 | nil=>exact absurd rfl h
 | cons x r =>
   show (if x.1 < 0 then -(snc (x :: r):Int) else (snc (x :: r):Int)).natAbs=snc (x :: r)
   split
   · rw [Int.natAbs_neg,Int.natAbs_natCast]
   · rw [Int.natAbs_natCast]
theorem ka6 {l:Sp}:∀ x ∈ l,sdv l ∣ x.1:=fun x hx=>by
 rw [<- Int.natAbs_dvd_natAbs,vbi (fun e=>by rw [e] at hx; cases hx)];exact kbi x hx
theorem gbr {l:Sp} (h:∀ x ∈ l,x.1 ≠ 0):sdv l ≠ 0:=by
 cases l with
 | nil=>decide
 | cons x r =>
   have h1:=kcz (l:=x :: r) (x:=x) List.mem_cons_self (h x List.mem_cons_self);have h2:=vbi (l:=x :: r) (by simp);omega
theorem zas : ∀ l : Sp, qp l -> ∀ x ∈ l, x.1 ≠ 0
 | [],_,x,hx=>by cases hx
 | (z,m) :: r,h,x,hx=>by
   unfold qp at h;rcases List.mem_cons.1 hx with rfl | hx
   · exact h.1
   · exact zas r h.2.2 x hx
theorem kbb {d:Int} {l:Sp} {x:Int × Mo} (h:x ∈ zx d l):∃ y ∈ l,x=(y.1.tdiv d,y.2):=by
 unfold zx at h;obtain ⟨y,hy,e⟩:=List.mem_map.1 h;exact ⟨y,hy,e.symm⟩
theorem ucy {a d:Int} (ha:a ≠ 0) (h:d ∣ a):a.tdiv d ≠ 0:=fun e=>ha (by have:=Int.tdiv_mul_cancel h; rw [e] at this; omega)
theorem zbs {d : Int} : ∀ l : Sp, qp l -> (∀ x ∈ l, d ∣ x.1) -> qp (zx d l)
 | [],_,_=>by trivial
 | (z,m) :: r,h,hd=>by
   have h':=h;unfold qp at h';have e:zx d ((z,m) :: r)=(z.tdiv d,m) :: zx d r:=rfl;rw [e];unfold qp;refine ⟨ucy h'.1 (hd (z,m) List.mem_cons_self),fun x hx=>?_,zbs r h'.2.2 fun x hx=>hd x (List.mem_cons_of_mem _ hx)⟩;obtain ⟨y,hy,rfl⟩:=kbb hx;exact h'.2.1 y hy
theorem wbr (ρ : Int -> Rat) {d : Int} : ∀ l : Sp, (∀ x ∈ l, d ∣ x.1) -> jk ρ (zx d l) * (d : Rat) = jk ρ l
 | [],_=>by simp [zx,jk]
 | (z,m) :: r,hd=>by
   have e:zx d ((z,m) :: r)=(z.tdiv d,m) :: zx d r:=rfl;have ih:=wbr ρ r fun x hx=>hd x (List.mem_cons_of_mem _ hx)
   have h1:(z:Rat)=((z.tdiv d:Int):Rat) * (d:Rat):=by
    have:=Int.tdiv_mul_cancel (hd (z,m) List.mem_cons_self);rw [<- Rat.intCast_mul,this]
   rw [e];simp only [jk];rw [<- ih,h1]
   grind
theorem zbl {d : Int} : ∀ l : Sp, yg (zx d l) <= yg l
 | []=>Nat.le_refl _
 | (z,m) :: r=>by
   have e:zx d ((z,m) :: r)=(z.tdiv d,m) :: zx d r:=rfl;rw [e];simp only [yg];have:=zbl (d:=d) r;have:(z.tdiv d).natAbs<=z.natAbs:=by rw [Int.natAbs_tdiv]; exact Nat.div_le_self _ _
   omega
theorem xcz {l:Sp} (h:qp l):qp (ssn l):=zbs l h ka6
def snP (p:Pl):Pl:=Pl.ofS (ssn p.sp)
theorem jbq (p:Pl):∀ x ∈ ssn p.sp,x.2.nonneg:=fun x hx=>by
 obtain ⟨y,hy,rfl⟩:=kbb hx;exact p.sp_nn y hy
theorem qch (p:Pl):(snP p).sp=ssn p.sp:=(Pl.sp_uniq (xcz p.sp_can) (jbq p) fun ρ=>by unfold snP; rw [Pl.ofS_val ρ (jbq p)]).symm
theorem kai (p:Pl):(snP p).Can:=Pl.ofS_can _
theorem uch (p:Pl):sdv p.sp ≠ 0:=gbr (zas _ p.sp_can)
theorem war (ρ:Int->Rat) (p:Pl):(snP p).val ρ * (sdv p.sp:Rat)=p.val ρ:=by
 unfold snP;rw [Pl.ofS_val ρ (jbq p),<- Pl.sp_val ρ p];exact wbr ρ p.sp ka6
theorem jai {p:Pl} {E D:Nat} (h:Fit p E D):Fit (snP p) E D:=
 ⟨kai p,Pl.ofS_ex fun x hx=>by obtain ⟨y,hy,rfl⟩:=kbb hx; exact h.sp_le y hy,Nat.lt_of_le_of_lt (Pl.ofS_nr _) (Nat.lt_of_le_of_lt (zbl _) h.sp_nrm)⟩
theorem vcz {p:Pl} {n:Int} (h:Low n p):Low n (snP p):=fun ρ ρ' he=>by
 have h1:=war ρ p;have h2:=war ρ' p;have h3:=h ρ ρ' he;have h0:(sdv p.sp:Rat) ≠ 0:=by
  have:=uch p;exact fun e=>this (by exact_mod_cast e)
 rw [<- h1,<- h2] at h3
 grind
theorem kax {p:Pl} (h:p.Can):(snP p).lv=p.lv:=by
 have h1:(snP p).lv<=p.lv:=qa5 h.lv_nonneg.1 (kai p) (vcz (yay h));have h2:p.lv<=(snP p).lv:=by
  refine qa5 (kai p).lv_nonneg.1 h fun ρ ρ' he=>?_
  rw [<- war,<- war ρ',yay (kai p) ρ ρ' he]
 omega
def wab (l:Int) (r:Pl):List Pl:=wu l r :: jy l r (uo l r)
def jal (l:Int) (f:Pl):List Pl:=(uk l f).flatMap (wab l) ++ if (uk l f).length=0\/uaf l f=true then [] else [ji l 0 ((uk l f).getD 0 Pl.zero)]
def prE (l:Int) (a b:List Pl):List Pl:=a.flatMap fun r=>b.flatMap fun s=>jy l r s
def ybj (l:Int) (Ls:List (List Pl)):List Pl:=(List.range Ls.length).flatMap fun i=>(Ls.drop (i+1)).flatMap (prE l (Ls.getD i []))
def elems (l:Int) (fs:List Pl):List Pl:=fs.flatMap (jal l) ++ ybj l (fs.map (uk l))
def Seg {α:Type} (M:List α) (k:Nat) (L:List α):Prop:=∃ a b,M=a ++ (L ++ b)/\a.length=k
theorem Seg.get {α:Type} {M:List α} {k:Nat} {L:List α} (h:Seg M k L) (j:Nat) (hj:j < L.length):∃ h':k+j < M.length,M[k+j]=L[j]:=by
 obtain ⟨a,b,rfl,rfl⟩:=h;refine ⟨by simp only [List.length_append]; omega,?_⟩;rw [List.getElem_append_right (by omega)];simp only [Nat.add_sub_cancel_left];rw [List.getElem_append_left hj]
theorem Seg.all {α:Type} (M:List α):Seg M 0 M:=⟨[],[],by simp,rfl⟩
theorem Seg.left {α:Type} {M:List α} {k:Nat} {L R:List α} (h:Seg M k (L ++ R)):Seg M k L:=by
 obtain ⟨a,b,rfl,e⟩:=h;exact ⟨a,R ++ b,by simp,e⟩
theorem Seg.right {α:Type} {M:List α} {k:Nat} {L R:List α} (h:Seg M k (L ++ R)):Seg M (k+L.length) R:=by
 obtain ⟨a,b,rfl,e⟩:=h;exact ⟨a ++ L,b,by simp,by rw [List.length_append,e]⟩
noncomputable def putL (acc:List Pl) (p:Pl):List Pl:=if p.lv=0 then acc else if acc.any (nT (snP p))=true then acc else acc ++ [snP p]
noncomputable def putA (acc:List Pl) (l:List Pl):List Pl:=l.foldl putL acc
noncomputable def df (l:Int) (fs:List Pl):List Pl:=putA [] (elems l fs)
end Go.Proofs.YtcepajijiabkmaaGreat

set_option maxRecDepth 100000
set_option maxHeartbeats 8000000
namespace Go.Proofs.YtcepajijiabkmaaGreat
open Lib (hid)
open Go.RowKit Go.Shelf
attribute [local go_sem] Oper.semAt_some
structure Env (T lp : Nat) (J : Nat -> World -> Prop) (M : List Pl) : Prop where
 ext:∀ k W W',J k W->Ext W W'->J k W'
 step:∀ k v W,(h:k < M.length)->J k W->(∃ q,PlV W q M[k] v)->∀ m,YieldAt Fence.wide m Tryz.prog lp #[v] W fun e W'=>e=.returned (.bool true)/\J (k+1) W'/\xg T W W'
structure Fw (T : Nat) (W : World) : Prop where
 lt:T < W.heap.size
 fresh:∀ b,zad T W b->b < W.heap.size
theorem Fw.keep {T:Nat} {A B:World} (h:Fw T A) (k:xg T A B):Fw T B:=⟨Nat.lt_of_lt_of_le h.lt k.size,k.fresh h.fresh⟩
theorem Fw.ext {T:Nat} {A B:World} (h:Fw T A) (hx:Ext A B):Fw T B:=h.keep (xg.of_ext h.lt hx)
def xcx (J:Nat->World->Prop) (T k:Nat) (w:World) (e:Ending) (w':World):Prop:=e=.returned (.bool true)/\J k w'/\xg T w w'
theorem xa3 {w : World} {T lp k : Nat} {J : Nat -> World -> Prop} {M : List Pl} {r s : Pl} {l : Int} {L : List Pl} (v0 v1 : Value) {q0 q1 : Nat -> Prop} (h0 : PlV w q0 r v0) (h1 : PlV w q1 s v1) (hE : Env T lp J M) (hF : Fw T w) (hJ : J k w) (hS : Seg M k L) (hn : L.length <= 1000)
 (HP:Hid (∀ W',Ext w W'->Calls Tryz.prog 138 #[v0,v1,.int .i64 l] W' (qaj (fun b=>W'.heap.size<=b) L W'))) :
 Calls Tryz.prog 112 #[v0,v1,.int .i64 l,.func (.yield lp) #[] #[]] w (xcx J T (k+L.length) w):=by
 have HE:=hid hE;have vX:=hid hF;have HJ:=hid hJ;have HS:=hid hS;have kX:∀ k:Nat,(Fence.wide.depth.isSome=true->1<=k):=fun k h=>by cases h
 clear hE hF hJ hS;have H0:=hid h0;have H1:=hid h1;obtain ⟨A0,m0,e0,B0,f0,rfl,-⟩:=h0.open_;obtain ⟨A1,m1,e1,B1,f1,rfl,-⟩:=h1.open_;obtain ⟨Jy,W,fK,jI,iE,aF,bW,hx1,bU,cO⟩:=b_2 w r s (.slice A0 m0 e0) (.slice B0 r.cs.length f0) (.slice A1 m1 e1) (.slice B1 s.cs.length f1);have HX:=hid (aF.trans hx1);have fO:=hid bU;have fM:=hid cO;have jS:W.heap.size=w.heap.size+1+1:=bW;clear h0 h1 aF hx1 bU cO;obtain ⟨b0,b1,b2,b3⟩:=fO.out;obtain ⟨d0,d1,d2,d3⟩:=fM.out;unfold plV at HP ⊢;refine (callsIn_wide (n:=5)).1 ?_;refine callsIn_of_wp Tryz.func112 rfl trivial ?_ rfl;simp only [Tryz.ntmps112,List.size_toArray,List.length_cons,List.length_nil,Nat.reduceAdd,Nat.reduceSub,Array.replicate_succ,Array.replicate_zero,List.push_toArray,List.append_toArray,List.nil_append,List.cons_append]
 gi_wp2_with fail
 clear fK jI;clear b0 b1 b2 b3 d0 d1 d2 d3;refine ⟨trivial,?_⟩;refine (callsIn_wide.2 (HP.out _ HX.out)).mono ?_;rintro e w1 ⟨vr,rfl,Nc,x1⟩;have X1:=hid (HX.out.trans x1);obtain ⟨D0,dc,rfl,bZ,dw,aK⟩:=Nc.at_;have MF:Hid (gam T w1 (.slice D0 L.length dc) L):=hid (gam.new (vX.out.ext HX.out).lt (vX.out.ext HX.out).fresh x1 ⟨D0,dc,rfl,bZ,dw,aK⟩);clear Nc x1 aK HP iE bW jS
 gi_wp2_with fail
 gi_loopw [22] (fun iv wr=>∃ j:Nat,j<=L.length/\iv=.int .i64 j/\Hid (J (k+j) wr/\xg T w wr/\gam T wr (.slice D0 L.length dc) L)) (fun iv _=>L.length - (intOf iv).toNat)
 case atStart=>exact ⟨0,Nat.zero_le _,rfl,hid ⟨HE.out.ext _ _ _ HJ.out X1.out,xg.of_ext vX.out.lt X1.out,MF.out⟩⟩
 case round =>
  obtain ⟨j,hj,rfl,HI⟩:=hrel
  by_cases af:j < L.length
  · obtain ⟨hJ,hK,D0',dc',e',-,-,aK⟩:=HI.out;injection e' with e1 e2 e3
    subst e1 e3;obtain ⟨ad,C0,j0,k0,C1,j1,k1,rfl,ah,⟨g0,g1,g2,g3⟩,gU⟩:=aK.kid j af;obtain ⟨E5,FQ⟩:=HS.out.get j af;have fZ:=vX.out.keep hK;obtain ⟨V,hV⟩:=n_m ((wr.alloc (.cells #[.int .i64 L[j].lv,.bool L[j].neg,.slice C0 j0 k0,.slice C1 j1 k1] 33)));have di:Ext wr V:=by rw [<- hV]; exact (Ext.refl wr).alloc _
    have dF:=HE.out.step (k+j) _ V E5 (HE.out.ext _ _ _ hJ di) ⟨_,by rw [FQ]; exact gU.ext di⟩;obtain ⟨s0,s1,s2,s3⟩:jc V wr.heap.size L[j] (.slice C0 j0 k0) (.slice C1 j1 k1):=by rw [<- hV]; exact jc.new wr L[j] _ _ _
    obtain ⟨fn,tmps,assign,body,hy,AX⟩:=dF 4;have oO:=hid AX;have BG:=hid (hK.trans (xg.of_ext fZ.lt di));have HRV:=hid (HI.out.2.2.keep (xg.of_ext fZ.lt di));unfold plV at hy;clear AX dF di hJ hK aK ah gU E5 FQ fZ;generalize L[j]=c at *
    gi_wp2_with fail
    clear g0 g1 g2 g3 hV s0 s1 s2 s3;refine oO.out.mono ?_;rintro e W2 ⟨rfl,FW,FV⟩;have HN:Hid (J (k+(j+1)) W2/\xg T w W2/\gam T W2 (.slice (some ad) L.length dc) L):=hid ⟨by rw [<- Nat.add_assoc]; exact FW,BG.out.trans FV,HRV.out.keep FV⟩;clear FW FV oO hy HI
    gi_wp2_with fail
    go_roundw
    case rel=>exact ⟨j+1,by omega,by go_num,HN.out⟩
    case measure=>simp [intOf]; omega
  · obtain rfl:j=L.length:=by omega
    have hf:=HI.out;clear HI
    gi_wp2_with fail
    exact bodyPost_ret (v:=.bool true) (by simp [results,Tryz.results112,go_sem]) rfl ⟨rfl,hf.1,hf.2.1⟩
end Go.Proofs.YtcepajijiabkmaaGreat

namespace Go.Proofs.YtcepajijiabkmaaGreat
open Lib (hid)
open Go.RowKit Go.Shelf
attribute [local go_sem] Oper.semAt_some
theorem yab {α β:Type} (f:α->List β) (A:List α) (i:Nat) (hi:i < A.length):((A.take (i+1)).flatMap f).length=((A.take i).flatMap f).length+(f A[i]).length:=by
 rw [List.take_succ_eq_append_getElem hi,List.flatMap_append,List.length_append]; simp
theorem Seg.flat {α β:Type} {M:List β} {k:Nat} {f:α->List β} {A:List α} (h:Seg M k (A.flatMap f)) (i:Nat) (hi:i < A.length):Seg M (k+((A.take i).flatMap f).length) (f A[i]):=by
 have e:A.flatMap f=(A.take i).flatMap f ++ (f A[i] ++ (A.drop (i+1)).flatMap f):=by
  conv=>lhs; rw [<- List.take_append_drop i A,List.flatMap_append,List.drop_eq_getElem_cons hi,List.flatMap_cons]
 rw [e] at h;exact h.right.left
theorem kcs {w : World} {T lp k : Nat} {J : Nat -> World -> Prop} {M : List Pl} {A B : List Pl} {l : Int} (va vb : Value) (ha : gam T w va A) (hb : gam T w vb B) (hE : Env T lp J M) (hF : Fw T w) (hJ : J k w) (hS : Seg M k (prE l A B)) (UT : A.length <= 1000000) (hBn : B.length <= 1000000)
 (HP:Hid (∀ r ∈ A,∀ s ∈ B,(jy l r s).length<=1000/\∀ W' v0 v1 q0 q1,PlV W' q0 r v0->PlV W' q1 s v1->Calls Tryz.prog 138 #[v0,v1,.int .i64 l] W' (qaj (fun b=>W'.heap.size<=b) (jy l r s) W'))) :
 Calls Tryz.prog 88 #[va,vb,.int .i64 l,.func (.yield lp) #[] #[]] w (xcx J T (k+(prE l A B).length) w):=by
 have HE:=hid hE;have vX:=hid hF;have HJ:=hid hJ;have HS:=hid hS;have HA:=hid ha;have HB:=hid hb;obtain ⟨D0,c0,rfl,bZ,dw,-⟩:=ha;obtain ⟨E0,d0,rfl,dO,nR,-⟩:=hb;clear hE hF hJ hS;refine (callsIn_wide (n:=5)).1 ?_;refine callsIn_of_wp Tryz.func88 rfl trivial ?_ rfl;simp only [Tryz.ntmps88,List.size_toArray,List.length_cons,List.length_nil,Nat.reduceAdd,Nat.reduceSub,Array.replicate_succ,Array.replicate_zero,List.push_toArray,List.append_toArray,List.nil_append,List.cons_append]
 gi_wp2_with fail
 gi_loopw [15] (fun iv wr=>∃ i:Nat,i<=A.length/\iv=.int .i64 i/\Hid (J (k+(prE l (A.take i) B).length) wr/\xg T w wr)) (fun iv _=>A.length - (intOf iv).toNat)
 case atStart=>exact ⟨0,Nat.zero_le _,rfl,hid ⟨by simpa [prE] using HJ.out,xg.of_ext vX.out.lt (Ext.refl w)⟩⟩
 case round =>
  obtain ⟨i,hi,rfl,HI⟩:=hrel
  by_cases af:i < A.length
  · obtain ⟨hJ,hK⟩:=HI.out;have fZ:=vX.out.keep hK;obtain ⟨D0',c0',e',-,-,aK⟩:=HA.out.keep hK;injection e' with e1 e2 e3
    subst e1 e3;obtain ⟨ad,C0,j0,k0,C1,j1,k1,rfl,ah,⟨g0,g1,g2,g3⟩,gU⟩:=aK.kid i af;have eX:=hid (HS.out.flat i af);have lG:=hid (yab (fun r=>B.flatMap fun s=>jy l r s) A i af);have Gu:=hid (HP.out A[i] (List.getElem_mem af));obtain ⟨V,hV⟩:=n_m ((wr.alloc (.cells #[.int .i64 A[i].lv,.bool A[i].neg,.slice C0 j0 k0,.slice C1 j1 k1] 33)));have di:Ext wr V:=by rw [<- hV]; exact (Ext.refl wr).alloc _
    have qL:jc V wr.heap.size A[i] (.slice C0 j0 k0) (.slice C1 j1 k1):=by rw [<- hV]; exact jc.new wr A[i] _ _ _
    have jR:=hid qL;have fP:Safe T V wr.heap.size:=ja0 fZ.lt fZ.fresh di (Nat.le_refl _) (by rw [<- hV]; simp);have gI:=hid fP;have BG:=hid (hK.trans (xg.of_ext fZ.lt di));have JY:=hid (HE.out.ext _ _ _ hJ di);have MG:=hid ((xg.of_ext fZ.lt di).pl gU);obtain ⟨g,hg⟩:=n_m (wr.heap.size);rw [hg] at jR gI;obtain ⟨n0,gV⟩:=n_m (k+(prE l (A.take i) B).length);have yY:=hid gV;unfold prE at gV;rw [gV] at eX;rw [yY.out] at JY;clear hJ hK aK ah gU fZ di qL fP HI gV;generalize A[i]=r at *
    gi_wp2_with fail
    try rw [hg]
    clear g0 g1 g2 g3 hV hg
    gi_loopw [21] (fun iv wr=>∃ j:Nat,j<=B.length/\iv=.int .i64 j/\Hid (J (n0+((B.take j).flatMap fun s=>jy l r s).length) wr/\xg T V wr)) (fun iv _=>B.length - (intOf iv).toNat)
    case atStart=>exact ⟨0,Nat.zero_le _,rfl,hid ⟨by simpa using JY.out,xg.of_ext (vX.out.keep BG.out).lt (Ext.refl V)⟩⟩
    case round =>
     obtain ⟨j,hj,rfl,o8⟩:=hrel
     by_cases mO:j < B.length
     · obtain ⟨FW,FV⟩:=o8.out;have IL:=(vX.out.keep BG.out).keep FV;obtain ⟨E0',d0',e',-,-,iR⟩:=(HB.out.keep BG.out).keep FV;injection e' with e1 e2 e3
       subst e1 e3;obtain ⟨Zt,G0,i0,h0,G1,i1,h1,rfl,FM,⟨f0,f1,f2,f3⟩,Ig⟩:=iR.kid j mO;have Rz:=hid (eX.out.flat j mO);have Sm:=hid (yab (fun s=>jy l r s) B j mO);obtain ⟨WH,uG⟩:=Gu.out B[j] (List.getElem_mem mO);obtain ⟨U,hU⟩:=n_m ((wr.alloc (.cells #[.int .i64 B[j].lv,.bool B[j].neg,.slice G0 i0 h0,.slice G1 i1 h1] 33)));have hxU:Ext wr U:=by rw [<- hU]; exact (Ext.refl wr).alloc _
       obtain ⟨s0,s1,s2,s3⟩:jc U wr.heap.size B[j] (.slice G0 i0 h0) (.slice G1 i1 h1):=by rw [<- hU]; exact jc.new wr B[j] _ _ _
       have FU:=FV.trans (xg.of_ext IL.lt hxU);obtain ⟨b0,b1,b2,b3⟩:jc U g r (.slice C0 j0 k0) (.slice C1 j1 k1):=⟨FU.cell gI.out jR.out.1,FU.cell gI.out jR.out.2.1,FU.cell gI.out jR.out.2.2.1,FU.cell gI.out jR.out.2.2.2⟩;have tK:=hid (xa3 (k:=n0+((B.take j).flatMap fun s=>jy l r s).length) _ _ (FU.pl MG.out) (Ig.ext hxU) HE.out (IL.ext hxU) (HE.out.ext _ _ _ FW hxU) Rz.out WH (hid fun W' hx=>uG W' _ _ _ _ ((FU.pl MG.out).ext hx) ((Ig.ext hxU).ext hx)));have HKU:=hid FU;unfold plV at tK;clear FW FV IL iR FM Ig hxU FU uG o8;generalize B[j]=s at *
       gi_wp2_with fail
       clear f0 f1 f2 f3 hU s0 s1 s2 s3 b0 b1 b2 b3;refine ⟨trivial,?_⟩;refine (callsIn_wide.2 tK.out).mono ?_;rintro e W2 ⟨rfl,hJ3,LP⟩;have HN:Hid (J (n0+((B.take (j+1)).flatMap fun s=>jy l r s).length) W2/\xg T V W2):=hid ⟨by rw [Sm.out,<- Nat.add_assoc]; exact hJ3,HKU.out.trans LP⟩;clear hJ3 LP tK
       gi_wp2_with fail
       go_roundw
       case rel=>exact ⟨j+1,by omega,by go_num,HN.out⟩
       case measure=>simp [intOf]; omega
     · obtain rfl:j=B.length:=by omega
       have hf:=o8.out;rw [List.take_length] at hf
       have HN:Hid (J (k+(prE l (A.take (i+1)) B).length) wr/\xg T w wr):=hid ⟨by
        have h1:=lG.out;have h2:=yY.out;unfold prE at h2 ⊢
        rw [h1,<- Nat.add_assoc,h2]; exact hf.1,BG.out.trans hf.2⟩
       clear o8 hf
       gi_wp2_with fail
       go_roundw
       case rel=>exact ⟨i+1,by omega,by go_num,HN.out⟩
       case measure=>simp [intOf]; omega
  · obtain rfl:i=A.length:=by omega
    have hf:=HI.out;rw [List.take_length] at hf;clear HI
    gi_wp2_with fail
    exact bodyPost_ret (v:=.bool true) (by simp [results,Tryz.results88,go_sem]) rfl ⟨rfl,hf.1,hf.2⟩
end Go.Proofs.YtcepajijiabkmaaGreat

namespace Go.Proofs.YtcepajijiabkmaaGreat
open Lib (hid)
open Go.RowKit Go.Shelf
attribute [local go_sem] Oper.semAt_some
theorem gbh (a:Addr):a.add 0=a:=by simp [Addr.add]
def tailE (l:Int) (A:List Pl) (c:Bool):List Pl:=if A.length=0\/c=true then [] else [ji l 0 (A.getD 0 Pl.zero)]
theorem yca {w : World} {T lp k E D : Nat} {J : Nat -> World -> Prop} {M : List Pl} {A : List Pl} {l : Int} {c : Bool} (va : Value) (hl : 1 <= l) (aj : l <= 4) (ha : gam T w va A) (hE : Env T lp J M) (hF : Fw T w) (hJ : J k w) (hS : Seg M k (A.flatMap (wab l) ++ tailE l A c)) (UT : A.length <= 1000000) (aI : ∀ r ∈ A, Fit r E D) (hE6 : E <= 62) (hD : D <= 1099511627774)
 (HP:Hid (∀ r ∈ A,(jy l r (uo l r)).length<=1000/\∀ W' v0 v1 q0 q1,PlV W' q0 r v0->PlV W' q1 (uo l r) v1->Calls Tryz.prog 138 #[v0,v1,.int .i64 l] W' (qaj (fun b=>W'.heap.size<=b) (jy l r (uo l r)) W'))) :
 Calls Tryz.prog 87 #[va,.bool c,.int .i64 l,.func (.yield lp) #[] #[]] w (xcx J T (k+(A.flatMap (wab l) ++ tailE l A c).length) w):=by
 have HE:=hid hE;have vX:=hid hF;have HJ:=hid hJ;have HS:=hid hS.left;have dP:=hid hS.right;have HA:=hid ha;have nC:=hid aI;have kX:∀ k:Nat,(Fence.wide.depth.isSome=true->1<=k):=fun k h=>by cases h
 have iw:Tryz.prog.follows .mixedOrders=true:=by kernel_rfl
 obtain ⟨D0,c0,rfl,bZ,dw,-⟩:=ha;obtain ⟨N,hN⟩:=n_m (k+(A.flatMap (wab l) ++ tailE l A c).length);rw [hN];have Gx:=hid hN.symm;clear hN;clear hE hF hJ hS aI;refine (callsIn_wide (n:=5)).1 ?_;refine callsIn_of_wp Tryz.func87 rfl trivial ?_ rfl;simp only [Tryz.ntmps87,List.size_toArray,List.length_cons,List.length_nil,Nat.reduceAdd,Nat.reduceSub,Array.replicate_succ,Array.replicate_zero,List.push_toArray,List.append_toArray,List.nil_append,List.cons_append]
 gi_wp2_with fail
 gi_loopw [13] (fun iv wr=>∃ i:Nat,i<=A.length/\iv=.int .i64 i/\Hid (J (k+((A.take i).flatMap (wab l)).length) wr/\xg T w wr)) (fun iv _=>A.length - (intOf iv).toNat)
 case atStart=>exact ⟨0,Nat.zero_le _,rfl,hid ⟨by simpa using HJ.out,xg.of_ext vX.out.lt (Ext.refl w)⟩⟩
 case round =>
  obtain ⟨i,hi,rfl,HI⟩:=hrel
  by_cases af:i < A.length
  · obtain ⟨hJ,hK⟩:=HI.out;have fZ:=vX.out.keep hK;obtain ⟨D0',c0',e',-,-,aK⟩:=HA.out.keep hK;injection e' with e1 e2 e3
    subst e1 e3;obtain ⟨ad,C0,j0,k0,C1,j1,k1,rfl,ah,⟨g0,g1,g2,g3⟩,gU⟩:=aK.kid i af;have dN:=HS.out.flat i af;have hlen:=yab (wab l) A i af;have bu:=nC.out A[i] (List.getElem_mem af);obtain ⟨WH,uG⟩:=HP.out A[i] (List.getElem_mem af);obtain ⟨V,hV⟩:=n_m ((wr.alloc (.cells #[.int .i64 A[i].lv,.bool A[i].neg,.slice C0 j0 k0,.slice C1 j1 k1] 33)));have di:Ext wr V:=by rw [<- hV]; exact (Ext.refl wr).alloc _
    have qL:jc V wr.heap.size A[i] (.slice C0 j0 k0) (.slice C1 j1 k1):=by rw [<- hV]; exact jc.new wr A[i] _ _ _
    have fP:Safe T V wr.heap.size:=ja0 fZ.lt fZ.fresh di (Nat.le_refl _) (by rw [<- hV]; simp);have PO:=fZ.ext di;have CS:=hid PO;have VX:wr.heap.size < V.heap.size:=fP.1;have jR:=hid qL;have gI:=hid fP;have BG:=hid (hK.trans (xg.of_ext fZ.lt di));have JY:=hid (HE.out.ext _ _ _ hJ di);have MG:=hid ((xg.of_ext fZ.lt di).pl gU);have HPS:=hid uG;have FQ:=Seg.get (L:=wab l A[i]) dN 0 (by simp [wab]);have MI:Hid (∃ h:(k+((A.take i).flatMap (wab l)).length) < M.length,M[k+((A.take i).flatMap (wab l)).length]=wu l A[i]):=hid FQ;have eX:Hid (Seg M (k+((A.take i).flatMap (wab l)).length+1) (jy l A[i] (uo l A[i]))):=hid (Seg.right (L:=[wu l A[i]]) (R:=jy l A[i] (uo l A[i])) dN);have lG:Hid (((A.take (i+1)).flatMap (wab l)).length=((A.take i).flatMap (wab l)).length+((jy l A[i] (uo l A[i])).length+1)):=hid hlen;have Vj:=hid (fun (W':World) (q:Nat->Prop) (u:Value) (hu:PlV W' q A[i] u)=>xa5 u hl aj bu (by omega) (by omega) hu);have S9:=hid (fun (W':World) (q:Nat->Prop) (u:Value) (hu:PlV W' q A[i] u)=>qct u hl aj bu hE6 hD hu);obtain ⟨g,hg⟩:=n_m (wr.heap.size);obtain ⟨n0,gV⟩:=n_m (k+((A.take i).flatMap (wab l)).length);rw [gV] at JY MI eX;have yY:=hid gV;rw [hg] at jR gI VX;have hd:Ext V V.drew:=(Ext.refl V).drew;have yS:=hid hd;obtain ⟨s0,s1,s2,s3⟩:=jR.out;obtain ⟨s0',s1',s2',s3'⟩:=jR.out.ext hd VX;clear hJ hK aK ah gU fZ di qL fP HI gV FQ dN hlen bu uG hd PO;generalize A[i]=r at *;unfold plV at MG
    gi_wp2_with fail
    try rw [hg]
    clear g0 g1 g2 g3 hV hg s0 s1 s2 s3
    gi_region_with_o (first
     | (go_simp
        (try refine ⟨kX _,?_⟩)
        (try refine ⟨trivial,?_⟩)
        refine (callsIn_wide.2 (Vj.out _ _ _ (MG.out.ext yS.out))).mono ?_;rintro e v1 ⟨lv,rfl,pl,x1⟩;have X1:=hid (yS.out.trans x1);obtain ⟨F0,i0,h0,F1,h1,rfl,-⟩:=id pl.open_;obtain ⟨FP,FT⟩:=MI.out;obtain ⟨fn,tmps,assign,body,hy,AX⟩:=HE.out.step n0 _ v1 FP (HE.out.ext _ _ _ JY.out X1.out) ⟨_,by rw [FT]; exact pl⟩ 4;have oO:=hid AX;unfold plV at hy ⊢
        clear AX x1 pl FP FT)
     | (go_simp
        (try refine ⟨kX _,?_⟩)
        refine oO.out.mono ?_;rintro e v2 ⟨rfl,lQ,hk2⟩;have sK:=(xg.of_ext CS.out.lt X1.out).trans hk2;obtain ⟨q0,q1,q2,q3⟩:jc v2 g r (.slice C0 j0 k0) (.slice C1 j1 k1):=⟨sK.cell gI.out jR.out.1,sK.cell gI.out jR.out.2.1,sK.cell gI.out jR.out.2.2.1,sK.cell gI.out jR.out.2.2.2⟩;have J2:=hid lQ;have K2:=hid sK;have P2:=hid (sK.pl MG.out)
        clear lQ hk2 sK)
     | (go_simp
        (try refine ⟨kX _,?_⟩)
        (try refine ⟨trivial,?_⟩)
        refine (callsIn_wide.2 (S9.out _ _ _ P2.out)).mono ?_;rintro e v3 ⟨dv,rfl,pd,x3⟩;obtain ⟨G0,i2,h2,G1,h3,rfl,-⟩:=id pd.open_;have qJ:=(CS.out.keep K2.out).ext x3;have dL:g < v2.heap.size:=Nat.lt_of_lt_of_le VX K2.out.size;have y0:=(x3.cell (p:=⟨g,0,none⟩) dL).trans q0;have y1:=(x3.cell (p:=⟨g,1,none⟩) dL).trans q1;have y2:=(x3.cell (p:=⟨g,2,none⟩) dL).trans q2;have y3:=(x3.cell (p:=⟨g,3,none⟩) dL).trans q3;have tK:=hid (xa3 (k:=n0+1) _ _ (P2.out.ext x3) pd HE.out qJ (HE.out.ext _ _ _ J2.out x3) eX.out WH (hid fun W' hx=>HPS.out W' _ _ _ _ ((P2.out.ext x3).ext hx) (pd.ext hx)));have K3:=hid (K2.out.trans (xg.of_ext (CS.out.keep K2.out).lt x3));unfold plV at tK ⊢
        clear x3 pd qJ dL)
     | (go_simp
        (try refine ⟨kX _,?_⟩)
        (try refine ⟨trivial,?_⟩)
        refine (callsIn_wide.2 tK.out).mono ?_;rintro e v4 ⟨rfl,oW,BZ⟩
        have HN:Hid (J (k+((A.take (i+1)).flatMap (wab l)).length) v4/\xg T w v4):=hid ⟨by
         have h1:=lG.out;have h2:=yY.out
         rw [h1,<- Nat.add_assoc,h2,Nat.add_comm (jy l r (uo l r)).length 1,<- Nat.add_assoc]; exact oW,(BG.out.trans K3.out).trans BZ⟩
        clear oW BZ))
    all_goals
     clear s0' s1' s2' s3' oO hy q0 q1 q2 q3 tK
     gi_wp2_with fail
     go_roundw
     case rel=>exact ⟨i+1,by omega,by go_num,HN.out⟩
     case measure=>simp [intOf]; omega
  · obtain rfl:i=A.length:=by omega
    have hf:=HI.out;rw [List.take_length] at hf;obtain ⟨hJ,hK⟩:=hf
    by_cases h0:A.length=0
    · have HF:Hid (J N wr/\xg T w wr):=hid ⟨by rw [Gx.out]; unfold tailE; rw [if_pos (Or.inl h0),List.append_nil]; exact hJ,hK⟩;rw [h0];clear HI hJ hK h0
      gi_wp2_with fail
      exact bodyPost_ret (v:=.bool true) (by simp [results,Tryz.results87,go_sem]) rfl ⟨rfl,HF.out.1,HF.out.2⟩
    · have hz:((A.length:Int) == 0)=false:=by rw [beq_eq_false_iff_ne]; omega
      cases c with
      | true =>
        have HF:Hid (J N wr/\xg T w wr):=hid ⟨by rw [Gx.out]; unfold tailE; rw [if_pos (Or.inr rfl),List.append_nil]; exact hJ,hK⟩;clear HI hJ hK h0
        gi_wp2_with fail
        exact bodyPost_ret (v:=.bool true) (by simp [results,Tryz.results87,go_sem]) rfl ⟨rfl,HF.out.1,HF.out.2⟩
      | false =>
        have af:0 < A.length:=by omega
        have oh:tailE l A false=[ji l 0 A[0]]:=by
         unfold tailE; rw [if_neg (by rintro (h | h); exact h0 h; cases h),List.getD_eq_getElem?_getD,List.getElem?_eq_getElem af]; rfl
        have YQ:=dP.out;rw [oh] at YQ;have FQ:=YQ.get 0 (by simp);have MI:Hid (∃ h:(k+(A.flatMap (wab l)).length) < M.length,M[k+(A.flatMap (wab l)).length]=ji l 0 A[0]):=hid FQ;have HTE:Hid (N=k+(A.flatMap (wab l)).length+1):=hid (by rw [Gx.out,oh,List.length_append,List.length_singleton,Nat.add_assoc]);obtain ⟨n0,gV⟩:=n_m (k+(A.flatMap (wab l)).length);rw [gV] at HTE MI hJ;have fZ:=vX.out.keep hK;obtain ⟨D0',c0',e',-,-,aK⟩:=HA.out.keep hK;injection e' with e1 e2 e3
        subst e1 e3;obtain ⟨ad,C0,j0,k0,C1,j1,k1,rfl,ah,⟨g0,g1,g2,g3⟩,gU⟩:=aK.kid 0 af;have lI:=hid (qbm (k:=0) _ (by omega) (by omega) hl aj (nC.out A[0] (List.getElem_mem af)) (by omega) (by omega) gU);have BI:=hid fZ;have zC:=hid hJ;have Vl:=hid hK;simp only [Nat.zero_mul,gbh] at g0 g1 g2 g3;obtain ⟨r,hr⟩:=n_m (A[0]);rw [hr] at lI MI g0 g1;unfold plV at lI;clear HI hJ hK h0 fZ aK ah gU YQ FQ oh dP hr
        gi_wp2_with fail
        clear g0 g1 g2 g3;refine ⟨trivial,?_⟩;refine (callsIn_wide.2 lI.out).mono ?_;rintro e v1 ⟨cv,rfl,pc,x1⟩;obtain ⟨F0,i0,h0,F1,h1,rfl,-⟩:=id pc.open_;obtain ⟨FP,FT⟩:=MI.out;obtain ⟨fn,tmps,assign,body,hy,AX⟩:=HE.out.step n0 _ v1 FP (HE.out.ext _ _ _ zC.out x1) ⟨_,by rw [FT]; exact pc⟩ 4;have oO:=hid AX;have K1:=hid (Vl.out.trans (xg.of_ext BI.out.lt x1));obtain ⟨d,hd⟩:=n_m (ji l 0 r);rw [hd] at hy ⊢;unfold plV at hy ⊢;clear AX x1 pc FP FT lI hd gV
        gi_wp2_with fail
        refine oO.out.mono ?_;rintro e v2 ⟨rfl,lQ,hk2⟩;rw [<- HTE.out] at lQ;have HF:Hid (J N v2/\xg T w v2):=hid ⟨lQ,K1.out.trans hk2⟩;clear lQ hk2 oO hy
        gi_wp2_with fail
        exact bodyPost_ret (v:=.bool true) (by simp [results,Tryz.results87,go_sem]) rfl ⟨rfl,HF.out.1,HF.out.2⟩
end Go.Proofs.YtcepajijiabkmaaGreat

namespace Go.Proofs.YtcepajijiabkmaaGreat
open Lib (hid)
open Go.RowKit Go.Shelf
attribute [local go_sem] Oper.semAt_some
theorem vck:(Tryz.prog.info? 31).map (fun i=>(i.zero,i.size,i.bytes))=some (some (.slice none 0 0),1,24):=by kernel_rfl
theorem jbo (n:Int) (h0:0<=n) (h1:n<=1099511627776) (w:World) :
 ∃ w',(Instr.makeSlice 97 (.int .i64 n) (.int .i64 n)).run Tryz.prog w=.ok (.slice (some ⟨w.heap.size,0,none⟩) n.toNat n.toNat) w'/\Ext w w'/\w'.heap.size=w.heap.size+1/\(∀ i,w'.frozen? ⟨w.heap.size,i,none⟩=false)/\(∀ i,i < n.toNat->w'.cell? ⟨w.heap.size,i,none⟩=some (.slice none 0 0))/\∀ i x,w'.cell? ⟨w.heap.size,i,none⟩=some x->∃ D n c,x=.slice D n c:=by
 obtain ⟨i0,hi,lh,gK,iU⟩:=info_parts vck;have hc:∀ i,(w.alloc (.cells (madeCells (Value.slice none 0 0).cells (n.toNat * i0.size)) 31)).cell? ⟨w.heap.size,i,none⟩=if i < n.toNat then some (.slice none 0 0) else none:=by
  intro i;rw [cell_of_row _ _ i _ _ (0,0) (heap_alloc_new w _),gK];unfold madeCells;rw [Array.getElem?_map,Array.getElem?_range,Nat.mul_one]
  split
  · show some ((#[Value.slice none 0 0]:Array Value)[i % 1]!)=_;rw [Nat.mod_one]; rfl
  · rfl
 refine ⟨_,run_make w 97 31 i0 _ Tryz.underlying97 hi lh .i64 .i64 n n h0 (by omega) (by rw [iU]; omega) (by omega),(Ext.refl w).alloc _,by simp,fun i=>by simp [go_sem],fun i h=>by rw [hc,if_pos h],fun i x h=>?_⟩;rw [hc] at h
 split at h
 · injection h with h; exact ⟨_,_,_,h.symm⟩
 · cases h
structure wa2 (T R n : Nat) (W : World) (Ls : List (List Pl)) : Prop where
 safe:Safe T W R
 fr:∀ j,j < n->W.frozen? ⟨R,j,none⟩=false
 sl:∀ j x,W.cell? ⟨R,j,none⟩=some x->∃ D n c,x=.slice D n c
 some_:∀ j,j < n->∃ x,W.cell? ⟨R,j,none⟩=some x
 le:Ls.length<=n
 row:∀ i (h:i < Ls.length),∃ v,W.cell? ⟨R,i,none⟩=some v/\ua2 T R W v Ls[i]
theorem wa2.keep {T R n:Nat} {A B:World} {Ls:List (List Pl)} (h:wa2 T R n A Ls) (k:xg T A B) (hn:0 < n):wa2 T R n B Ls:=by
 obtain ⟨x0,aF⟩:=h.some_ 0 hn;have hb:=k.block h.safe aF;have hc:∀ j,B.cell? ⟨R,j,none⟩=A.cell? ⟨R,j,none⟩:=fun j=>World.cell?_of_block (a:=⟨R,j,none⟩) hb
 exact ⟨h.safe.keep k,fun j hj=>(World.frozen?_of_block (a:=⟨R,j,none⟩) hb).trans (h.fr j hj),fun j x hx=>h.sl j x (by rw [<- hc]; exact hx),fun j hj=>by rw [hc]; exact h.some_ j hj,h.le,fun i hi=>by
  obtain ⟨v,hv,hr⟩:=h.row i hi
  exact ⟨v,by rw [hc]; exact hv,hr.keep (k.x R)⟩⟩
theorem wa2.set {T R n:Nat} {A:World} {Ls:List (List Pl)} (h:wa2 T R n A Ls) (hi:Ls.length < n) {D:Option Addr} {c:Nat} {L:List Pl} (hr:ua2 T R A (.slice D L.length c) L):wa2 T R n (A.setCell ⟨R,Ls.length,none⟩ (.slice D L.length c)) (Ls ++ [L])/\uab T R A (A.setCell ⟨R,Ls.length,none⟩ (.slice D L.length c)):=by
 obtain ⟨u,hu⟩:=h.some_ _ hi;obtain ⟨D',n',c',rfl⟩:=h.sl _ _ hu;have hk:uab T R A (A.setCell ⟨R,Ls.length,none⟩ (.slice D L.length c)):=uab.set h.safe.2.1 hu rfl;have same:=World.cell?_setCell_same A ⟨R,Ls.length,none⟩ (.slice D L.length c) hu;have KL:∀ j,j ≠ Ls.length->(A.setCell ⟨R,Ls.length,none⟩ (.slice D L.length c)).cell? ⟨R,j,none⟩=A.cell? ⟨R,j,none⟩:=fun j hj=>World.cell?_setCell_other _ _ _ _ (by intro e; injection e with _ e; exact hj e.symm)
 refine ⟨⟨⟨by have:=h.safe.1; simpa [World.setCell] using this,h.safe.2.1,fun e=>h.safe.2.2 (hk.own R h.safe.1 e)⟩,fun j hj=>by rw [World.frozen?_setCell]; exact h.fr j hj,fun j x hx=>?_,fun j hj=>?_,by simp; omega,fun i iO=>?_⟩,hk⟩
 · by_cases e:j=Ls.length
   · subst e; rw [same] at hx; injection hx with hx; exact ⟨_,_,_,hx.symm⟩
   · rw [KL j e] at hx; exact h.sl j x hx
 · by_cases e:j=Ls.length
   · subst e; exact ⟨_,same⟩
   · rw [KL j e]; exact h.some_ j hj
 · by_cases e:i=Ls.length
   · subst e;refine ⟨_,same,?_⟩;simpa using hr.keep hk
   · have af:i < Ls.length:=by simp at iO; omega
     obtain ⟨v,hv,Oh⟩:=h.row i af;refine ⟨v,by rw [KL i e]; exact hv,?_⟩;rw [List.getElem_append_left af]; exact Oh.keep hk
structure xc9 (T lp lo : Nat) (J : Nat -> World -> Prop) (M : List Pl) : Prop extends Env T lp J M where
 rel:∀ k A B,J k A->qaq T lo A B->J k B
def yc6 (x:Value):Array Value:=#[x]
def OkP (M:List Pl) (k:Nat) (x:Value) (W:World):Prop:=∃ _:k < M.length,∃ q,PlV W q M[k] x
def ja7 (l:Int) (fs:List Pl):Prop:=∀ r s,((∃ f ∈ fs,r ∈ uk l f/\s=uo l r)\/(∃ (i j:Nat) (hi:i < fs.length) (hj:j < fs.length),i < j/\r ∈ uk l fs[i]/\s ∈ uk l fs[j]))->(jy l r s).length<=1000/\∀ W' v0 v1 q0 q1,PlV W' q0 r v0->PlV W' q1 s v1->Calls Tryz.prog 138 #[v0,v1,.int .i64 l] W' (qaj (fun b=>W'.heap.size<=b) (jy l r s) W')
theorem kbx {w : World} {T lo E D BL BV c0 : Nat} {D0 : Option Addr} {l : Int} {fs : List Pl} (hl : 1 <= l) (aj : l <= 4) (hF : Fw T w) (hlo : lo <= w.heap.size) (QT : Safe T w BL) (UR : Safe T w BV) (cL : w.cell? ⟨BL, 0, none⟩ = some (.slice D0 fs.length c0)) (cV : w.cell? ⟨BV, 0, none⟩ = some (.int .i64 l))
 (bZ:fs.length<=c0) (dw:c0<=9223372036854775807) (aK:jd w (Safe T w) fs D0 0) (Ce:fs.length<=1000) (aI:∀ f ∈ fs,Fit f E D) (hE:E<=60) (hD:D<=100000000000) (HP:Hid (ja7 l fs)) (n:Nat) :
 zcy n Tryz.prog 85 #[.pointer (some ⟨BL,0,none⟩),.pointer (some ⟨BV,0,none⟩)] yc6 (OkP (elems l fs)) (xg T) (qaq T lo) (elems l fs).length w:=by
 intro lp J W hW hJ hR hY h0;have ag:Ext w W:=hW;have HE:Hid (xc9 T lp lo J (elems l fs)):=hid ⟨⟨fun k W W' h hx=>hJ k W W' none h ⟨hx.below.os,hx.below.tape,hx.below.output,hx.size,fun i hi _=>hx.below.block i hi⟩ (fun r e=>by cases e),fun k v W h hj hp m=>hY k v W h hj ⟨h,hp⟩ m⟩,hR⟩;have HR:=hid hR;have H0:=hid h0;have vX:=hid (hF.ext ag);have nC:=hid aI;have k1:W.cell? ⟨BL,0,none⟩=some (.slice D0 fs.length c0):=(ag.cell (p:=⟨BL,0,none⟩) QT.1).trans cL;have lK:=ag.size;obtain ⟨W1,dB,iw,W9,rD,Le,Iq⟩:=jbo (fs.length:Int) (by omega) (by omega) W;rw [Int.toNat_natCast] at dB Le;obtain ⟨R,hRe⟩:=n_m (W.heap.size);rw [hRe] at dB rD Le Iq W9;have hx1:Ext w W1:=ag.trans iw;have AB:=hF.ext hx1;have su:Safe T W1 R:=⟨by omega,by have:=hF.lt; omega,fun e=>by
  obtain ⟨v,hv,e'⟩:=e;have:=hF.fresh R ⟨v,(hx1.cell (p:=⟨T,0,none⟩) hF.lt).symm.trans hv,e'⟩
  omega⟩
 have BN:Hid (wa2 T R fs.length W1 []):=hid ⟨su,fun j _=>rD j,Iq,fun j hj=>⟨_,Le j hj⟩,by simp,fun i hi=>by simp at hi⟩;have Dy:=xg.of_ext hF.lt hx1;have MB:Hid (gar T R W1 BL):=hid ⟨QT.keep Dy,by have:=QT.1; omega⟩;have JH:Hid (gar T R W1 BV):=hid ⟨UR.keep Dy,by have:=UR.1; omega⟩;have HCV:Hid (W1.cell? ⟨BV,0,none⟩=some (.int .i64 l)):=hid ((hx1.cell (p:=⟨BV,0,none⟩) UR.1).trans cV);have Kr:Hid (W1.cell? ⟨BL,0,none⟩=some (.slice D0 fs.length c0)):=hid ((hx1.cell (p:=⟨BL,0,none⟩) QT.1).trans cL);have aS:Hid (ua2 T R W1 (.slice D0 fs.length c0) fs):=hid ⟨D0,c0,rfl,bZ,dw,jd.turnC Dy.size Dy.nat (fun a v hp hv=>⟨⟨hp.keep Dy,by have:=hp.1; omega⟩,Dy.cellA hp hv⟩) _ _ _ aK⟩;have J5:=hid AB;have Xg:lo<=R:=by omega
 have J1:=hid (HE.out.ext _ _ _ h0 iw);have agq:R < W1.heap.size:=su.1;have hPD:∀ r ∈ fs,mdg l r<=62:=fun r hr=>by have:=ya5 (l:=l) (aI r hr).can (aI r hr).ex; omega
 have ZU:=hid hPD;have kX:∀ k:Nat,(Fence.wide.depth.isSome=true->1<=k):=fun k h=>by cases h
 have afr:Tryz.prog.follows .mixedOrders=true:=by kernel_rfl
 obtain ⟨M,hM⟩:=n_m (elems l fs);have Jo:Seg M 0 (fs.flatMap (jal l) ++ ybj l (fs.map (uk l))):=by rw [<- hM]; exact Seg.all _
 have HSG:=hid Jo.left;have Gj:=hid Jo.right;have yZ:Hid ((fs.flatMap (jal l)).length+(ybj l (fs.map (uk l))).length=M.length):=hid (by rw [<- hM]; unfold elems; rw [List.length_append]);rw [hM] at HE ⊢;clear hW hJ hR hY h0 hF QT UR cL cV aK aI ag rD Le Iq hx1 AB su Dy hPD Jo hM iw;refine callsIn_of_wp Tryz.func85 rfl trivial ?_ rfl;simp only [Tryz.ntmps85,List.size_toArray,List.length_cons,List.length_nil,Nat.reduceAdd,Nat.reduceSub,Array.replicate_succ,Array.replicate_zero,List.push_toArray,List.append_toArray,List.nil_append,List.cons_append];have k2:=Kr.out
 gi_wp2_with fail
 clear k1 k2 dB hRe
 gi_loopw [17] (fun iv wr=>∃ i:Nat,i<=fs.length/\iv=.int .i64 i/\Hid (J ((fs.take i).flatMap (jal l)).length wr/\uab T R W1 wr/\wa2 T R fs.length wr ((fs.take i).map (uk l)))) (fun iv _=>fs.length - (intOf iv).toNat)
 case atStart=>exact ⟨0,Nat.zero_le _,rfl,hid ⟨by simpa using J1.out,(xg.of_ext J5.out.lt (Ext.refl W1)).x R,by simpa using BN.out⟩⟩
 case round =>
  obtain ⟨i,hi,rfl,HI⟩:=hrel
  by_cases af:i < fs.length
  · obtain ⟨hJ,hK,hA⟩:=HI.out;have gV:0 < fs.length:=by omega
    have fZ:Fw T wr:=⟨Nat.lt_of_lt_of_le J5.out.lt hK.size,hK.fresh J5.out.fresh⟩;obtain ⟨D0',c0',e',-,-,aK⟩:=aS.out.keep hK;injection e' with e1 e2 e3
    subst e1 e3;obtain ⟨ad,C0,j0,k0,C1,j1,k1,rfl,ah,⟨g0,g1,g2,g3⟩,gU⟩:=aK.kid i af;have eX:=hid (HSG.out.flat i af);have lG:=hid (yab (jal l) fs i af);have XI:=nC.out fs[i] (List.getElem_mem af);obtain ⟨V,hV⟩:=n_m ((wr.alloc (.cells #[.int .i64 fs[i].lv,.bool fs[i].neg,.slice C0 j0 k0,.slice C1 j1 k1] 33)));have di:Ext wr V:=by rw [<- hV]; exact (Ext.refl wr).alloc _
    obtain ⟨s0,s1,s2,s3⟩:jc V wr.heap.size fs[i] (.slice C0 j0 k0) (.slice C1 j1 k1):=by rw [<- hV]; exact jc.new wr fs[i] _ _ _
    have cv:V.cell? ⟨BV,0,none⟩=some (.int .i64 l):=((uab.trans hK ((xg.of_ext fZ.lt di).x R)).cellA JH.out HCV.out);have ZM:=hid (wb0 _ hl aj (gU.ext di) XI (by omega) (by omega));have BG:=hid (hK.trans ((xg.of_ext fZ.lt di).x R));have HAV:=hid (hA.keep (xg.of_ext fZ.lt di) gV);have JY:=hid (HE.out.ext _ _ _ hJ di);have CS:=hid (fZ.ext di);have zB:Hid (((fs.take i).map (uk l)).length=i):=hid (by rw [List.length_map,List.length_take]; omega);have vP:Hid ((fs.take i).map (uk l) ++ [uk l fs[i]]=(fs.take (i+1)).map (uk l)):=hid (by rw [List.take_succ_eq_append_getElem af,List.map_append]; rfl);have lF:=hid (List.getElem_mem af);have lg:=hid XI;clear hJ hK hA fZ aK ah gU di XI HI;generalize fs[i]=f at *;unfold plV at ZM
    gi_wp2_with fail
    clear g0 g1 g2 g3 hV s0 s1 s2 s3;refine ⟨trivial,kX _,?_⟩;refine (callsIn_wide.2 ZM.out).mono ?_;rintro e V2 ⟨v2,rfl,⟨E0,ec,rfl,I5,XO,iR⟩,x2⟩;obtain ⟨rl,uD⟩:=n_m (uk l f);have Jt:=HAV.out.keep (xg.of_ext CS.out.lt x2) gV;have Ws:ua2 T R V2 (.slice E0 rl.length ec) rl:=by
     rw [uD] at I5 iR;rw [<- uD];exact ⟨E0,ec,rfl,by rw [uD]; exact I5,XO,by rw [uD]; exact iR.mono fun b hb hq=>⟨ja0 CS.out.lt CS.out.fresh x2 hq hb,by have:=HAV.out.safe.1; omega⟩⟩
    have aT:=Jt.set (L:=rl) (by rw [zB.out]; exact af) Ws;rw [zB.out,<- uD,vP.out] at aT;obtain ⟨u,hu⟩:=Jt.some_ i af;have huf:=Jt.fr i af;have cv2:=(x2.cell (p:=⟨BV,0,none⟩) (JH.out.keep BG.out).1.1).trans cv;have EO:qaq T lo V2 (V2.setCell ⟨R,i,none⟩ (.slice E0 (uk l f).length ec)):=⟨R,i,u,E0,_,ec,Xg,Jt.safe.2.1,Jt.safe.2.2,Jt.sl,hu,rfl⟩;have Xq:=HE.out.rel _ _ _ (HE.out.ext _ _ _ JY.out x2) EO;obtain ⟨V3,Jm⟩:=n_m (V2.setCell ⟨R,i,none⟩ (.slice E0 (uk l f).length ec));rw [Jm] at aT Xq;obtain ⟨YZ,LP⟩:=aT;have wZ:uab T R W1 V3:=(BG.out.trans ((xg.of_ext CS.out.lt x2).x R)).trans LP;have qJ:Fw T V3:=⟨Nat.lt_of_lt_of_le J5.out.lt wZ.size,wZ.fresh J5.out.fresh⟩;have cv3:V3.cell? ⟨BV,0,none⟩=some (.int .i64 l):=wZ.cellA JH.out HCV.out;have FH:Ext V3 V3.drew:=(Ext.refl V3).drew;have Zk:V3.cell? ⟨R,i,none⟩=some (.slice E0 (uk l f).length ec):=by rw [<- Jm]; exact World.cell?_setCell_same _ _ _ hu
    have cv4:=(FH.cell (p:=⟨BV,0,none⟩) (JH.out.keep wZ).1.1).trans cv3;have ck4:=(FH.cell (p:=⟨R,i,none⟩) YZ.safe.1).trans Zk;have N8:gam T V3.drew (.slice E0 (uk l f).length ec) (uk l f):=by
     rw [uD]; exact ((Ws.keep LP).rowS).keep (xg.of_ext qJ.lt FH)
    have YP:(mdg l f).toNat<=62:=by have:=ZU.out f lF.out; omega
    have EN:∀ r ∈ uk l f,Fit r E (D+62):=fun r hr=>(xbf lg.out (by have:B32=4294967296:=rfl; omega) r hr).1.mono (Nat.le_refl _) (by omega)
    have Oc:(uk l f).length<=1000000:=by have:=gaq (l:=l) (mdg l f).toNat f; unfold uk; omega
    have vU:=hid (yca (k:=0+((fs.take i).flatMap (jal l)).length) (M:=M) (c:=uaf l f) _ hl aj N8 HE.out.toEnv (qJ.ext FH) (by rw [Nat.zero_add]; exact HE.out.ext _ _ _ Xq FH) eX.out Oc EN (by omega) (by omega) (hid fun r hr=>HP.out r (uo l r) (Or.inl ⟨f,lF.out,hr,rfl⟩)));have HA4:=hid (YZ.keep (xg.of_ext qJ.lt FH) gV);have HK4:=hid (wZ.trans ((xg.of_ext qJ.lt FH).x R));clear Jt Ws x2 iR EO Xq YZ LP wZ qJ FH N8 EN Oc ZM uD YP;rw [Nat.zero_add] at vU;obtain ⟨n0,OL⟩:=n_m (((fs.take i).flatMap (jal l)).length);rw [OL] at vU lG;obtain ⟨rc,BR⟩:=n_m (uaf l f);have Ee:Hid ((jal l f).length=((uk l f).flatMap (wab l) ++ tailE l (uk l f) (uaf l f)).length):=hid rfl;rw [<- Ee.out] at vU;rw [BR] at vU ⊢;obtain ⟨rn,Oc⟩:=n_m ((uk l f).length);rw [Oc] at vU Zk ck4 I5 Jm ⊢;clear OL BR Oc Ee
    gi_wp2_with fail
    clear hu huf cv cv2 Jm
    gi_region_with_o (first
     | (go_simp
        (try refine ⟨trivial,?_⟩)
        (try refine ⟨kX _,?_⟩)
        refine (callsIn_wide.2 vU.out).mono ?_;rintro e W4 ⟨rfl,oW,BZ⟩;have HN:Hid (J ((fs.take (i+1)).flatMap (jal l)).length W4/\uab T R W1 W4/\wa2 T R fs.length W4 ((fs.take (i+1)).map (uk l))):=hid ⟨by rw [lG.out]; exact oW,HK4.out.trans (BZ.x R),HA4.out.keep BZ gV⟩
        clear oW BZ))
    all_goals
     clear cv3 cv4 Zk ck4 vU
     gi_wp2_with fail
     go_roundw
     case rel=>exact ⟨i+1,by omega,by go_num,HN.out⟩
     case measure=>simp [intOf]; omega
  · obtain rfl:i=fs.length:=by omega
    have hf:=HI.out;rw [List.take_length] at hf;clear HI;obtain ⟨WA,rfl⟩:∃ x,x=wr:=⟨_,rfl⟩;obtain ⟨hJ,hK,hA⟩:=hf;obtain ⟨Ls,UB⟩:=n_m (fs.map (uk l));have QJ:Ls.length=fs.length:=by rw [<- UB,List.length_map]
    have EZ:∀ i (h:i < Ls.length),∃ h':i < fs.length,Ls[i]=uk l fs[i]:=fun i h=>by
     have h':i < fs.length:=by rw [<- QJ]; exact h
     subst UB;exact ⟨h',List.getElem_map _⟩
    rw [UB] at hA Gj yZ;have fZ:Fw T WA:=⟨Nat.lt_of_lt_of_le J5.out.lt hK.size,hK.fresh J5.out.fresh⟩;obtain ⟨n1,sH⟩:=n_m ((fs.flatMap (jal l)).length);rw [sH] at hJ Gj yZ;rw [Nat.zero_add] at Gj;have tV:=hid QJ;have xZ:=hid EZ;have oP:=hid fZ;have HKR:=hid hK;have HAR:=hid hA;have HJR:=hid hJ;have Dk:=hA.safe.1;clear hJ hK hA UB QJ EZ fZ sH
    gi_wp2_with fail
    gi_loopw [43] (fun iv w3=>∃ i:Nat,i<=fs.length/\iv=.int .i64 i/\Hid (J (n1+(((List.range Ls.length).take i).flatMap fun i=>(Ls.drop (i+1)).flatMap (prE l (Ls.getD i []))).length) w3/\xg T WA w3)) (fun iv _=>fs.length - (intOf iv).toNat)
    case atStart=>exact ⟨0,Nat.zero_le _,rfl,hid ⟨by simpa using HJR.out,xg.of_ext oP.out.lt (Ext.refl WA)⟩⟩
    case round =>
     obtain ⟨w3,rfl⟩:∃ x,x=wr:=⟨_,rfl⟩;obtain ⟨i,hi,rfl,HI⟩:=hrel
     by_cases af:i < fs.length
     · obtain ⟨hJ,hK⟩:=HI.out;have gV:0 < fs.length:=by omega
       have Dw:i < Ls.length:=by rw [tV.out]; exact af
       have wY:i < (List.range Ls.length).length:=by rw [List.length_range]; exact Dw
       have hA:=HAR.out.keep hK gV;obtain ⟨vi,hvi,KR⟩:=hA.row i Dw;obtain ⟨Di,ci,rfl,-⟩:=id KR;have eX:=hid (Gj.out.flat i wY);have lG:=hid (yab (fun i=>(Ls.drop (i+1)).flatMap (prE l (Ls.getD i []))) (List.range Ls.length) i wY);rw [List.getElem_range] at eX lG;have qI:Ls.getD i []=Ls[i]:=by rw [List.getD_eq_getElem?_getD,List.getElem?_eq_getElem Dw]; rfl
       rw [qI] at eX lG;obtain ⟨Cb,IX⟩:=xZ.out i Dw;obtain ⟨f,Cc⟩:=n_m (fs[i]);have IU:f ∈ fs:=by rw [<- Cc]; exact List.getElem_mem Cb
       rw [Cc] at IX;have Vq:Hid (f ∈ fs/\Ls[i]=uk l f/\fs[i]=f):=hid ⟨IU,IX,Cc⟩;obtain ⟨n2,Ip⟩:=n_m (n1+(((List.range Ls.length).take i).flatMap fun i=>(Ls.drop (i+1)).flatMap (prE l (Ls.getD i []))).length);have GG:=hid Ip;rw [Ip] at hJ eX;have zC:=hid hJ;have Vl:=hid hK;have BI:=hid (oP.out.keep hK);have HRI:=hid KR.rowS;have HA2:=hid hA;have UT:Ls[i].length<=62:=by
        rw [IX];have h1:=gaq (l:=l) (mdg l f).toNat f;have h2:=ZU.out f IU;unfold uk; omega
       have HAN:=hid UT;have J9:Hid ((Ls.drop (i+1)).length=fs.length - (i+1)):=hid (by rw [List.length_drop,tV.out]);have Yj:i+1<=fs.length:=af;clear hJ hK hA KR qI IU IX Ip HI UT Cc;generalize hgA:Ls[i]=A at *;clear hgA;have rJ:Hid (∀ w4,J (n2+((Ls.drop (i+1)).flatMap (prE l A)).length) w4->xg T w3 w4->J (n1+(((List.range Ls.length).take (i+1)).flatMap fun i=>(Ls.drop (i+1)).flatMap (prE l (Ls.getD i []))).length) w4/\xg T WA w4):=hid (fun w4 h1 h2=>⟨by rw [lG.out,<- Nat.add_assoc,GG.out]; exact h1,Vl.out.trans h2⟩)
       by_cases PT:i+1=fs.length
       · have OC:Ls.drop (i+1)=[]:=List.eq_nil_of_length_eq_zero (by rw [J9.out]; omega);have HN:=hid (rJ.out w3 (by rw [OC]; simpa using zC.out) (xg.of_ext BI.out.lt (Ext.refl w3)));have ah3:=hid PT;clear OC rJ eX lG J9
         gi_wp2_with fail
         clear hvi
         gi_loopw [53] (fun iv w4=>iv=.int .i64 0/\w4=w3) (fun _ _=>0)
         case atStart=>exact ⟨rfl,rfl⟩
         case round =>
          obtain ⟨rfl,rfl⟩:=hrel
          gi_wp2_with fail
          go_roundw
          case rel=>exact ⟨i+1,by omega,by go_num,HN.out⟩
          case measure=>simp [intOf]; omega
       · have mO:i+1 < fs.length:=by omega
         have afm:¬ fs.length=i+1:=by omega
         clear PT
         gi_wp2_with fail
         clear hvi
         gi_loopw [53] (fun iv w4=>∃ j:Nat,j<=fs.length - (i+1)/\iv=.int .i64 j/\Hid (J (n2+(((Ls.drop (i+1)).take j).flatMap (prE l A)).length) w4/\xg T w3 w4)) (fun iv _=>fs.length - (intOf iv).toNat)
         case atStart=>exact ⟨0,Nat.zero_le _,rfl,hid ⟨by simpa using zC.out,xg.of_ext BI.out.lt (Ext.refl w3)⟩⟩
         case round =>
          obtain ⟨w4,rfl⟩:∃ x,x=wr:=⟨_,rfl⟩;obtain ⟨j,hj,rfl,o8⟩:=hrel
          by_cases Xe:j < fs.length - (i+1)
          · obtain ⟨hJ4,LM⟩:=o8.out;have oK:i+1+j < Ls.length:=by have:=tV.out; omega
            have hjd:j < (Ls.drop (i+1)).length:=by rw [J9.out]; exact Xe
            have hA4:=HA2.out.keep LM gV;obtain ⟨vj,hvj,Wy⟩:=hA4.row (i+1+j) oK;obtain ⟨Dj,cj,rfl,-⟩:=id Wy;have Gm:=hid (eX.out.flat j hjd);have GK:=hid (yab (prE l A) (Ls.drop (i+1)) j hjd);rw [List.getElem_drop] at Gm GK;obtain ⟨Pm,DI⟩:=xZ.out (i+1+j) oK;obtain ⟨f2,DF⟩:=n_m (fs[i+1+j]);have PQ:f2 ∈ fs:=by rw [<- DF]; exact List.getElem_mem Pm
            rw [DF] at DI;have hBn:Ls[i+1+j].length<=62:=by
             rw [DI];have h1:=gaq (l:=l) (mdg l f2).toNat f2;have h2:=ZU.out f2 PQ;unfold uk; omega
            have ET:=kcs (k:=n2+(((Ls.drop (i+1)).take j).flatMap (prE l A)).length) (M:=M) _ _ (HRI.out.keep LM) Wy.rowS HE.out.toEnv (BI.out.keep LM) hJ4 Gm.out (by have:=HAN.out; omega) (by omega) (hid fun r hr s hs=>HP.out r s (Or.inr ⟨i,i+1+j,af,Pm,by omega,by rw [Vq.out.2.2,<- Vq.out.2.1]; exact hr,by rw [DF,<- DI]; exact hs⟩));have Gv:=hid ET;have cv:=((HKR.out.trans (Vl.out.x R)).trans (LM.x R)).cellA JH.out HCV.out;have HK4:=hid LM;have rQ:((i:Int)+1+(j:Int))<=2000:=by omega
            clear hJ4 LM hA4 Wy PQ DI hBn ET o8 DF;generalize hgB:Ls[i+1+j]=B at *;clear hgB
            gi_wp2_with fail
            clear hvj cv;refine ⟨trivial,kX _,?_⟩;refine (callsIn_wide.2 Gv.out).mono ?_;rintro e w5 ⟨rfl,hj5,hk5⟩;have HN:Hid (J (n2+(((Ls.drop (i+1)).take (j+1)).flatMap (prE l A)).length) w5/\xg T w3 w5):=hid ⟨by rw [GK.out,<- Nat.add_assoc]; exact hj5,HK4.out.trans hk5⟩;clear hj5 hk5 Gv
            gi_wp2_with fail
            go_roundw
            case rel=>exact ⟨j+1,by omega,by go_num,HN.out⟩
            case measure=>simp [intOf]; omega
          · obtain rfl:j=fs.length - (i+1):=by omega
            have hf:=o8.out;rw [<- J9.out,List.take_length] at hf;have HN:=hid (rJ.out w4 hf.1 hf.2);clear o8 hf
            gi_wp2_with fail
            go_roundw
            case rel=>exact ⟨i+1,by omega,by go_num,HN.out⟩
            case measure=>simp [intOf]; omega
     · obtain rfl:i=fs.length:=by omega
       have hf:=HI.out;rw [<- tV.out] at hf;have e1:(List.range Ls.length).take Ls.length=List.range Ls.length:=by
        have h9:=List.take_length (l:=List.range Ls.length)
        rwa [List.length_range] at h9
       rw [e1] at hf;have HJF:Hid (J M.length w3):=hid (by rw [<- yZ.out]; exact hf.1);clear HI hf e1
       gi_wp2_with fail
       go_end0
       exact ⟨⟨_,rfl⟩,HJF.out⟩
end Go.Proofs.YtcepajijiabkmaaGreat
