/- A range over a function whose elements are made anew, each in the world in which it is given; no round leaves the loop. -/
import Derived.RangeFuncNested
import Derived.Test.YtaedbimbbeploaaGreatDoorMb0
import Derived.Test.YtaedbimbbeploaaGreatDoorRNorm
import Derived.RangeFuncCalls
import Derived.RangeFuncLeaves
import Derived.Shelf.Abstract
import Derived.Shelf.RegionOpen
import Derived.OwnWalkIn
import Derived.TacticsInMore
import Derived.LoopNIn
import Derived.LoopIn
import Derived.Test.YtaedbimbbeploaaGreatDoorMb37
set_option linter.unusedSimpArgs false
set_option linter.unusedVariables false

namespace Go.Proofs.YtaedbimbbeploaaGreatDoor
open Go.RowKit
def wb9 (B : Nat) (Kp : World -> World -> Prop) (I : World -> Prop) (W : World) : Exit -> Act -> World -> Prop
 | .normal,_,W'=>KeepsFrom B W W'/\Kp W W'/\I W'
 | _,_,_=>False
def gco {α:Type} (n:Nat) (P:Program) (g:Nat) (lb:Array Value) (enc:α->Array Value) (Ok:Nat->α->World->Prop) (Kp:World->World->Prop) (N:Nat) (w:World):Prop:=
 ∀ (l:Nat) (J:Nat->World->Prop) (W:World),Below w.heap.size w W->AbidesFrom W.heap.size J ->
   (∀ k x W1,k < N->J k W1->Ok k x W1->YieldAt Fence.wide (n - 1) P l (enc x) W1 fun e W'=>e=.returned (.bool true)/\J (k+1) W'/\Kp W1 W') ->
   J 0 W->CallsIn Fence.wide n P g (#[.func (.yield l) #[] #[]] ++ lb) W fun e W'=>(∃ v,e=.returned v)/\J N W'
theorem ybn {α : Type} {n : Nat} {P : Program} {w : World} {g : Operand} {ps : Array Tmp} {assign body : Code} {Q : Exit -> Act -> World -> Prop} {a : Act}
 (h1:1<=n) {gf:Nat} {lb:Array Value} (hg:a.eval g=.func (.func gf) #[] lb) (eg:∀ args w,(callFunc gf args).run P w=.ok (.enter gf args) w)
 {enc:α->Array Value} {Ok:Nat->α->World->Prop} {Kp:World->World->Prop} {N:Nat} {w0:World} (hseq:gco (n - 1) P gf lb enc Ok Kp N w0)
 (hKt:∀ {A B C:World},Kp A B->Kp B C->Kp A C) (hKb:∀ (W:World) (l:Nat) (o o':Obj),w.heap.size<=l->W.heap[l]?=some o->o.isCells=false->o.isWalk=false->Kp W (W.putObj l o')) (hb0:Below w0.heap.size w0 w) (hps:∀ x,(enc x).size=ps.size)
 (I:Nat->World->Prop) (hI:OwnFrom w.heap.size I) (h0:I 0 w) (Ax:Nat->α->Act->World->Prop) (hAx:∀ k x a',OwnFrom w.heap.size (fun (_:Unit) W=>Ax k x a' W))
 (hassign:∀ (l k:Nat) (x:α) (W:World) (K:Act->World->Prop),k < N->I k W->Ok k x W->(∀ a' W',KeepsFrom w.heap.size W W'->Kp W W'->Ax k x a' W'->K a' W') ->
   assign.wpIn (Fence.wide.inRound l) (n - 1 - 1) P (Exit.then K (fun _ _ _=>False)) { tmps:=(ps.zip (enc x)).foldl (fun t (p,v)=>t.setIfInBounds p v) a.tmps,defers:=[] } W)
 (hbody:∀ (l k:Nat) (x:α) (a':Act) (W:World),k < N->Ax k x a' W->body.wpIn (Fence.wide.inRound l) (n - 1 - 1) P (wb9 w.heap.size Kp (I (k+1)) W) a' W)
 (hdone:∀ (D:Nat) (W:World),w.heap.size<=D->I N W->W.heap[D]?=some (.deferred (some []))->Q .normal { a with defers:={ target:=.collected D,args:=#[] } :: a.defers } W) :
 (Code.rangeFunc g ps assign body).wpIn Fence.wide n P Q a w:=by
 refine wpIn_rangeFunc fun fn hfn=>?_
 obtain ⟨B,hB⟩:∃ B,w.heap.size=B:=⟨_,rfl⟩
 let rc:LoopState->Option Code->Loop:=fun st pe=>{ state:=st,pending:=pe,fn,tmps:=a.tmps,params:=ps,assign,body,defers:=B }
 obtain ⟨V,hV⟩:∃ V,(w.alloc (.deferred (some []))).alloc (.loop (rc .ready none))=V:=⟨_,rfl⟩;have vL:V.heap[B+1]?=some (.loop (rc .ready none)):=by
  rw [<- hV,<- hB];have:=World.alloc_heap_new (w.alloc (.deferred (some []))) (.loop (rc .ready none))
  rwa [World.size_alloc] at this
 have vD:V.heap[B]?=some (.deferred (some [])):=by
  rw [<- hV,<- hB]; exact (Below.heap_alloc _ _ _ (by simp)).trans (World.alloc_heap_new w _)
 have vI:I 0 V:=by rw [<- hV]; exact hI.alloc _ (hI.alloc _ h0)
 have vB:Below w0.heap.size w0 V:=by
  rw [<- hV]; exact hb0.trans ((((Below.refl _ w).alloc (Nat.le_refl _) _).alloc (by simp) _).mono hb0.size)
 have vS:V.heap.size=B+2:=by rw [<- hV,<- hB]; simp
 rw [hB] at hKb hI hAx hassign hbody hdone
 have walk:∀ {A A':World} {row:Option Nat} {k:Nat} {o:Obj},A.grownBy A' row->(∀ r,row=some r->V.heap.size<=r/\∃ o:Obj,A.heap[r]?=some o/\o.isWalk=true)->A.heap[k]?=some o->o.isWalk=false->A'.heap[k]?=some o:=
  fun hgr hr hk ho=>(grownBy_keeps hgr (fun r e=>(hr r e).2) hk ho).trans hk
 refine ⟨B+1,[{ target:=.collected B,args:=#[] }],V,{ target:=.fn (.func gf) lb,args:=#[.func (.yield (B+1)) #[] #[]] },V,gf,#[.func (.yield (B+1)) #[] #[]] ++ lb,V,?_,?_,?_,?_,fun _=>h1,?_⟩
 · subst hB; rw [<- hV]; exact run_enterLoop_outer _ _ _ _ _
 · simp only [resolve,hg]; simp [go_sem]
 · intro f' hf'; simp [Target.leads] at hf'; subst hf'; trivial
 · simp [invoke,go_sem,eg]
 · refine (hseq (B+1) (fun k W=>I k W/\W.heap[B+1]?=some (.loop (rc .ready none))/\W.heap[B]?=some (.deferred (some []))) V vB (fun k A A' row hs hgr hr=>⟨hI k A A' row hs.1 hgr (fun r e=>?_),walk hgr hr hs.2.1 rfl,walk hgr hr hs.2.2 rfl⟩) ?_ ⟨vI,vL,vD⟩).mono ?_
   · obtain ⟨h2,o,ho,hw⟩:=hr r e;exact ⟨by omega,o,ho,Obj.not_cells_of_walk hw⟩
   · -- a round
     rintro k x W hk ⟨hi,hl,hd⟩ hok;refine ⟨fn,_,assign,body,run_yield (P:=P) (args:=enc x) hl (hps x),roundIn_of_wpIn hfn (hassign _ k x W _ hk hi hok fun a' Wa hka hpa hax=>?_)⟩;have al:=hka.same _ _ (Nat.le_succ _) hl rfl;have ad:=hka.same _ _ (Nat.le_refl _) hd rfl;have asz:=(Array.getElem?_eq_some_iff.1 al).1;refine ⟨_,run_beginRound al rfl,wpIn_mono (hbody _ k x a' _ hk ((hAx k x a').putObj (s:=()) _ hax (Nat.le_succ _) al rfl)) ?_⟩;have bl:(Wa.putObj (B+1) (.loop (rc .busy none))).heap[B+1]?=some (.loop (rc .busy none)):=World.putObj_heap_same asz;have bd:(Wa.putObj (B+1) (.loop (rc .busy none))).heap[B]?=some (.deferred (some [])):=(World.putObj_heap_other (by omega)).trans ad;have bp:Kp Wa (Wa.putObj (B+1) (.loop (rc .busy none))):=hKb _ _ _ _ (Nat.le_succ _) al rfl rfl;rintro e a3 W3 hp;cases e with
     | normal =>
       obtain ⟨hk3,hp3,hi3⟩:=hp;have cl:=hk3.same _ _ (Nat.le_succ _) bl rfl;have cd:=hk3.same _ _ (Nat.le_refl _) bd rfl;have cs:=(Array.getElem?_eq_some_iff.1 cl).1;exact ⟨_,_,run_endRound (P:=P) none cl,rfl,⟨hI.putObj _ hi3 (Nat.le_succ _) cl rfl,World.putObj_heap_same cs,(World.putObj_heap_other (by omega)).trans cd⟩,hKt hpa (hKt (hKt bp hp3) (hKb _ _ _ _ (Nat.le_succ _) cl rfl rfl))⟩
     | ret=>exact hp.elim
     | exit id=>exact hp.elim
     | goto t=>exact hp.elim
     | panic ch=>exact hp.elim
     | outgrown=>exact hp.elim
   · -- behind the iterator
     rintro e W2 ⟨⟨v,rfl⟩,hi,hl,hd⟩;exact ⟨none,_,run_endLoop (P:=P) hl (by simp [rc]),hdone B _ (Nat.le_refl _) (hI.putObj _ hi (Nat.le_succ _) hl rfl) ((World.putObj_heap_other (by omega)).trans hd)⟩
end Go.Proofs.YtaedbimbbeploaaGreatDoor

/- Layer 20: sparse.Terms, an iterator; layer 21: recpoly.To. -/
set_option maxRecDepth 100000
set_option maxHeartbeats 8000000
namespace Go.Proofs.YtaedbimbbeploaaGreatDoor
open Go.RowKit Go.Shelf
attribute [local go_sem] Oper.semAt_some
theorem qb6 {w:World} {q:Nat->Prop} (p:Pl) (v:Value) (h:PlV w q p v) (hsz:p.sz<=1073741824) (hdm:p.dm<=1099511627776):Calls Tryz.prog 147 #[v] w (zcp (jc (p.terms Mo.one)) w):=by
 have HPL:=Lib.hid h;have HDIG:=Lib.hid h.dig;obtain ⟨A0,n0,c0,A,c,rfl,-⟩:=h.open_;clear h;obtain ⟨W,hW⟩:∃ W,w.alloc (.cells #[.int .i64 p.lv,.bool p.neg,.slice A0 n0 c0,.slice A p.cs.length c] 42)=W:=⟨_,rfl⟩;have hWx:Ext w W:=by rw [<- hW]; exact (Ext.refl w).alloc _
 have HWX:=Lib.hid hWx;have HCO:Hid (∀ W',Ext w W'->Calls Tryz.prog 183 #[.slice none 0 0,plV p (.slice A0 n0 c0) (.slice A p.cs.length c),moV Mo.one] W' fun e w'=>∃ tv,e=.returned tv/\TsV (some p.dm) W'.heap.size w' tv (p.terms Mo.one)/\Ext W' w'):=fun W' hW'=>wa5 p _ p.dm (Nat.le_refl _) (by omega) (HPL.out.ext hW')
 unfold moV Mo.one plV at HCO;have hcell:W.cell? ⟨w.heap.size,0,none⟩=some (.int .i64 p.lv)/\W.cell? ⟨w.heap.size,1,none⟩=some (.bool p.neg)/\W.cell? ⟨w.heap.size,2,none⟩=some (.slice A0 n0 c0)/\W.cell? ⟨w.heap.size,3,none⟩=some (.slice A p.cs.length c):=by
  rw [<- hW]; exact ⟨by simp [go_sem],by simp [go_sem],by simp [go_sem],by simp [go_sem]⟩
 obtain ⟨b0,b1,b2,b3⟩:=hcell;clear hWx;unfold plV;go_enter Tryz.func147,Tryz.ntmps147;go_wp2_with fail;clear hW b0 b1 b2 b3;refine (HCO.out _ HWX.out).mono ?_;rintro e w2 ⟨tv,rfl,t2,x2⟩;have hsp:=t2.sp;have hln:=Pl.terms_len p Mo.one;have hdg:=qao p HDIG.out hsz;have hcall:=jav (ko:=some p.dm) p.dm hsp (fun z _=>Nat.le_refl _) (by simp only [Mo.one] at *; omega) (by simp only [Mo.one] at *; omega);have HCALL:=Lib.hid hcall;have X2:=Lib.hid (HWX.out.trans x2);clear hcall hsp t2 x2 hln hdg HCO;go_wp2_with fail;refine HCALL.out.mono ?_;rintro e w3 ⟨v3,rfl,h3,x3⟩;have HF:Hid (SpV w3 none v3 (jc (p.terms Mo.one))/\Ext w w3):=Lib.hid ⟨h3,X2.out.trans x3⟩;obtain ⟨A3,c3,rfl,-⟩:=h3;clear x3 HCALL;go_wp2_with fail;go_ret;exact ⟨_,rfl,HF.out⟩
def wco (l:Sp) (w:World) (e:Ending) (w':World):Prop:=∃ B v,e=.returned (.func (.func 202) #[] #[.pointer (some ⟨B,0,none⟩)])/\w'.cell? ⟨B,0,none⟩=some v/\w.heap.size<=B/\B < w'.heap.size/\SpV w' none v l/\Ext w w'
theorem vbe {w:World} {v:Value} {l:Sp} (h:SpV w none v l) (hdg:∀ x ∈ l,(dg x.1.natAbs).length<=1099511627776) (hL:(dg (qf l)).length<=1099511627776) (hlen:l.length<=1099511627776):Calls Tryz.prog 178 #[v] w (wco (jc l) w):=by
 have HCALL:=Lib.hid (jav 1099511627776 h (fun z ⟨x,hx,e⟩=>by rw [<- e]; exact hdg x hx) (by omega) hlen);obtain ⟨A,c,rfl,-⟩:=h;clear hdg;go_enter Tryz.func178,Tryz.ntmps178;go_wp2_with fail;refine HCALL.out.mono ?_;rintro e w2 ⟨v2,rfl,h2,x2⟩;obtain ⟨A2,c2,rfl,-⟩:=id h2
 have HF:Hid (wco (jc l) w (.returned (.func (.func 202) #[] #[.pointer (some ⟨w2.heap.size,0,none⟩)])) (w2.alloc (.cells #[.slice A2 (jc l).length c2] 66))):=
  Lib.hid ⟨_,_,rfl,by simp [go_sem],x2.size,by simp,h2.ext ((Ext.refl w2).alloc _),x2.alloc _⟩
 clear x2 h2 HCALL;go_wp2_with fail;go_ret;exact HF.out
def wu (T:Nat) (W W':World):Prop:=W.heap.size<=W'.heap.size/\(∀ (i:Nat) (o:Obj),i ≠ T->W.heap[i]?=some o->o.isCells=true->W'.heap[i]?=some o)/\∀ x ds,jb W x ds->jb W' x ds
theorem wu.refl (T:Nat) (W:World):wu T W W:=⟨Nat.le_refl _,fun _ _ _ h _=>h,fun _ _ h=>h⟩
theorem wu.trans {T:Nat} {A B C:World} (h:wu T A B) (k:wu T B C):wu T A C:=⟨Nat.le_trans h.1 k.1,fun i o hi ho hc=>k.2.1 i o hi (h.2.1 i o hi ho hc) hc,fun x ds hx=>k.2.2 x ds (h.2.2 x ds hx)⟩
theorem wu.of_ext (T:Nat) {A B:World} (h:Ext A B):wu T A B:=⟨h.size,fun i o _ hi _=>(h.below.block i (Array.getElem?_eq_some_iff.1 hi).1).trans hi,fun _ _ hx=>hx.ext h⟩
theorem wu.cell {T:Nat} {A B:World} (h:wu T A B) {a:Addr} {v:Value} (ha:a.block ≠ T) (hc:A.cell? a=some v):B.cell? a=some v:=by
 obtain ⟨o,ho,hoc⟩:=cells_of_cell hc;rw [World.cell?_of_block ((h.2.1 _ _ ha ho hoc).trans ho.symm)]; exact hc
theorem wu.putObj (T:Nat) (W:World) (l:Nat) (o o':Obj) (h:W.heap[l]?=some o) (ho:o.isCells=false):wu T W (W.putObj l o'):=by
 have hb:∀ (i:Nat) (x:Obj),W.heap[i]?=some x->x.isCells=true->(W.putObj l o').heap[i]?=some x:=fun i x hi hx=>by
  have hne:i ≠ l:=fun e=>by subst e; rw [h] at hi; injection hi with hi; subst hi; rw [ho] at hx; cases hx
  rw [World.putObj_heap_other hne]; exact hi
 refine ⟨by simp [World.putObj],fun i x _ hi hx=>hb i x hi hx,fun x ds ⟨A,c,e,h1,h2,h3,h4⟩=>⟨A,c,e,h1,h2,h3,fun hd=>?_⟩⟩;obtain ⟨ad,e4,hlt,hcc⟩:=h4 hd;refine ⟨ad,e4,by simpa [World.putObj] using hlt,fun j hj=>?_⟩;obtain ⟨ob,ho1,ho2⟩:=cells_of_cell (hcc j hj);rw [World.cell?_of_block ((hb _ _ ho1 ho2).trans ho1.symm)]; exact hcc j hj
theorem wu.setCell (T:Nat) (W:World) {u:Value} (v:Value) (hc:W.cell? ⟨T,0,none⟩=some u) (hu:yaa u=false):wu T W (W.setCell ⟨T,0,none⟩ v):=
 ⟨by simp [World.setCell],fun i o hi ho _=>(Below.heap_setCell W _ v i hi).trans ho,fun _ _ hx=>hx.box hc hu v⟩
def kco (l:Sp) (k:Nat) (x:Mo × Value) (W:World):Prop:=∃ h:k < l.length,x.1=l[k].2/\xae W x.2 l[k].1
def qbj (x:Mo × Value):Array Value:=#[moV x.1,x.2]
theorem kbe {w : World} {l : Sp} {A : Option Addr} {c : Nat} (T : Nat) (hl1 : l.length <= c) (hl2 : c <= 9223372036854775807) (hat : zau w none A l) (hA : ∀ ad, A = some ad -> 0 < l.length -> ad.block ≠ T) (hdg : ∀ x ∈ l, (dg x.1.natAbs).length <= 1099511627776)
 (B:Nat) (hB:B < w.heap.size) (hBT:B ≠ T) (hc:w.cell? ⟨B,0,none⟩=some (.slice A l.length c)) (n:Nat):gco n Tryz.prog 202 #[.pointer (some ⟨B,0,none⟩)] qbj (kco l) (wu T) l.length w:=by
 intro lp J W hW hJ hY h0;have HAT:=Lib.hid hat;have HAN:=Lib.hid hA;have HDG:=Lib.hid hdg;have HJ:=Lib.hid (fun k W W' (h:J k W) (hx:Ext W W')=>hJ k W W' none h ⟨hx.below.os,hx.below.tape,hx.below.output,hx.size,fun i hi _=>hx.below.block i hi⟩ (fun r e=>by cases e));have HY:=Lib.hid hY;have H0:=Lib.hid h0;have HW:Hid (∀ i,i < w.heap.size->W.heap[i]?=w.heap[i]?):=Lib.hid (fun i hi=>hW.block i hi);have hws:=hW.size;have c0:W.cell? ⟨B,0,none⟩=some (.slice A l.length c):=(World.cell?_of_block (a:=⟨B,0,none⟩) (HW.out B hB)).trans hc;clear hat hA hdg hJ hY h0 hW hc;have hdd:∀ k:Nat,(Fence.wide.depth.isSome=true->1<=k):=fun k h=>by cases h
 refine callsIn_of_wp Tryz.func202 rfl trivial ?_ rfl;simp only [Tryz.ntmps202,List.size_toArray,List.length_cons,List.length_nil,Nat.reduceAdd,Nat.reduceSub,Array.replicate_succ,Array.replicate_zero,List.push_toArray,List.append_toArray,List.nil_append,List.cons_append]
 gi_wp2_with fail
 clear c0
 gi_loopw [7] (fun iv wr=>∃ k:Nat,k<=l.length/\iv=.int .i64 k/\Hid (J k wr/\wu T W wr)) (fun iv _=>l.length - (intOf iv).toNat)
 case atStart=>exact ⟨0,Nat.zero_le _,rfl,⟨H0.out,wu.refl _ _⟩⟩
 case round =>
  obtain ⟨k,hk,rfl,HR⟩:=hrel
  by_cases hlt:k < l.length
  · obtain ⟨ad,b,BA,bn,bc,rfl,hadb,ht,hcf⟩:=HAT.out k hlt;have hadT:=HAN.out ad rfl (by omega);have hab:(ad.add (k * 6)).block ≠ T:=by rw [ja]; exact hadT
    have hfar:∀ (a:Addr) (v:Value),a.block=ad.block->w.cell? a=some v->wr.cell? a=some v:=fun a v ha hv=>HR.out.2.cell (by rw [ha]; exact hadT) ((World.cell?_of_block (HW.out a.block (by rw [ha]; exact hadb))).trans hv)
    obtain ⟨t0,t1,t2,t3,t4,t5⟩:=ht
    replace t0:=hfar _ _ (ja _ _) t0
    replace t1:=hfar ⟨(ad.add (k * 6)).block,(ad.add (k * 6)).off+1,none⟩ _ (ja _ _) t1
    replace t2:=hfar ⟨(ad.add (k * 6)).block,(ad.add (k * 6)).off+2,none⟩ _ (ja _ _) t2
    replace t3:=hfar ⟨(ad.add (k * 6)).block,(ad.add (k * 6)).off+3,none⟩ _ (ja _ _) t3
    replace t4:=hfar ⟨(ad.add (k * 6)).block,(ad.add (k * 6)).off+4,none⟩ _ (ja _ _) t4
    replace t5:=hfar ⟨(ad.add (k * 6)).block,(ad.add (k * 6)).off+5,none⟩ _ (ja _ _) t5
    have hint:xae wr (.agg #[.bool b,.slice BA bn bc]) l[k].1:=by
     obtain ⟨v,e,hv⟩:=hcf;refine ⟨v,e,HR.out.2.2.2 _ _ ?_⟩;obtain ⟨A',c',e',h1,h2,h3,h4⟩:=hv;refine ⟨A',c',e',h1,h2,h3,fun hd=>?_⟩;obtain ⟨ad',e4,hb',hc'⟩:=h4 hd;exact ⟨ad',e4,by omega,fun j hj=>(World.cell?_of_block (by rw [ja]; exact HW.out _ hb')).trans (hc' j hj)⟩
    have hdk:=HDG.out l[k] (List.getElem_mem hlt);have HOK:Hid (∀ v W',xae W' v l[k].1->kco l k (l[k].2,v) W'):=Lib.hid (fun v W' hv=>⟨hlt,rfl,hv⟩);clear hfar hcf hab;generalize l[k].1=z at *;generalize l[k].2=mk at *;obtain ⟨V,hV⟩:∃ V,wr.alloc (.cells #[.bool b,.slice BA bn bc,.int .i64 mk.a,.int .i64 mk.b,.int .i64 mk.c,.int .i64 mk.d] 190)=V:=⟨_,rfl⟩;have hVx:Ext wr V:=by rw [<- hV]; exact (Ext.refl wr).alloc _
    have hVd:Ext wr V.drew:=hVx.drew;have HVD:=Lib.hid hVd;have HNI:=Lib.hid (zak _ z _ V.drew (hint.ext hVd).raw (by omega));have hcs:∀ W',Ext V W'->W'.cell? ⟨wr.heap.size,0,none⟩=some (.bool b)/\W'.cell? ⟨wr.heap.size,1,none⟩=some (.slice BA bn bc)/\W'.cell? ⟨wr.heap.size,2,none⟩=some (.int .i64 mk.a)/\W'.cell? ⟨wr.heap.size,3,none⟩=some (.int .i64 mk.b)/\W'.cell? ⟨wr.heap.size,4,none⟩=some (.int .i64 mk.c)/\W'.cell? ⟨wr.heap.size,5,none⟩=some (.int .i64 mk.d):=by
     have hsz:wr.heap.size < V.heap.size:=by rw [<- hV]; simp
     intro W' hx;have kk:∀ j,W'.cell? ⟨wr.heap.size,j,none⟩=V.cell? ⟨wr.heap.size,j,none⟩:=fun j=>hx.cell (p:=⟨wr.heap.size,j,none⟩) hsz
     refine ⟨(kk 0).trans ?_,(kk 1).trans ?_,(kk 2).trans ?_,(kk 3).trans ?_,(kk 4).trans ?_,(kk 5).trans ?_⟩ <;> (rw [<- hV]; simp [go_sem])
    obtain ⟨s0,s1,s2,s3,s4,s5⟩:=hcs V (Ext.refl V);have HCS:=Lib.hid hcs;have hmx:Tryz.prog.follows .mixedOrders=true:=by kernel_rfl
    clear hcs hVx hVd hint hdk
    gi_wp2_with fail
    clear hV t0 t1 t2 t3 t4 t5
    gi_region_with_o (first
     | (go_simp
        refine ⟨trivial,hdd _,?_⟩;refine (callsIn_wide.2 HNI.out).mono ?_;rintro e v1 ⟨zv,rfl,hz,x1⟩;have Z1:=Lib.hid hz;have X1:=Lib.hid (HVD.out.trans x1);obtain ⟨zb,zA,zn,zc,rfl⟩:=hz.unpack;obtain ⟨q0,q1,q2,q3,q4,q5⟩:=HCS.out v1 ((Ext.refl V).drew.trans x1);obtain ⟨fn,tmps,assign,body,hy,hRR⟩:=HY.out k (mk,.agg #[.bool zb,.slice zA zn zc]) v1 hlt (HJ.out _ _ _ HR.out.1 X1.out) (HOK.out _ _ hz);have HRR:=Lib.hid hRR;dsimp only [qbj,moV] at hy
        clear hRR x1 hz)
     | (go_simp
        refine ⟨hdd _,?_⟩;refine HRR.out.mono ?_;rintro e v2 ⟨rfl,hj2,hk2⟩;have J2:=Lib.hid hj2;have K2:=Lib.hid hk2
        clear hj2 hk2))
    all_goals
     clear HRR hy q0 q1 q2 q3 q4 q5 s0 s1 s2 s3 s4 s5
     gi_wp2_with fail
     go_roundw
     case rel=>exact ⟨k+1,by omega,by go_num,⟨J2.out,(HR.out.2.trans (wu.of_ext T X1.out)).trans K2.out⟩⟩
     case measure=>simp [intOf]; omega
  · obtain rfl:k=l.length:=by omega
    gi_wp2_with fail
    go_end0
    exact ⟨⟨_,rfl⟩,HR.out.1⟩
end Go.Proofs.YtaedbimbbeploaaGreatDoor

/- Layer 38: prenex.sum: the term of a polynomial. -/
set_option maxRecDepth 100000
set_option maxHeartbeats 8000000
namespace Go.Proofs.YtaedbimbbeploaaGreatDoor
open Go.RowKit Go.Shelf
attribute [local go_sem] Oper.semAt_some
def jq (nms:List ByteArray) (o:Option Tm) (x:Int × Mo):Option Tm:=
 match o with
 | none=>some (if x.1 < 0 then .neg (monT (x.1.natAbs:Int) x.2 nms) else monT (x.1.natAbs:Int) x.2 nms)
 | some a=>some (if x.1 < 0 then .sub a (monT (x.1.natAbs:Int) x.2 nms) else .add a (monT (x.1.natAbs:Int) x.2 nms))
def uai (l:Sp) (nms:List ByteArray):Option Tm:=l.foldl (jq nms) none
def sumT (l:Sp) (nms:List ByteArray):Tm:=(uai l nms).getD (.num 0)
theorem ub6 (l:Sp) (nms:List ByteArray) (k:Nat) (hk:k < l.length):uai (l.take (k+1)) nms=jq nms (uai (l.take k) nms) l[k]:=by
 unfold uai;rw [List.take_succ_eq_append_getElem hk,List.foldl_append]; rfl
theorem TmV.turn {w w':World} {L:Nat} (hn:∀ x ds,jb w x ds->jb w' x ds) {t:Tm} {v:Value} (h:TmV w L t v):TmV w' L t v:=by
 induction t generalizing v with
 | num z=>obtain ⟨x,e,neg,y,ds,e2,hv,h1,h2⟩:=h; exact ⟨x,e,neg,y,ds,e2,hn _ _ hv,h1,h2⟩
 | name s=>exact h
 | add a b iha ihb=>obtain ⟨x,y,e,h,k⟩:=h; exact ⟨x,y,e,iha h,ihb k⟩
 | sub a b iha ihb=>obtain ⟨x,y,e,h,k⟩:=h; exact ⟨x,y,e,iha h,ihb k⟩
 | mul a b iha ihb=>obtain ⟨x,y,e,h,k⟩:=h; exact ⟨x,y,e,iha h,ihb k⟩
 | neg a iha=>obtain ⟨x,e,h⟩:=h; exact ⟨x,e,iha h⟩
 | pow a n iha=>obtain ⟨x,e,h⟩:=h; exact ⟨x,e,iha h⟩
theorem OTm.turn {w w':World} {L:Nat} (hn:∀ x ds,jb w x ds->jb w' x ds) {o:Option Tm} {v:Value} (h:OTm w L o v):OTm w' L o v:=by
 cases o with
 | none=>exact h
 | some t=>exact TmV.turn hn h
theorem gax {W W':World} {row:Option Nat} (hg:W.grownBy W' row) (hr:∀ r,row=some r->∃ o:Obj,W.heap[r]?=some o/\o.isCells=false) {x:Value} {ds:List Nat} (h:jb W x ds):jb W' x ds:=by
 obtain ⟨A,c,e,h1,h2,h3,h4⟩:=h;refine ⟨A,c,e,h1,h2,h3,fun hd=>?_⟩;obtain ⟨ad,e4,hlt,hcc⟩:=h4 hd;refine ⟨ad,e4,Nat.lt_of_lt_of_le hlt hg.size,fun j hj=>?_⟩;refine (World.cell?_of_block ?_).trans (hcc j hj);rw [ja];refine hg.block _ hlt (fun e=>?_);obtain ⟨o,ho,hoc⟩:=hr _ e.symm;obtain ⟨o',ho',hoc'⟩:=cells_of_cell (hcc j hj);rw [ja,ho] at ho';injection ho' with ho'
 subst ho';rw [hoc] at hoc'; cases hoc'
theorem cells_kept {W W':World} {row:Option Nat} (hg:W.grownBy W' row) (hr:∀ r,row=some r->∃ o:Obj,W.heap[r]?=some o/\o.isCells=false) {i:Nat} {cs:Array Value} {t:TypeId} {fr:Nat × Nat} (h:W.heap[i]?=some (.cells cs t fr)):W'.heap[i]?=some (.cells cs t fr):=by
 refine (hg.block i (Array.getElem?_eq_some_iff.1 h).1 (fun e=>?_)).trans h;obtain ⟨o,ho,hoc⟩:=hr _ e.symm;rw [h] at ho;injection ho with ho
 rw [<- ho] at hoc;cases hoc
theorem yar {A B:World} {b:Nat} (h:Ext A B):KeepsFrom b A B:=KeepsFrom.of_grownBy (row:=none) ⟨h.below.os,h.below.tape,h.below.output,h.size,fun i hi _=>h.below.block i hi⟩ (fun j e=>by cases e)
theorem box1 {W:World} {g:Nat} {v:Value} {t:TypeId} (h:W.heap[g]?=some (.cells #[v] t (0,0))):W.cell? ⟨g,0,none⟩=some v:=by simp [World.cell?,h]
theorem ycy {W:World} {g:Nat} {v0 v1:Value} {t:TypeId} (h:W.heap[g]?=some (.cells #[v0,v1] t (0,0))):W.cell? ⟨g,0,none⟩=some v0/\W.cell? ⟨g,1,none⟩=some v1:=by simp [World.cell?,h]
theorem ucn {W:World} {g:Nat} {v0 v1 v2 v3:Value} {t:TypeId} (h:W.heap[g]?=some (.cells #[v0,v1,v2,v3] t (0,0))):W.cell? ⟨g,0,none⟩=some v0/\W.cell? ⟨g,1,none⟩=some v1/\W.cell? ⟨g,2,none⟩=some v2/\W.cell? ⟨g,3,none⟩=some v3:=by simp [World.cell?,h]
theorem zau.apart {W:World} {l:Sp} {A:Option Addr} {T:Nat} {ov:Value} {t:TypeId} (h:zau W none A l) (hb:W.heap[T]?=some (.cells #[ov] t (0,0))):∀ ad,A=some ad->0 < l.length->ad.block ≠ T:=by
 intro ad e hl he;obtain ⟨ad',b,B,n,c,e2,-,⟨-,h1,h2,-⟩,-⟩:=h 0 hl;rw [e] at e2;injection e2 with e2
 subst e2;rw [Nat.zero_mul] at h1 h2;have key:∀ (o:Nat) (v:Value),W.cell? ⟨(ad.add 0).block,o,none⟩=some v->o=0:=fun o v hv=>by
  rw [World.cell?] at hv;simp only [ja,he,hb] at hv
  by_cases ho:o=0
  · exact ho
  · exfalso
    revert hv
    split
    · intro hv; cases hv
    · intro hv;obtain ⟨h5,-⟩:=Array.getElem?_eq_some_iff.1 hv;simp at h5;omega
 have k1:=key _ _ h1;have k2:=key _ _ h2;omega
theorem sum_any {w : World} {q : Nat -> Prop} {L : Nat} {p : Pl} {v nv : Value} {nms : List ByteArray} (h : PlV w q p v) (hsz : p.sz <= 1000000) (hdm : p.dm <= 1000000) (hs : SlR (fun _ (s : ByteArray) x => x = .string s) w nv nms) (hL : p.dm + 1 <= L) (hL1 : 1 <= L)
 (hfit:∀ x ∈ jc (p.terms Mo.one),∀ k:Nat,k < 4->0 < x.2.get ((k:Int)+1)->k < nms.length):Calls Tryz.prog 131 #[v,nv] w fun e w'=>∃ v',e=.returned v'/\TmV w' L (sumT (jc (p.terms Mo.one)) nms) v'/\Ext w w':=by
 have HPL:=Lib.hid h;have HS:=Lib.hid hs;have HFIT:=Lib.hid hfit;have hln:=Pl.terms_len p Mo.one;have hdig0:=qao p h.dig (by omega);have HDL:Hid (∀ x ∈ jc (p.terms Mo.one),(dg x.1.natAbs).length<=p.dm+1):=Lib.hid (fun x hx=>Nat.le_trans (jh (kas hx)) (Nat.le_trans (jh (wai _)) hdig0));have hsl:=xaq (p.terms Mo.one);have HSN:Hid (jc (jc (p.terms Mo.one))=jc (p.terms Mo.one)):=Lib.hid (vas (ww _) fun x hx=>(jr hx).1);have hsd:(dg (qf (jc (p.terms Mo.one)))).length<=p.dm+1:=Nat.le_trans (jh (wai _)) hdig0;obtain ⟨A0,n0,c0,A,c,rfl,-⟩:=h.open_;obtain ⟨NA,cn,rfl,hn1,hn2,-⟩:=hs;clear h hfit hdig0;obtain ⟨l,hl⟩:∃ l,jc (p.terms Mo.one)=l:=⟨_,rfl⟩;rw [hl] at hsl hsd HDL HSN HFIT;rw [hl];have hdd:∀ k:Nat,(Fence.wide.depth.isSome=true->1<=k):=fun k h=>by cases h
 obtain ⟨W0,hW0⟩:∃ W0,((w.alloc (.cells #[.int .i64 p.lv,.bool p.neg,.slice A0 n0 c0,.slice A p.cs.length c] 42)).alloc (.cells #[.slice NA nms.length cn] 39)).alloc (.cells #[.nilIface] 58)=W0:=⟨_,rfl⟩;have hx0:Ext w W0:=by rw [<- hW0]; exact (((Ext.refl w).alloc _).alloc _).alloc _
 have hs0:W0.heap.size=w.heap.size+3:=by rw [<- hW0]; simp
 have hbN:W0.heap[w.heap.size+1]?=some (.cells #[.slice NA nms.length cn] 39 (0,0)):=by
  rw [<- hW0,Below.heap_alloc _ _ _ (by simp)];have:=heap_alloc_new (w.alloc (.cells #[.int .i64 p.lv,.bool p.neg,.slice A0 n0 c0,.slice A p.cs.length c] 42)) (.cells #[.slice NA nms.length cn] 39)
  rwa [World.size_alloc] at this
 have hbT:W0.heap[w.heap.size+1+1]?=some (.cells #[.nilIface] 58 (0,0)):=by
  rw [<- hW0];have:=heap_alloc_new ((w.alloc (.cells #[.int .i64 p.lv,.bool p.neg,.slice A0 n0 c0,.slice A p.cs.length c] 42)).alloc (.cells #[.slice NA nms.length cn] 39)) (.cells #[.nilIface] 58);simpa using this
 have hcP:W0.cell? ⟨w.heap.size,0,none⟩=some (.int .i64 p.lv)/\W0.cell? ⟨w.heap.size,1,none⟩=some (.bool p.neg)/\W0.cell? ⟨w.heap.size,2,none⟩=some (.slice A0 n0 c0)/\W0.cell? ⟨w.heap.size,3,none⟩=some (.slice A p.cs.length c):=by
  rw [<- hW0]; exact ⟨by simp [go_sem],by simp [go_sem],by simp [go_sem],by simp [go_sem]⟩
 obtain ⟨b0,b1,b2,b3⟩:=hcP;have HX0:=Lib.hid hx0;have HBN:=Lib.hid hbN;have HBT:=Lib.hid hbT;clear hx0 hbN hbT;unfold plV;refine (callsIn_wide (n:=5)).1 ?_;refine callsIn_of_wp_marks Tryz.func131 rfl trivial ?_ rfl;simp only [Tryz.ntmps131,List.size_toArray,List.length_cons,List.length_nil,Nat.reduceAdd,Nat.reduceSub,Array.replicate_succ,Array.replicate_zero,List.push_toArray,List.append_toArray,List.nil_append,List.cons_append];have HTO:=Lib.hid (qb6 p _ (HPL.out.ext HX0.out) (by omega) (by omega));unfold plV at HTO;rw [hl] at HTO;clear hl
 gi_wp2_with fail
 clear b0 b1 b2 b3 hW0;refine ⟨trivial,?_⟩;refine (callsIn_wide.2 HTO.out).mono ?_;rintro e w1 ⟨v1,rfl,sp1,x1⟩;have HTQ:=Lib.hid (vbe sp1 (fun x hx=>by have:=HDL.out x hx; omega) (by omega) (by omega));rw [HSN.out] at HTQ;obtain ⟨A1,k1,rfl,-⟩:=sp1;clear HTO;have X1:=Lib.hid (HX0.out.trans x1);have BN1:=Lib.hid ((x1.below.block _ (by omega)).trans HBN.out);have BT1:=Lib.hid ((x1.below.block _ (by omega)).trans HBT.out);have hs1:=x1.size;clear x1 HX0 HBN HBT
 gi_wp2_with fail
 refine ⟨trivial,?_⟩;refine (callsIn_wide.2 HTQ.out).mono ?_;rintro e w2 ⟨B2,v2,rfl,hc2,hB1,hB2,⟨A2,k2,rfl,hk1,hk2,hat⟩,x2⟩;have X2:=Lib.hid (X1.out.trans x2);have BN2:=Lib.hid ((x2.below.block _ (by omega)).trans BN1.out);have BT2:=Lib.hid ((x2.below.block _ (by omega)).trans BT1.out);have hs2:=x2.size;have HSEQ:=Lib.hid (fun n=>kbe (w.heap.size+1+1) hk1 hk2 hat (hat.apart BT2.out) (fun x hx=>by have:=HDL.out x hx; omega) B2 hB2 (by omega) hc2 n);clear x2 hc2 hat HTQ X1 BN1 BT1
 gi_wp2_with fail
 refine ybn (by omega) (gf := 202) (lb := #[.pointer (some ⟨B2, 0, none⟩)]) rfl (enters_of Tryz.func202 (by kernel_rfl) rfl) (HSEQ.out _) wu.trans (fun W l o o' _ h1 h2 _ => wu.putObj _ W l o o' h1 h2) (Below.refl _ _) (fun _ => rfl)
  (fun k W=>∃ ov,Ext w W/\w2.heap.size<=W.heap.size/\W.heap[w.heap.size+1]?=some (.cells #[.slice NA nms.length cn] 39 (0,0))/\W.heap[w.heap.size+1+1]?=some (.cells #[ov] 58 (0,0))/\OTm W L (uai (l.take k) nms) ov)
  ?ownI ?startI
  (fun k x a' W=>(∃ g zb zA zn zc,a'={ tmps:=#[.agg #[.int .i64 p.lv,.bool p.neg,.slice A0 n0 c0,.slice A p.cs.length c],.slice NA nms.length cn,.pointer (some ⟨w.heap.size,0,none⟩),.pointer (some ⟨w.heap.size+1,0,none⟩),.nilIface,.pointer (some ⟨w.heap.size+1+1,0,none⟩),.pointer (some ⟨g,0,none⟩),.pointer (some ⟨g+1,0,none⟩),undef,undef,.agg #[.int .i64 p.lv,.bool p.neg,.slice A0 n0 c0,.slice A p.cs.length c],.slice A1 l.length k1,.func (.func 202) #[] #[.pointer (some ⟨B2,0,none⟩)],.agg #[.int .i64 x.1.a,.int .i64 x.1.b,.int .i64 x.1.c,.int .i64 x.1.d],.agg #[.bool zb,.slice zA zn zc],undef,undef,undef,undef,undef,undef,undef,undef,undef,undef,undef,undef,undef,undef,undef,undef,undef,undef,undef,undef,undef,undef,undef,undef,undef,undef,undef,undef,undef,undef,undef,undef,undef,undef,undef,undef,undef],defers:=[] }/\x.2=.agg #[.bool zb,.slice zA zn zc]/\w2.heap.size<=g/\W.heap[g]?=some (.cells #[.int .i64 x.1.a,.int .i64 x.1.b,.int .i64 x.1.c,.int .i64 x.1.d] 188 (0,0))/\W.heap[g+1]?=some (.cells #[.bool zb,.slice zA zn zc] 25 (0,0)))/\kco l k x W/\∃ ov,Ext w W/\w2.heap.size<=W.heap.size/\W.heap[w.heap.size+1]?=some (.cells #[.slice NA nms.length cn] 39 (0,0))/\W.heap[w.heap.size+1+1]?=some (.cells #[ov] 58 (0,0))/\OTm W L (uai (l.take k) nms) ov)
  ?ownA ?assign ?body ?done
 case ownI =>
  rintro k W W' row ⟨ov,h1,h2,h3,h4,h5⟩ hg hr;exact ⟨ov,Below.grown h1.below hg h1.size (fun r e=>by have:=(hr r e).1; have:=h1.size; have:=X2.out.size; omega),Nat.le_trans h2 hg.size,cells_kept hg (fun r e=>(hr r e).2) h3,cells_kept hg (fun r e=>(hr r e).2) h4,h5.turn (fun x ds hx=>gax hg (fun r e=>(hr r e).2) hx)⟩
 case startI=>exact ⟨.nilIface,X2.out,Nat.le_refl _,BN2.out,BT2.out,by rw [List.take_zero]; exact rfl⟩
 case ownA =>
  rintro k x a' s W W' row ⟨⟨g,zb,zA,zn,zc,ha,hx,hg1,hg2,hg3⟩,⟨hk,hm,zv,ez,hz⟩,ov,h1,h2,h3,h4,h5⟩ hg hr;have hr2:=fun r e=>(hr r e).2
  exact ⟨⟨g,zb,zA,zn,zc,ha,hx,hg1,cells_kept hg hr2 hg2,cells_kept hg hr2 hg3⟩,⟨hk,hm,zv,ez,gax hg hr2 hz⟩,ov,Below.grown h1.below hg h1.size (fun r e=>by have:=(hr r e).1; have:=h1.size; have:=X2.out.size; omega),Nat.le_trans h2 hg.size,cells_kept hg hr2 h3,cells_kept hg hr2 h4,h5.turn (fun x ds hx=>gax hg hr2 hx)⟩
 case assign =>
  rintro lp k ⟨mk,xv⟩ W K hk ⟨ov,h1,h2,h3,h4,h5⟩ ⟨hk',hm,hz⟩ hK;dsimp only at hm hz;obtain ⟨zb,zA,zn,zc,rfl⟩:=hz.unpack;have hx1:Ext W (W.alloc (.cells #[.int .i64 mk.a,.int .i64 mk.b,.int .i64 mk.c,.int .i64 mk.d] 188)):=(Ext.refl W).alloc _;have hx2:Ext W ((W.alloc (.cells #[.int .i64 mk.a,.int .i64 mk.b,.int .i64 mk.c,.int .i64 mk.d] 188)).alloc (.cells #[.bool zb,.slice zA zn zc] 25)):=hx1.alloc _;have HK:=hK { tmps:=#[.agg #[.int .i64 p.lv,.bool p.neg,.slice A0 n0 c0,.slice A p.cs.length c],.slice NA nms.length cn,.pointer (some ⟨w.heap.size,0,none⟩),.pointer (some ⟨w.heap.size+1,0,none⟩),.nilIface,.pointer (some ⟨w.heap.size+1+1,0,none⟩),.pointer (some ⟨W.heap.size,0,none⟩),.pointer (some ⟨W.heap.size+1,0,none⟩),undef,undef,.agg #[.int .i64 p.lv,.bool p.neg,.slice A0 n0 c0,.slice A p.cs.length c],.slice A1 l.length k1,.func (.func 202) #[] #[.pointer (some ⟨B2,0,none⟩)],.agg #[.int .i64 mk.a,.int .i64 mk.b,.int .i64 mk.c,.int .i64 mk.d],.agg #[.bool zb,.slice zA zn zc],undef,undef,undef,undef,undef,undef,undef,undef,undef,undef,undef,undef,undef,undef,undef,undef,undef,undef,undef,undef,undef,undef,undef,undef,undef,undef,undef,undef,undef,undef,undef,undef,undef,undef,undef,undef,undef],defers:=[] } _ (yar hx2) (wu.of_ext _ hx2) ⟨⟨W.heap.size,zb,zA,zn,zc,rfl,rfl,h2,(Below.heap_alloc _ _ _ (by simp)).trans (heap_alloc_new W _),by
   have:=heap_alloc_new (W.alloc (.cells #[.int .i64 mk.a,.int .i64 mk.b,.int .i64 mk.c,.int .i64 mk.d] 188)) (.cells #[.bool zb,.slice zA zn zc] 25)
   rwa [World.size_alloc] at this⟩,⟨hk',hm,hz.ext hx2⟩,ov,h1.trans hx2,Nat.le_trans h2 hx2.size,(hx2.below.block _ (by omega)).trans h3,(hx2.below.block _ (by omega)).trans h4,h5.ext hx2⟩
  have HKK:=Lib.hid HK;clear HK hK h1 h2 h3 h4 h5 hx1 hx2 hz hm;simp only [qbj,moV]
  gi_wp2
  exact HKK.out
 case body =>
  rintro lp k ⟨mk,xv⟩ a' W hk ⟨⟨g,zb,zA,zn,zc,rfl,hxv,hg1,hg2,hg3⟩,⟨hk',hm,hz⟩,ov,h1,h2,h3,h4,h5⟩;dsimp only at hxv hm hz hg2;subst hxv;have HSTEP:Hid (uai (l.take (k+1)) nms=jq nms (uai (l.take k) nms) (l[k].1,mk)):=Lib.hid (by rw [ub6 l nms k hk',hm]);have hfk:∀ k':Nat,k' < 4->0 < mk.get ((k':Int)+1)->k' < nms.length:=by rw [hm]; exact HFIT.out l[k] (List.getElem_mem hk')
  have hdz:=HDL.out l[k] (List.getElem_mem hk');clear hm;generalize l[k].1=z at *;have HI1:=Lib.hid h1;have HI2:Hid (w2.heap.size<=W.heap.size):=Lib.hid h2;have HI5:=Lib.hid h5
  have HCS:Hid (∀ W',Ext W W'->(W'.heap[w.heap.size+1]?=some (.cells #[.slice NA nms.length cn] 39 (0,0))/\W'.heap[w.heap.size+1+1]?=some (.cells #[ov] 58 (0,0))/\W'.heap[g]?=some (.cells #[.int .i64 mk.a,.int .i64 mk.b,.int .i64 mk.c,.int .i64 mk.d] 188 (0,0))/\W'.heap[g+1]?=some (.cells #[.bool zb,.slice zA zn zc] 25 (0,0)))):=Lib.hid (fun W' hx =>
   ⟨(hx.below.block _ (Array.getElem?_eq_some_iff.1 h3).1).trans h3,(hx.below.block _ (Array.getElem?_eq_some_iff.1 h4).1).trans h4,(hx.below.block _ (Array.getElem?_eq_some_iff.1 hg2).1).trans hg2,(hx.below.block _ (Array.getElem?_eq_some_iff.1 hg3).1).trans hg3⟩)
  have HABS:=Lib.hid (vcv _ z _ W.drew (hz.ext (Ext.refl W).drew).raw (by omega));have HMON:=Lib.hid (fun W' (hx:Ext W W') av (ha:xae W' av (z.natAbs:Int))=>vbo (L:=L) (m:=mk) ha (by rw [Int.natAbs_natCast]; omega) (SlR.ext HS.out (fun _ _ h=>h) (HI1.out.trans hx)) hfk);have HSG:=Lib.hid (fun W' (hx:Ext W W')=>jax _ z _ W' (hz.ext hx).raw);have hmx:Tryz.prog.follows .mixedOrders=true:=by kernel_rfl
  unfold moV at HMON;clear h1 h2 h3 h4 h5 hg2 hg3 hz hfk;obtain ⟨p1,p2,p3,p4⟩:=HCS.out _ (Ext.refl W).drew;have d1:=box1 p1;have d2:=ucn p3;have d3:=ycy p4;obtain ⟨e0,e1,e2,e3⟩:=d2;obtain ⟨f0,f1⟩:=d3;clear p1 p2 p3 p4
  gi_wp2_with fail
  gi_region_with_o (first
   | (go_simp
      (first | refine ⟨trivial,hdd _,?_⟩ | refine ⟨trivial,?_⟩)
      refine (CallsIn.inRound lp (callsIn_wide.2 HABS.out)).mono ?_;rintro e v1 ⟨av,rfl,ha,x1⟩;have A1':=Lib.hid ha;have Y1:=Lib.hid ((Ext.refl W).drew.trans x1);obtain ⟨ab,aA,an,ac,rfl⟩:=ha.unpack;obtain ⟨p1,p2,p3,p4⟩:=HCS.out _ Y1.out;obtain ⟨q0,q1,q2,q3⟩:=ucn p3;have q4:=box1 p1
      clear ha x1 p1 p2 p3 p4)
   | (go_simp
      (first | refine ⟨trivial,hdd _,?_⟩ | refine ⟨trivial,?_⟩)
      refine (CallsIn.inRound lp (callsIn_wide.2 (HMON.out _ Y1.out _ A1'.out))).mono ?_;rintro e v2 ⟨tv,rfl,ht,x2'⟩;have HT:=Lib.hid ht;have Y2:=Lib.hid (Y1.out.trans x2');obtain ⟨TT,tx,rfl⟩:=ht.iface
      clear ht x2'))
  all_goals
   obtain ⟨p1,p2,p3,p4⟩:=HCS.out _ Y2.out;obtain ⟨r0,r1⟩:=ycy p4;clear e0 e1 e2 e3 f0 f1 d1 q0 q1 q2 q3 q4 p1 p2 p3 p4 HABS HMON A1'
   gi_wp2_with fail
   clear r0 r1
   (first | refine ⟨trivial,hdd _,?_⟩ | refine ⟨trivial,?_⟩)
   refine (CallsIn.inRound lp (callsIn_wide.2 (HSG.out _ Y2.out))).mono ?_;rintro e v3 ⟨rfl,x3⟩;have Y3:=Lib.hid (Y2.out.trans x3);have HT3:=Lib.hid (TmV.ext x3 HT.out);obtain ⟨p1,p2,p3,p4⟩:=HCS.out _ Y3.out;have t0:=box1 p2;have tf:v3.frozen? ⟨w.heap.size+1+1,0,none⟩=false:=by simp [World.frozen?,p2]
   have hov:yaa ov=false:=by
    have h5:=HI5.out;cases ho:uai (l.take k) nms with
    | none=>rw [ho] at h5; obtain rfl:ov=.nilIface:=h5; rfl
    | some t=>rw [ho] at h5; obtain ⟨_,_,rfl⟩:=TmV.iface h5; rfl
   have HFIN:Hid (∀ nv t',TmV v3 L t' nv->jq nms (uai (l.take k) nms) (z,mk)=some t'->(KeepsFrom w2.heap.size W (v3.setCell ⟨w.heap.size+1+1,0,none⟩ nv)/\wu (w.heap.size+1+1) W (v3.setCell ⟨w.heap.size+1+1,0,none⟩ nv)/\∃ ov,Ext w (v3.setCell ⟨w.heap.size+1+1,0,none⟩ nv)/\w2.heap.size<=(v3.setCell ⟨w.heap.size+1+1,0,none⟩ nv).heap.size/\(v3.setCell ⟨w.heap.size+1+1,0,none⟩ nv).heap[w.heap.size+1]?=some (.cells #[.slice NA nms.length cn] 39 (0,0))/\(v3.setCell ⟨w.heap.size+1+1,0,none⟩ nv).heap[w.heap.size+1+1]?=some (.cells #[ov] 58 (0,0))/\OTm (v3.setCell ⟨w.heap.size+1+1,0,none⟩ nv) L (uai (l.take (k+1)) nms) ov)):=Lib.hid (by
    intro nv t' hnv hst;have hw:=X2.out.size;have hi2:=HI2.out;have hy3:=Y3.out.size;refine ⟨(yar Y3.out).trans (KeepsFrom.of_grownBy (grownBy_setCell' v3 _ nv) (fun j e=>by injection e with e; omega)),(wu.of_ext _ Y3.out).trans (wu.setCell _ v3 nv t0 hov),nv,(HI1.out.trans Y3.out).setCell (show w.heap.size<=w.heap.size+1+1 by omega) _,?_,(Below.heap_setCell v3 _ _ _ (by simp)).trans p1,Boxed.set nv p2,?_⟩
    · have:(v3.setCell ⟨w.heap.size+1+1,0,none⟩ nv).heap.size=v3.heap.size:=by simp [World.setCell]
      omega
    · rw [HSTEP.out,hst]
      exact TmV.turn (fun x ds hx=>hx.box t0 hov nv) hnv)
   clear p1 p2 p3 p4 x3 HCS HSTEP hov;obtain ⟨o,ho⟩:∃ o,uai (l.take k) nms=o:=⟨_,rfl⟩;rw [ho] at HI5 HFIN;clear ho
   by_cases hneg:z < 0
   · have hsg:decide (sgI z < 0)=true:=by
      have:sgI z=-1:=xai hneg;rw [this]; rfl
     cases o with
     | none =>
       obtain rfl:ov=.nilIface:=HI5.out;have HEND:=Lib.hid (HFIN.out _ _ (show TmV v3 L (.neg (monT (z.natAbs:Int) mk nms)) _ from ⟨_,rfl,HT3.out⟩) (by simp only [jq]; rw [if_pos hneg]));clear hneg HFIN
       gi_wp2_with fail
       exact HEND.out
     | some a =>
       obtain ⟨OT,ox,rfl⟩:=TmV.iface HI5.out;have HO3:TmV v3 L a (.iface OT ox):=TmV.ext Y3.out HI5.out;have HEND:=Lib.hid (HFIN.out _ _ (show TmV v3 L (.sub a (monT (z.natAbs:Int) mk nms)) _ from ⟨_,_,rfl,HO3,HT3.out⟩) (by simp only [jq]; rw [if_pos hneg]));clear hneg HFIN HO3
       gi_wp2_with fail
       exact HEND.out
   · have hsg:decide (sgI z < 0)=false:=by
      have:¬ sgI z < 0:=by unfold sgI vg; split <;> (try split) <;> omega
      simpa using this
     cases o with
     | none =>
       obtain rfl:ov=.nilIface:=HI5.out;have HEND:=Lib.hid (HFIN.out _ _ HT3.out (by simp only [jq]; rw [if_neg hneg]));clear hneg HFIN
       gi_wp2_with fail
       exact HEND.out
     | some a =>
       obtain ⟨OT,ox,rfl⟩:=TmV.iface HI5.out;have HO3:TmV v3 L a (.iface OT ox):=TmV.ext Y3.out HI5.out;have HEND:=Lib.hid (HFIN.out _ _ (show TmV v3 L (.add a (monT (z.natAbs:Int) mk nms)) _ from ⟨_,_,rfl,HO3,HT3.out⟩) (by simp only [jq]; rw [if_neg hneg]));clear hneg HFIN HO3
       gi_wp2_with fail
       exact HEND.out
 case done =>
  rintro D W hD ⟨ov,h1,h2,h3,h4,h5⟩ hK;rw [List.take_length] at h5;have t0:=box1 h4;have H1:=Lib.hid h1;have HKD:=Lib.hid hK;have H5:=Lib.hid h5;have hWD:=(Array.getElem?_eq_some_iff.1 hK).1;have hw2:=X2.out.size;clear h1 h2 h3 h4 h5 hK;obtain ⟨o,ho⟩:∃ o,uai l nms=o:=⟨_,rfl⟩;have HRES:Hid (sumT l nms=o.getD (.num 0)):=Lib.hid (by unfold sumT; rw [ho]);rw [ho] at H5;clear ho;cases o with
  | none =>
    obtain rfl:ov=.nilIface:=H5.out
    gi_wp2_with fail
    refine ⟨trivial,?_⟩;refine (callsIn_wide.2 (of_int 0 W (by omega) (by omega))).mono ?_;rintro e W6 ⟨zv,rfl,hz,x6⟩;obtain ⟨ab,aA,an,ac,rfl⟩:=hz.unpack;have X6:=Lib.hid (H1.out.trans x6);have hD6:W6.heap[D]?=some (.deferred (some [])):=(x6.below.block _ hWD).trans HKD.out;have HD6:=Lib.hid hD6;have HZ:=Lib.hid (xq.mono hz.raw (show (dg (0:Int).natAbs).length<=L by simp [qm]));clear x6 hz hD6
    gi_wp2_with fail
    refine ⟨by simp,.inl ⟨_,_,rfl,run_takeDeferred HD6.out,?_⟩⟩;exact ⟨.iface 120 (.agg #[.bool ab,.slice aA an ac]),by simp [results,Tryz.results131,go_sem],_,rfl,by rw [HRES.out]; exact TmV.turn (wu.putObj 0 W6 D _ _ HD6.out rfl).2.2 (show TmV W6 L (.num 0) _ from ⟨_,rfl,HZ.out⟩),Below.grown X6.out.below (grownBy_putObj' _ D _) X6.out.size (fun k e=>by injection e with e; omega)⟩
  | some a =>
    obtain ⟨OT,ox,rfl⟩:=TmV.iface H5.out
    gi_wp2_with fail
    refine ⟨by simp,.inl ⟨_,_,rfl,run_takeDeferred HKD.out,?_⟩⟩;exact ⟨.iface OT ox,by simp [results,Tryz.results131,go_sem],_,rfl,by rw [HRES.out]; exact TmV.turn (wu.putObj 0 W D _ _ HKD.out rfl).2.2 H5.out,Below.grown H1.out.below (grownBy_putObj' _ D _) H1.out.size (fun k e=>by injection e with e; omega)⟩
end Go.Proofs.YtaedbimbbeploaaGreatDoor
