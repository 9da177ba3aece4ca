/- Layer 20: sparse.Terms, an iterator; layer 21: recpoly.To. -/
import Derived.Test.YtklnlgnnlmdibaaGreatMq37
import Derived.Shelf.RegionOpen
import Derived.OwnWalkIn
import Derived.LoopNIn
import Derived.LoopIn
set_option linter.unusedSimpArgs false
set_option linter.unusedVariables false

set_option maxRecDepth 100000
set_option maxHeartbeats 8000000
namespace Go.Proofs.YtklnlgnnlmdibaaGreat
open Lib (hid)
open Go.RowKit Go.Shelf
attribute [local go_sem] Oper.semAt_some
theorem ucw {w:World} {q:Nat->Prop} (p:Pl) (v:Value) (h:PlV w q p v) (hsz:p.sz<=1073741824) (ig:p.dm<=1099511627776):Calls Tryz.prog 61 #[v] w (kbf (ji (p.terms Mo.one)) w):=by
 have qI:=hid h;have Ed:=hid h.dig;obtain ⟨A0,n0,c0,A,c,rfl,-⟩:=h.open_;clear h;obtain ⟨W,hW⟩:=n_m (w.alloc (.cells #[.int .i64 p.lv,.bool p.neg,.slice A0 n0 c0,.slice A p.cs.length c] 35));have ai:Ext w W:=by rw [<- hW]; exact (Ext.refl w).alloc _
 have aF:=hid ai;have fH:Hid (∀ W',Ext w W'->Calls Tryz.prog 80 #[.slice none 0 0,plV p (.slice A0 n0 c0) (.slice A p.cs.length c),moV Mo.one] W' fun e w'=>∃ tv,e=.returned tv/\TsV (some p.dm) W'.heap.size w' tv (p.terms Mo.one)/\Ext W' w'):=fun W' bJ=>ua8 p _ p.dm (Nat.le_refl _) (by omega) (qI.out.ext bJ)
 unfold moV Mo.one plV at fH;have aj:jb W (w.heap.size) p (.slice A0 n0 c0) (.slice A p.cs.length c):=by
  rw [<- hW]; exact ⟨by simp [go_sem],by simp [go_sem],by simp [go_sem],by simp [go_sem]⟩
 obtain ⟨b0,b1,b2,b3⟩:=aj;clear ai;unfold plV;go_enter Tryz.func61,Tryz.ntmps61;go_wp2_with fail;clear hW b0 b1 b2 b3;refine (fH.out _ aF.out).mono ?_;rintro e w2 ⟨tv,rfl,t2,x2⟩;have rC:=t2.sp;have kD:=Pl.terms_len p Mo.one;have jX:=ja9 p Ed.out hsz;have bD:=qaj (ko:=some p.dm) p.dm rC (fun z _=>Nat.le_refl _) (by simp only [Mo.one] at *; omega) (by simp only [Mo.one] at *; omega);have dB:=hid bD;have X2:=hid (aF.out.trans x2);clear bD rC t2 x2 kD jX fH;go_wp2_with fail;refine dB.out.mono ?_;rintro e w3 ⟨v3,rfl,h3,x3⟩;have HF:Hid (SpV w3 none v3 (ji (p.terms Mo.one))/\Ext w w3):=hid ⟨h3,X2.out.trans x3⟩;obtain ⟨A3,c3,rfl,-⟩:=h3;clear x3 dB;go_wp2_with fail;go_ret;exact ⟨_,rfl,HF.out⟩
def jcq (l:Sp) (w:World) (e:Ending) (w':World):Prop:=∃ B v,e=.returned (.func (.func 83) #[] #[.pointer (some ⟨B,0,none⟩)])/\w'.cell? ⟨B,0,none⟩=some v/\w.heap.size<=B/\B < w'.heap.size/\SpV w' none v l/\Ext w w'
theorem gb7 {w:World} {v:Value} {l:Sp} (h:SpV w none v l) (jX:∀ x ∈ l,(dg x.1.natAbs).length<=1099511627776) (hL:(dg (qg l)).length<=1099511627776) (hlen:l.length<=1099511627776):Calls Tryz.prog 56 #[v] w (jcq (ji l) w):=by
 have dB:=hid (qaj 1099511627776 h (fun z ⟨x,hx,e⟩=>by rw [<- e]; exact jX x hx) (by omega) hlen);obtain ⟨A,c,rfl,-⟩:=h;clear jX;go_enter Tryz.func56,Tryz.ntmps56;go_wp2_with fail;refine dB.out.mono ?_;rintro e w2 ⟨v2,rfl,h2,x2⟩;obtain ⟨A2,c2,rfl,-⟩:=id h2
 have HF:Hid (jcq (ji l) w (.returned (.func (.func 83) #[] #[.pointer (some ⟨w2.heap.size,0,none⟩)])) (w2.alloc (.cells #[.slice A2 (ji l).length c2] 41))):=
  hid ⟨_,_,rfl,by simp [go_sem],x2.size,by simp,h2.ext ((Ext.refl w2).alloc _),x2.alloc _⟩
 clear x2 h2 dB;go_wp2_with fail;go_ret;exact HF.out
def yz (T:Nat) (W W':World):Prop:=W.heap.size<=W'.heap.size/\(∀ (i:Nat) (o:Obj),i ≠ T->W.heap[i]?=some o->o.isCells=true->W'.heap[i]?=some o)/\∀ x ds,jd W x ds->jd W' x ds
theorem yz.refl (T:Nat) (W:World):yz T W W:=⟨Nat.le_refl _,fun _ _ _ h _=>h,fun _ _ h=>h⟩
theorem yz.trans {T:Nat} {A B C:World} (h:yz T A B) (k:yz T B C):yz T A C:=⟨Nat.le_trans h.1 k.1,fun i o hi ho hc=>k.2.1 i o hi (h.2.1 i o hi ho hc) hc,fun x ds hx=>k.2.2 x ds (h.2.2 x ds hx)⟩
theorem yz.of_ext (T:Nat) {A B:World} (h:Ext A B):yz T A B:=⟨h.size,fun i o _ hi _=>(h.below.block i (Array.getElem?_eq_some_iff.1 hi).1).trans hi,fun _ _ hx=>hx.ext h⟩
theorem yz.cell {T:Nat} {A B:World} (h:yz T A B) {a:Addr} {v:Value} (ha:a.block ≠ T) (hc:A.cell? a=some v):B.cell? a=some v:=by
 obtain ⟨o,ho,Io⟩:=cells_of_cell hc;rw [World.cell?_of_block ((h.2.1 _ _ ha ho Io).trans ho.symm)]; exact hc
theorem yz.putObj (T:Nat) (W:World) (l:Nat) (o o':Obj) (h:W.heap[l]?=some o) (ho:o.isCells=false):yz T W (W.putObj l o'):=by
 have hb:∀ (i:Nat) (x:Obj),W.heap[i]?=some x->x.isCells=true->(W.putObj l o').heap[i]?=some x:=fun i x hi hx=>by
  have ak:i ≠ l:=fun e=>by subst e; rw [h] at hi; injection hi with hi; subst hi; rw [ho] at hx; cases hx
  rw [World.putObj_heap_other ak]; exact hi
 refine ⟨by simp [World.putObj],fun i x _ hi hx=>hb i x hi hx,fun x ds ⟨A,c,e,h1,h2,h3,h4⟩=>⟨A,c,e,h1,h2,h3,fun hd=>?_⟩⟩;obtain ⟨ad,e4,af,kR⟩:=h4 hd;refine ⟨ad,e4,by simpa [World.putObj] using af,fun j hj=>?_⟩;obtain ⟨ob,XX,ho2⟩:=cells_of_cell (kR j hj);rw [World.cell?_of_block ((hb _ _ XX ho2).trans XX.symm)]; exact kR j hj
def qcz (l:Sp) (k:Nat) (x:Mo × Value) (W:World):Prop:=∃ h:k < l.length,x.1=l[k].2/\zo W x.2 l[k].1
def ub5 (x:Mo × Value):Array Value:=#[moV x.1,x.2]
theorem ub7 {w : World} {l : Sp} {A : Option Addr} {c : Nat} (T : Nat) (dY : l.length <= c) (eF : c <= 9223372036854775807) (aO : ga0 w none A l) (hA : ∀ ad, A = some ad -> 0 < l.length -> ad.block ≠ T) (jX : ∀ x ∈ l, (dg x.1.natAbs).length <= 1099511627776)
 (B:Nat) (hB:B < w.heap.size) (hBT:B ≠ T) (hc:w.cell? ⟨B,0,none⟩=some (.slice A l.length c)) (n:Nat):qcq n Tryz.prog 83 #[.pointer (some ⟨B,0,none⟩)] ub5 (qcz l) (yz T) l.length w:=by
 intro lp J W hW hJ hY h0;have jQ:=hid aO;have HAN:=hid hA;have mO:=hid jX;have HJ:=hid (fun k W W' (h:J k W) (hx:Ext W W')=>hJ k W W' none h ⟨hx.below.os,hx.below.tape,hx.below.output,hx.size,fun i hi _=>hx.below.block i hi⟩ (fun r e=>by cases e));have HY:=hid hY;have H0:=hid h0;have HW:Hid (∀ i,i < w.heap.size->W.heap[i]?=w.heap[i]?):=hid (fun i hi=>hW.block i hi);have oK:=hW.size;have c0:W.cell? ⟨B,0,none⟩=some (.slice A l.length c):=(World.cell?_of_block (a:=⟨B,0,none⟩) (HW.out B hB)).trans hc;clear aO hA jX hJ hY h0 hW hc;have og:∀ k:Nat,(Fence.wide.depth.isSome=true->1<=k):=fun k h=>by cases h
 refine callsIn_of_wp Tryz.func83 rfl trivial ?_ rfl;simp only [Tryz.ntmps83,List.size_toArray,List.length_cons,List.length_nil,Nat.reduceAdd,Nat.reduceSub,Array.replicate_succ,Array.replicate_zero,List.push_toArray,List.append_toArray,List.nil_append,List.cons_append]
 gi_wp2_with fail
 clear c0
 gi_loopw [7] (fun iv wr=>∃ k:Nat,k<=l.length/\iv=.int .i64 k/\Hid (J k wr/\yz T W wr)) (fun iv _=>l.length - (intOf iv).toNat)
 case atStart=>exact ⟨0,Nat.zero_le _,rfl,⟨H0.out,yz.refl _ _⟩⟩
 case round =>
  obtain ⟨k,hk,rfl,HR⟩:=hrel
  by_cases af:k < l.length
  · obtain ⟨ad,b,BA,bn,bc,rfl,ah,ht,dZ⟩:=jQ.out k af;have UU:=HAN.out ad rfl (by omega);have oO:(ad.add (k * 6)).block ≠ T:=by rw [ja]; exact UU
    have nG:∀ (a:Addr) (v:Value),a.block=ad.block->w.cell? a=some v->wr.cell? a=some v:=fun a v ha hv=>HR.out.2.cell (by rw [ha]; exact UU) ((World.cell?_of_block (HW.out a.block (by rw [ha]; exact ah))).trans hv)
    obtain ⟨t0,t1,t2,t3,t4,t5⟩:=ht
    replace t0:=nG _ _ (ja _ _) t0
    replace t1:=nG ⟨(ad.add (k * 6)).block,(ad.add (k * 6)).off+1,none⟩ _ (ja _ _) t1
    replace t2:=nG ⟨(ad.add (k * 6)).block,(ad.add (k * 6)).off+2,none⟩ _ (ja _ _) t2
    replace t3:=nG ⟨(ad.add (k * 6)).block,(ad.add (k * 6)).off+3,none⟩ _ (ja _ _) t3
    replace t4:=nG ⟨(ad.add (k * 6)).block,(ad.add (k * 6)).off+4,none⟩ _ (ja _ _) t4
    replace t5:=nG ⟨(ad.add (k * 6)).block,(ad.add (k * 6)).off+5,none⟩ _ (ja _ _) t5
    have hint:zo wr (.agg #[.bool b,.slice BA bn bc]) l[k].1:=by
     obtain ⟨v,e,hv⟩:=dZ;refine ⟨v,e,HR.out.2.2.2 _ _ ?_⟩;obtain ⟨A',c',e',h1,h2,h3,h4⟩:=hv;refine ⟨A',c',e',h1,h2,h3,fun hd=>?_⟩;obtain ⟨ad',e4,dL,lw⟩:=h4 hd;exact ⟨ad',e4,by omega,fun j hj=>(World.cell?_of_block (by rw [ja]; exact HW.out _ dL)).trans (lw j hj)⟩
    have hdk:=mO.out l[k] (List.getElem_mem af);have Wq:Hid (∀ v W',zo W' v l[k].1->qcz l k (l[k].2,v) W'):=hid (fun v W' hv=>⟨af,rfl,hv⟩);clear nG dZ oO;generalize l[k].1=z at *;generalize l[k].2=mk at *;obtain ⟨V,hV⟩:=n_m (wr.alloc (.cells #[.bool b,.slice BA bn bc,.int .i64 mk.a,.int .i64 mk.b,.int .i64 mk.c,.int .i64 mk.d] 93));have eH:Ext wr V:=by rw [<- hV]; exact (Ext.refl wr).alloc _
    have hVd:Ext wr V.drew:=eH.drew;have BG:=hid hVd;have HNI:=hid (xam _ z _ V.drew (hint.ext hVd).raw (by omega));have gK:∀ W',Ext V W'->W'.cell? ⟨wr.heap.size,0,none⟩=some (.bool b)/\W'.cell? ⟨wr.heap.size,1,none⟩=some (.slice BA bn bc)/\W'.cell? ⟨wr.heap.size,2,none⟩=some (.int .i64 mk.a)/\W'.cell? ⟨wr.heap.size,3,none⟩=some (.int .i64 mk.b)/\W'.cell? ⟨wr.heap.size,4,none⟩=some (.int .i64 mk.c)/\W'.cell? ⟨wr.heap.size,5,none⟩=some (.int .i64 mk.d):=by
     have hsz:wr.heap.size < V.heap.size:=by rw [<- hV]; simp
     intro W' hx;have kk:∀ j,W'.cell? ⟨wr.heap.size,j,none⟩=V.cell? ⟨wr.heap.size,j,none⟩:=fun j=>hx.cell (p:=⟨wr.heap.size,j,none⟩) hsz
     refine ⟨(kk 0).trans ?_,(kk 1).trans ?_,(kk 2).trans ?_,(kk 3).trans ?_,(kk 4).trans ?_,(kk 5).trans ?_⟩ <;> (rw [<- hV]; simp [go_sem])
    obtain ⟨s0,s1,s2,s3,s4,s5⟩:=gK V (Ext.refl V);have BO:=hid gK;have iI:Tryz.prog.follows .mixedOrders=true:=by kernel_rfl
    clear gK eH hVd hint hdk
    gi_wp2_with fail
    clear hV t0 t1 t2 t3 t4 t5
    gi_region_with_o (first
     | (go_simp
        refine ⟨trivial,og _,?_⟩;refine (callsIn_wide.2 HNI.out).mono ?_;rintro e v1 ⟨zv,rfl,hz,x1⟩;have Z1:=hid hz;have X1:=hid (BG.out.trans x1);obtain ⟨zb,zA,zn,zc,rfl⟩:=hz.unpack;obtain ⟨q0,q1,q2,q3,q4,q5⟩:=BO.out v1 ((Ext.refl V).drew.trans x1);obtain ⟨fn,tmps,assign,body,hy,zY⟩:=HY.out k (mk,.agg #[.bool zb,.slice zA zn zc]) v1 af (HJ.out _ _ _ HR.out.1 X1.out) (Wq.out _ _ hz);have lC:=hid zY;dsimp only [ub5,moV] at hy
        clear zY x1 hz)
     | (go_simp
        refine ⟨og _,?_⟩;refine lC.out.mono ?_;rintro e v2 ⟨rfl,oL,hk2⟩;have J2:=hid oL;have K2:=hid hk2
        clear oL hk2))
    all_goals
     clear lC hy q0 q1 q2 q3 q4 q5 s0 s1 s2 s3 s4 s5
     gi_wp2_with fail
     go_roundw
     case rel=>exact ⟨k+1,by omega,by go_num,⟨J2.out,(HR.out.2.trans (yz.of_ext T X1.out)).trans K2.out⟩⟩
     case measure=>simp [intOf]; omega
  · obtain rfl:k=l.length:=by omega
    gi_wp2_with fail
    go_end0
    exact ⟨⟨_,rfl⟩,HR.out.1⟩
end Go.Proofs.YtklnlgnnlmdibaaGreat

namespace Go.Proofs.YtklnlgnnlmdibaaGreat
open Lib (hid)
open Go.RowKit
section
variable {α:Type} {K:Nat} {caps:Array Value} {Ma:Nat} {J:Nat->World->(Nat->Prop)->α->Prop} {step:(ByteArray->Int)->ByteArray->α->α} {w0:World} {L:Nat}
end
def has (l:List ByteArray) (s:ByteArray):Bool:=l.any fun t=>decide (t=s)
section
variable {base Ma Ms ba bs bl N:Nat}
end
theorem kau (h:3 < Tryz.prog.types.size):(Tryz.prog.types[3]'h).size=1:=by kernel_rfl
theorem ycd (v0 v1 v2 v3:Value) (w:World):(Instr.index 75 (.agg #[v0,v1,v2,v3]) (.int .i64 0)).run Tryz.prog w=.ok v0 w:=by
 simp [Instr.index,run_underlying Tryz.underlying75,asIntOf,go_sem,kau]
theorem zcd (v0 v1 v2 v3:Value) (w:World):(Instr.index 75 (.agg #[v0,v1,v2,v3]) (.int .i64 1)).run Tryz.prog w=.ok v1 w:=by
 simp [Instr.index,run_underlying Tryz.underlying75,asIntOf,go_sem,kau]
theorem wcc (v0 v1 v2 v3:Value) (w:World):(Instr.index 75 (.agg #[v0,v1,v2,v3]) (.int .i64 2)).run Tryz.prog w=.ok v2 w:=by
 simp [Instr.index,run_underlying Tryz.underlying75,asIntOf,go_sem,kau]
theorem gcc (v0 v1 v2 v3:Value) (w:World):(Instr.index 75 (.agg #[v0,v1,v2,v3]) (.int .i64 3)).run Tryz.prog w=.ok v3 w:=by
 simp [Instr.index,run_underlying Tryz.underlying75,asIntOf,go_sem,kau]
theorem jcu (v0 v1 v2 v3:Value) (w:World):(Instr.index 75 (.agg #[v0,v1,v2,v3]) (.int .i64 ((0:Nat):Int))).run Tryz.prog w=.ok v0 w:=ycd v0 v1 v2 v3 w
theorem qcu (v0 v1 v2 v3:Value) (w:World):(Instr.index 75 (.agg #[v0,v1,v2,v3]) (.int .i64 ((1:Nat):Int))).run Tryz.prog w=.ok v1 w:=zcd v0 v1 v2 v3 w
theorem xcu (v0 v1 v2 v3:Value) (w:World):(Instr.index 75 (.agg #[v0,v1,v2,v3]) (.int .i64 ((2:Nat):Int))).run Tryz.prog w=.ok v2 w:=wcc v0 v1 v2 v3 w
theorem ycu (v0 v1 v2 v3:Value) (w:World):(Instr.index 75 (.agg #[v0,v1,v2,v3]) (.int .i64 ((3:Nat):Int))).run Tryz.prog w=.ok v3 w:=gcc v0 v1 v2 v3 w
attribute [local go_sem] ycd zcd wcc gcc jcu qcu xcu ycu
end Go.Proofs.YtklnlgnnlmdibaaGreat

namespace Go.Proofs.YtklnlgnnlmdibaaGreat
open Lib (hid)
open Go.RowKit Go.Shelf
attribute [local go_sem] Oper.semAt_some
theorem kaq {W W':World} {row:Option Nat} (hg:W.grownBy W' row) (hr:∀ r,row=some r->∃ o:Obj,W.heap[r]?=some o/\o.isCells=false) {x:Value} {ds:List Nat} (h:jd W x ds):jd W' x ds:=by
 obtain ⟨A,c,e,h1,h2,h3,h4⟩:=h;refine ⟨A,c,e,h1,h2,h3,fun hd=>?_⟩;obtain ⟨ad,e4,af,kR⟩:=h4 hd;refine ⟨ad,e4,Nat.lt_of_lt_of_le af hg.size,fun j hj=>?_⟩;refine (World.cell?_of_block ?_).trans (kR j hj);rw [ja];refine hg.block _ af (fun e=>?_);obtain ⟨o,ho,Io⟩:=hr _ e.symm;obtain ⟨o',OG,RH⟩:=cells_of_cell (kR j hj);rw [ja,ho] at OG;injection OG with OG
 subst OG;rw [Io] at RH; cases RH
theorem cells_kept {W W':World} {row:Option Nat} (hg:W.grownBy W' row) (hr:∀ r,row=some r->∃ o:Obj,W.heap[r]?=some o/\o.isCells=false) {i:Nat} {cs:Array Value} {t:TypeId} {fr:Nat × Nat} (h:W.heap[i]?=some (.cells cs t fr)):W'.heap[i]?=some (.cells cs t fr):=by
 refine (hg.block i (Array.getElem?_eq_some_iff.1 h).1 (fun e=>?_)).trans h;obtain ⟨o,ho,Io⟩:=hr _ e.symm;rw [h] at ho;injection ho with ho
 rw [<- ho] at Io;cases Io
theorem ua1 {A B:World} {b:Nat} (h:Ext A B):KeepsFrom b A B:=KeepsFrom.of_grownBy (row:=none) ⟨h.below.os,h.below.tape,h.below.output,h.size,fun i hi _=>h.below.block i hi⟩ (fun j e=>by cases e)
theorem box1 {W:World} {g:Nat} {v:Value} {t:TypeId} (h:W.heap[g]?=some (.cells #[v] t (0,0))):W.cell? ⟨g,0,none⟩=some v:=by simp [World.cell?,h]
theorem ybt {W:World} {g:Nat} {v0 v1:Value} {t:TypeId} (h:W.heap[g]?=some (.cells #[v0,v1] t (0,0))):W.cell? ⟨g,0,none⟩=some v0/\W.cell? ⟨g,1,none⟩=some v1:=by simp [World.cell?,h]
theorem box4 {W:World} {g:Nat} {v0 v1 v2 v3:Value} {t:TypeId} (h:W.heap[g]?=some (.cells #[v0,v1,v2,v3] t (0,0))):W.cell? ⟨g,0,none⟩=some v0/\W.cell? ⟨g,1,none⟩=some v1/\W.cell? ⟨g,2,none⟩=some v2/\W.cell? ⟨g,3,none⟩=some v3:=by simp [World.cell?,h]
end Go.Proofs.YtklnlgnnlmdibaaGreat
