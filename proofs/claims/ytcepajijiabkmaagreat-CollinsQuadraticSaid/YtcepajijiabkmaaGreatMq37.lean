/- Layer 20: sparse.Terms, an iterator; layer 21: recpoly.To. -/
import Derived.Test.YtcepajijiabkmaaGreatMq36
import Derived.Shelf.RegionOpen
import Derived.OwnWalkIn
import Derived.LoopNIn
import Derived.LoopIn
set_option linter.unusedSimpArgs false
set_option linter.unusedVariables false

set_option maxRecDepth 100000
set_option maxHeartbeats 8000000
namespace Go.Proofs.YtcepajijiabkmaaGreat
open Lib (hid)
open Go.RowKit Go.Shelf
attribute [local go_sem] Oper.semAt_some
theorem gcf {w:World} {q:Nat->Prop} (p:Pl) (v:Value) (h:PlV w q p v) (hsz:p.sz<=1073741824) (fG:p.dm<=1099511627776):Calls Tryz.prog 44 #[v] w (ga2 (jf (p.terms Mo.one)) w):=by
 have fH:=hid h;have BK:=hid h.dig;obtain ⟨A0,n0,c0,A,c,rfl,-⟩:=h.open_;clear h;obtain ⟨W,hW⟩:=n_m (w.alloc (.cells #[.int .i64 p.lv,.bool p.neg,.slice A0 n0 c0,.slice A p.cs.length c] 33));have ag:Ext w W:=by rw [<- hW]; exact (Ext.refl w).alloc _
 have aB:=hid ag;have eP:Hid (∀ W',Ext w W'->Calls Tryz.prog 65 #[.slice none 0 0,plV p (.slice A0 n0 c0) (.slice A p.cs.length c),moV Mo.one] W' fun e w'=>∃ tv,e=.returned tv/\TsV (some p.dm) W'.heap.size w' tv (p.terms Mo.one)/\Ext W' w'):=fun W' bg=>xba p _ p.dm (Nat.le_refl _) (by omega) (fH.out.ext bg)
 unfold moV Mo.one plV at eP;have ai:jc W (w.heap.size) p (.slice A0 n0 c0) (.slice A p.cs.length c):=by
  rw [<- hW]; exact ⟨by simp [go_sem],by simp [go_sem],by simp [go_sem],by simp [go_sem]⟩
 obtain ⟨b0,b1,b2,b3⟩:=ai;clear ag;unfold plV;go_enter Tryz.func44,Tryz.ntmps44;go_wp2_with fail;clear hW b0 b1 b2 b3;refine (eP.out _ aB.out).mono ?_;rintro e w2 ⟨tv,rfl,t2,x2⟩;have mD:=t2.sp;have iV:=Pl.terms_len p Mo.one;have eG:=zbb p BK.out hsz;have aJ:=xab (ko:=some p.dm) p.dm mD (fun z _=>Nat.le_refl _) (by simp only [Mo.one] at *; omega) (by simp only [Mo.one] at *; omega);have aY:=hid aJ;have X2:=hid (aB.out.trans x2);clear aJ mD t2 x2 iV eG eP;go_wp2_with fail;refine aY.out.mono ?_;rintro e w3 ⟨v3,rfl,h3,x3⟩;have HF:Hid (SpV w3 none v3 (jf (p.terms Mo.one))/\Ext w w3):=hid ⟨h3,X2.out.trans x3⟩;obtain ⟨A3,c3,rfl,-⟩:=h3;clear x3 aY;go_wp2_with fail;go_ret;exact ⟨_,rfl,HF.out⟩
def xbp (l:Sp) (w:World) (e:Ending) (w':World):Prop:=∃ B v,e=.returned (.func (.func 52) #[] #[.pointer (some ⟨B,0,none⟩)])/\w'.cell? ⟨B,0,none⟩=some v/\w.heap.size<=B/\B < w'.heap.size/\SpV w' none v l/\Ext w w'
theorem zcg {w:World} {v:Value} {l:Sp} (h:SpV w none v l) (eG:∀ x ∈ l,(dg x.1.natAbs).length<=1099511627776) (hL:(dg (yg l)).length<=1099511627776) (hlen:l.length<=1099511627776):Calls Tryz.prog 28 #[v] w (xbp (jf l) w):=by
 have aY:=hid (xab 1099511627776 h (fun z ⟨x,hx,e⟩=>by rw [<- e]; exact eG x hx) (by omega) hlen);obtain ⟨A,c,rfl,-⟩:=h;clear eG;go_enter Tryz.func28,Tryz.ntmps28;go_wp2_with fail;refine aY.out.mono ?_;rintro e w2 ⟨v2,rfl,h2,x2⟩;obtain ⟨A2,c2,rfl,-⟩:=id h2
 have HF:Hid (xbp (jf l) w (.returned (.func (.func 52) #[] #[.pointer (some ⟨w2.heap.size,0,none⟩)])) (w2.alloc (.cells #[.slice A2 (jf l).length c2] 23))):=
  hid ⟨_,_,rfl,by simp [go_sem],x2.size,by simp,h2.ext ((Ext.refl w2).alloc _),x2.alloc _⟩
 clear x2 h2 aY;go_wp2_with fail;go_ret;exact HF.out
def zq (T:Nat) (W W':World):Prop:=W.heap.size<=W'.heap.size/\(∀ (i:Nat) (o:Obj),i ≠ T->W.heap[i]?=some o->o.isCells=true->W'.heap[i]?=some o)/\∀ x ds,jb W x ds->jb W' x ds
theorem zq.refl (T:Nat) (W:World):zq T W W:=⟨Nat.le_refl _,fun _ _ _ h _=>h,fun _ _ h=>h⟩
theorem zq.trans {T:Nat} {A B C:World} (h:zq T A B) (k:zq T B C):zq T A C:=⟨Nat.le_trans h.1 k.1,fun i o hi ho hc=>k.2.1 i o hi (h.2.1 i o hi ho hc) hc,fun x ds hx=>k.2.2 x ds (h.2.2 x ds hx)⟩
theorem zq.of_ext (T:Nat) {A B:World} (h:Ext A B):zq T A B:=⟨h.size,fun i o _ hi _=>(h.below.block i (Array.getElem?_eq_some_iff.1 hi).1).trans hi,fun _ _ hx=>hx.ext h⟩
theorem zq.cell {T:Nat} {A B:World} (h:zq T A B) {a:Addr} {v:Value} (ha:a.block ≠ T) (hc:A.cell? a=some v):B.cell? a=some v:=by
 obtain ⟨o,ho,EU⟩:=cells_of_cell hc;rw [World.cell?_of_block ((h.2.1 _ _ ha ho EU).trans ho.symm)]; exact hc
theorem zq.putObj (T:Nat) (W:World) (l:Nat) (o o':Obj) (h:W.heap[l]?=some o) (ho:o.isCells=false):zq T W (W.putObj l o'):=by
 have hb:∀ (i:Nat) (x:Obj),W.heap[i]?=some x->x.isCells=true->(W.putObj l o').heap[i]?=some x:=fun i x hi hx=>by
  have au:i ≠ l:=fun e=>by subst e; rw [h] at hi; injection hi with hi; subst hi; rw [ho] at hx; cases hx
  rw [World.putObj_heap_other au]; exact hi
 refine ⟨by simp [World.putObj],fun i x _ hi hx=>hb i x hi hx,fun x ds ⟨A,c,e,h1,h2,h3,h4⟩=>⟨A,c,e,h1,h2,h3,fun hd=>?_⟩⟩;obtain ⟨ad,e4,af,jO⟩:=h4 hd;refine ⟨ad,e4,by simpa [World.putObj] using af,fun j hj=>?_⟩;obtain ⟨ob,Ua,WT⟩:=cells_of_cell (jO j hj);rw [World.cell?_of_block ((hb _ _ Ua WT).trans Ua.symm)]; exact jO j hj
theorem zq.setCell (T:Nat) (W:World) {u:Value} (v:Value) (hc:W.cell? ⟨T,0,none⟩=some u) (hu:qo u=false):zq T W (W.setCell ⟨T,0,none⟩ v):=
 ⟨by simp [World.setCell],fun i o hi ho _=>(Below.heap_setCell W _ v i hi).trans ho,fun _ _ hx=>hx.box hc hu v⟩
def zc7 (l:Sp) (k:Nat) (x:Mo × Value) (W:World):Prop:=∃ h:k < l.length,x.1=l[k].2/\vk W x.2 l[k].1
def zbp (x:Mo × Value):Array Value:=#[moV x.1,x.2]
theorem ubk {w : World} {l : Sp} {A : Option Addr} {c : Nat} (T : Nat) (dY : l.length <= c) (dK : c <= 9223372036854775807) (aK : vao w none A l) (hA : ∀ ad, A = some ad -> 0 < l.length -> ad.block ≠ T) (eG : ∀ x ∈ l, (dg x.1.natAbs).length <= 1099511627776)
 (B:Nat) (hB:B < w.heap.size) (hBT:B ≠ T) (hc:w.cell? ⟨B,0,none⟩=some (.slice A l.length c)) (n:Nat):ycy n Tryz.prog 52 #[.pointer (some ⟨B,0,none⟩)] zbp (zc7 l) (zq T) l.length w:=by
 intro lp J W hW hJ hY h0;have lJ:=hid aK;have HAN:=hid hA;have nY:=hid eG;have HJ:=hid (fun k W W' (h:J k W) (hx:Ext W W')=>hJ k W W' none h ⟨hx.below.os,hx.below.tape,hx.below.output,hx.size,fun i hi _=>hx.below.block i hi⟩ (fun r e=>by cases e));have HY:=hid hY;have H0:=hid h0;have HW:Hid (∀ i,i < w.heap.size->W.heap[i]?=w.heap[i]?):=hid (fun i hi=>hW.block i hi);have lK:=hW.size;have c0:W.cell? ⟨B,0,none⟩=some (.slice A l.length c):=(World.cell?_of_block (a:=⟨B,0,none⟩) (HW.out B hB)).trans hc;clear aK hA eG hJ hY h0 hW hc;have kX:∀ k:Nat,(Fence.wide.depth.isSome=true->1<=k):=fun k h=>by cases h
 refine callsIn_of_wp Tryz.func52 rfl trivial ?_ rfl;simp only [Tryz.ntmps52,List.size_toArray,List.length_cons,List.length_nil,Nat.reduceAdd,Nat.reduceSub,Array.replicate_succ,Array.replicate_zero,List.push_toArray,List.append_toArray,List.nil_append,List.cons_append]
 gi_wp2_with fail
 clear c0
 gi_loopw [7] (fun iv wr=>∃ k:Nat,k<=l.length/\iv=.int .i64 k/\Hid (J k wr/\zq T W wr)) (fun iv _=>l.length - (intOf iv).toNat)
 case atStart=>exact ⟨0,Nat.zero_le _,rfl,⟨H0.out,zq.refl _ _⟩⟩
 case round =>
  obtain ⟨k,hk,rfl,HR⟩:=hrel
  by_cases af:k < l.length
  · obtain ⟨ad,b,BA,bn,bc,rfl,ah,ht,dE⟩:=lJ.out k af;have QB:=HAN.out ad rfl (by omega);have kZ:(ad.add (k * 6)).block ≠ T:=by rw [ja]; exact QB
    have kM:∀ (a:Addr) (v:Value),a.block=ad.block->w.cell? a=some v->wr.cell? a=some v:=fun a v ha hv=>HR.out.2.cell (by rw [ha]; exact QB) ((World.cell?_of_block (HW.out a.block (by rw [ha]; exact ah))).trans hv)
    obtain ⟨t0,t1,t2,t3,t4,t5⟩:=ht
    replace t0:=kM _ _ (ja _ _) t0
    replace t1:=kM ⟨(ad.add (k * 6)).block,(ad.add (k * 6)).off+1,none⟩ _ (ja _ _) t1
    replace t2:=kM ⟨(ad.add (k * 6)).block,(ad.add (k * 6)).off+2,none⟩ _ (ja _ _) t2
    replace t3:=kM ⟨(ad.add (k * 6)).block,(ad.add (k * 6)).off+3,none⟩ _ (ja _ _) t3
    replace t4:=kM ⟨(ad.add (k * 6)).block,(ad.add (k * 6)).off+4,none⟩ _ (ja _ _) t4
    replace t5:=kM ⟨(ad.add (k * 6)).block,(ad.add (k * 6)).off+5,none⟩ _ (ja _ _) t5
    have hint:vk wr (.agg #[.bool b,.slice BA bn bc]) l[k].1:=by
     obtain ⟨v,e,hv⟩:=dE;refine ⟨v,e,HR.out.2.2.2 _ _ ?_⟩;obtain ⟨A',c',e',h1,h2,h3,h4⟩:=hv;refine ⟨A',c',e',h1,h2,h3,fun hd=>?_⟩;obtain ⟨ad',e4,dX,jH⟩:=h4 hd;exact ⟨ad',e4,by omega,fun j hj=>(World.cell?_of_block (by rw [ja]; exact HW.out _ dX)).trans (jH j hj)⟩
    have XX:=nY.out l[k] (List.getElem_mem af);have RV:Hid (∀ v W',vk W' v l[k].1->zc7 l k (l[k].2,v) W'):=hid (fun v W' hv=>⟨af,rfl,hv⟩);clear kM dE kZ;generalize l[k].1=z at *;generalize l[k].2=mk at *;obtain ⟨V,hV⟩:=n_m (wr.alloc (.cells #[.bool b,.slice BA bn bc,.int .i64 mk.a,.int .i64 mk.b,.int .i64 mk.c,.int .i64 mk.d] 76));have fD:Ext wr V:=by rw [<- hV]; exact (Ext.refl wr).alloc _
    have Yx:Ext wr V.drew:=fD.drew;have yS:=hid Yx;have HNI:=hid (xam _ z _ V.drew (hint.ext Yx).raw (by omega));have eH:∀ W',Ext V W'->W'.cell? ⟨wr.heap.size,0,none⟩=some (.bool b)/\W'.cell? ⟨wr.heap.size,1,none⟩=some (.slice BA bn bc)/\W'.cell? ⟨wr.heap.size,2,none⟩=some (.int .i64 mk.a)/\W'.cell? ⟨wr.heap.size,3,none⟩=some (.int .i64 mk.b)/\W'.cell? ⟨wr.heap.size,4,none⟩=some (.int .i64 mk.c)/\W'.cell? ⟨wr.heap.size,5,none⟩=some (.int .i64 mk.d):=by
     have hsz:wr.heap.size < V.heap.size:=by rw [<- hV]; simp
     intro W' hx;have kk:∀ j,W'.cell? ⟨wr.heap.size,j,none⟩=V.cell? ⟨wr.heap.size,j,none⟩:=fun j=>hx.cell (p:=⟨wr.heap.size,j,none⟩) hsz
     refine ⟨(kk 0).trans ?_,(kk 1).trans ?_,(kk 2).trans ?_,(kk 3).trans ?_,(kk 4).trans ?_,(kk 5).trans ?_⟩ <;> (rw [<- hV]; simp [go_sem])
    obtain ⟨s0,s1,s2,s3,s4,s5⟩:=eH V (Ext.refl V);have zD:=hid eH;have iw:Tryz.prog.follows .mixedOrders=true:=by kernel_rfl
    clear eH fD Yx hint XX
    gi_wp2_with fail
    clear hV t0 t1 t2 t3 t4 t5
    gi_region_with_o (first
     | (go_simp
        refine ⟨trivial,kX _,?_⟩;refine (callsIn_wide.2 HNI.out).mono ?_;rintro e v1 ⟨zv,rfl,hz,x1⟩;have Z1:=hid hz;have X1:=hid (yS.out.trans x1);obtain ⟨zb,zA,zn,zc,rfl⟩:=hz.unpack;obtain ⟨q0,q1,q2,q3,q4,q5⟩:=zD.out v1 ((Ext.refl V).drew.trans x1);obtain ⟨fn,tmps,assign,body,hy,AX⟩:=HY.out k (mk,.agg #[.bool zb,.slice zA zn zc]) v1 af (HJ.out _ _ _ HR.out.1 X1.out) (RV.out _ _ hz);have oO:=hid AX;dsimp only [zbp,moV] at hy
        clear AX x1 hz)
     | (go_simp
        refine ⟨kX _,?_⟩;refine oO.out.mono ?_;rintro e v2 ⟨rfl,lQ,hk2⟩;have J2:=hid lQ;have K2:=hid hk2
        clear lQ hk2))
    all_goals
     clear oO hy q0 q1 q2 q3 q4 q5 s0 s1 s2 s3 s4 s5
     gi_wp2_with fail
     go_roundw
     case rel=>exact ⟨k+1,by omega,by go_num,⟨J2.out,(HR.out.2.trans (zq.of_ext T X1.out)).trans K2.out⟩⟩
     case measure=>simp [intOf]; omega
  · obtain rfl:k=l.length:=by omega
    gi_wp2_with fail
    go_end0
    exact ⟨⟨_,rfl⟩,HR.out.1⟩
end Go.Proofs.YtcepajijiabkmaaGreat

namespace Go.Proofs.YtcepajijiabkmaaGreat
open Lib (hid)
open Go.RowKit
section
variable {α:Type} {K:Nat} {caps:Array Value} {Ma:Nat} {J:Nat->World->(Nat->Prop)->α->Prop} {step:(ByteArray->Int)->ByteArray->α->α} {w0:World} {L:Nat}
end
def has (l:List ByteArray) (s:ByteArray):Bool:=l.any fun t=>decide (t=s)
section
variable {base Ma Ms ba bs bl N:Nat}
end
theorem gav (h:3 < Tryz.prog.types.size):(Tryz.prog.types[3]'h).size=1:=by kernel_rfl
theorem zbw (v0 v1 v2 v3:Value) (w:World):(Instr.index 61 (.agg #[v0,v1,v2,v3]) (.int .i64 0)).run Tryz.prog w=.ok v0 w:=by
 simp [Instr.index,run_underlying Tryz.underlying61,asIntOf,go_sem,gav]
theorem wbv (v0 v1 v2 v3:Value) (w:World):(Instr.index 61 (.agg #[v0,v1,v2,v3]) (.int .i64 1)).run Tryz.prog w=.ok v1 w:=by
 simp [Instr.index,run_underlying Tryz.underlying61,asIntOf,go_sem,gav]
theorem gbv (v0 v1 v2 v3:Value) (w:World):(Instr.index 61 (.agg #[v0,v1,v2,v3]) (.int .i64 2)).run Tryz.prog w=.ok v2 w:=by
 simp [Instr.index,run_underlying Tryz.underlying61,asIntOf,go_sem,gav]
theorem ubv (v0 v1 v2 v3:Value) (w:World):(Instr.index 61 (.agg #[v0,v1,v2,v3]) (.int .i64 3)).run Tryz.prog w=.ok v3 w:=by
 simp [Instr.index,run_underlying Tryz.underlying61,asIntOf,go_sem,gav]
theorem kb7 (v0 v1 v2 v3:Value) (w:World):(Instr.index 61 (.agg #[v0,v1,v2,v3]) (.int .i64 ((0:Nat):Int))).run Tryz.prog w=.ok v0 w:=zbw v0 v1 v2 v3 w
theorem jb7 (v0 v1 v2 v3:Value) (w:World):(Instr.index 61 (.agg #[v0,v1,v2,v3]) (.int .i64 ((1:Nat):Int))).run Tryz.prog w=.ok v1 w:=wbv v0 v1 v2 v3 w
theorem qb7 (v0 v1 v2 v3:Value) (w:World):(Instr.index 61 (.agg #[v0,v1,v2,v3]) (.int .i64 ((2:Nat):Int))).run Tryz.prog w=.ok v2 w:=gbv v0 v1 v2 v3 w
theorem xb7 (v0 v1 v2 v3:Value) (w:World):(Instr.index 61 (.agg #[v0,v1,v2,v3]) (.int .i64 ((3:Nat):Int))).run Tryz.prog w=.ok v3 w:=ubv v0 v1 v2 v3 w
attribute [local go_sem] zbw wbv gbv ubv kb7 jb7 qb7 xb7
end Go.Proofs.YtcepajijiabkmaaGreat

namespace Go.Proofs.YtcepajijiabkmaaGreat
open Lib (hid)
open Go.RowKit Go.Shelf
attribute [local go_sem] Oper.semAt_some
theorem qar {W W':World} {row:Option Nat} (hg:W.grownBy W' row) (hr:∀ r,row=some r->∃ o:Obj,W.heap[r]?=some o/\o.isCells=false) {x:Value} {ds:List Nat} (h:jb W x ds):jb W' x ds:=by
 obtain ⟨A,c,e,h1,h2,h3,h4⟩:=h;refine ⟨A,c,e,h1,h2,h3,fun hd=>?_⟩;obtain ⟨ad,e4,af,jO⟩:=h4 hd;refine ⟨ad,e4,Nat.lt_of_lt_of_le af hg.size,fun j hj=>?_⟩;refine (World.cell?_of_block ?_).trans (jO j hj);rw [ja];refine hg.block _ af (fun e=>?_);obtain ⟨o,ho,EU⟩:=hr _ e.symm;obtain ⟨o',KY,Ou⟩:=cells_of_cell (jO j hj);rw [ja,ho] at KY;injection KY with KY
 subst KY;rw [EU] at Ou; cases Ou
theorem cells_kept {W W':World} {row:Option Nat} (hg:W.grownBy W' row) (hr:∀ r,row=some r->∃ o:Obj,W.heap[r]?=some o/\o.isCells=false) {i:Nat} {cs:Array Value} {t:TypeId} {fr:Nat × Nat} (h:W.heap[i]?=some (.cells cs t fr)):W'.heap[i]?=some (.cells cs t fr):=by
 refine (hg.block i (Array.getElem?_eq_some_iff.1 h).1 (fun e=>?_)).trans h;obtain ⟨o,ho,EU⟩:=hr _ e.symm;rw [h] at ho;injection ho with ho
 rw [<- ho] at EU;cases EU
theorem yaq {A B:World} {b:Nat} (h:Ext A B):KeepsFrom b A B:=KeepsFrom.of_grownBy (row:=none) ⟨h.below.os,h.below.tape,h.below.output,h.size,fun i hi _=>h.below.block i hi⟩ (fun j e=>by cases e)
theorem box1 {W:World} {g:Nat} {v:Value} {t:TypeId} (h:W.heap[g]?=some (.cells #[v] t (0,0))):W.cell? ⟨g,0,none⟩=some v:=by simp [World.cell?,h]
theorem vby {W:World} {g:Nat} {v0 v1:Value} {t:TypeId} (h:W.heap[g]?=some (.cells #[v0,v1] t (0,0))):W.cell? ⟨g,0,none⟩=some v0/\W.cell? ⟨g,1,none⟩=some v1:=by simp [World.cell?,h]
theorem box4 {W:World} {g:Nat} {v0 v1 v2 v3:Value} {t:TypeId} (h:W.heap[g]?=some (.cells #[v0,v1,v2,v3] t (0,0))):W.cell? ⟨g,0,none⟩=some v0/\W.cell? ⟨g,1,none⟩=some v1/\W.cell? ⟨g,2,none⟩=some v2/\W.cell? ⟨g,3,none⟩=some v3:=by simp [World.cell?,h]
theorem vao.apart {W:World} {l:Sp} {A:Option Addr} {T:Nat} {ov:Value} {t:TypeId} (h:vao W none A l) (hb:W.heap[T]?=some (.cells #[ov] t (0,0))):∀ ad,A=some ad->0 < l.length->ad.block ≠ T:=by
 intro ad e hl he;obtain ⟨ad',b,B,n,c,e2,-,⟨-,h1,h2,-⟩,-⟩:=h 0 hl;rw [e] at e2;injection e2 with e2
 subst e2;rw [Nat.zero_mul] at h1 h2;have key:∀ (o:Nat) (v:Value),W.cell? ⟨(ad.add 0).block,o,none⟩=some v->o=0:=fun o v hv=>by
  rw [World.cell?] at hv;simp only [ja,he,hb] at hv
  by_cases ho:o=0
  · exact ho
  · exfalso
    revert hv
    split
    · intro hv; cases hv
    · intro hv;obtain ⟨h5,-⟩:=Array.getElem?_eq_some_iff.1 hv;simp at h5;omega
 have k1:=key _ _ h1;have k2:=key _ _ h2;omega
end Go.Proofs.YtcepajijiabkmaaGreat
