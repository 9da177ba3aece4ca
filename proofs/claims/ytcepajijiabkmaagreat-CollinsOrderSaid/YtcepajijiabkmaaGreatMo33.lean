/- Layer 20: sparse.Terms, an iterator; layer 21: recpoly.To. -/
import Derived.Test.YtcepajijiabkmaaGreatMo32
import Derived.Shelf.RegionOpen
import Derived.OwnWalkIn
import Derived.LoopNIn
import Derived.LoopIn
set_option linter.all false
set_option maxRecDepth 100000
set_option maxHeartbeats 8000000
namespace Go.Proofs.YtcepajijiabkmaaGreat
open Lib (hid)
open Go.RowKit Go.Shelf
attribute [local go_sem] Oper.semAt_some
theorem ucn {w:World} {q:Nat->Prop} (p:Pl) (v:Value) (h:PlV w q p v) (hsz:p.sz<=1073741824) (ig:p.dm<=1099511627776):Calls Tryz.prog 44 #[v] w (wa5 (qg (p.qu Mo.one)) w):=by
 have mZ:=hid h;have DU:=hid h.dig;obtain ⟨A0,n0,c0,A,c,rfl,-⟩:=h.open_;clear h;obtain ⟨W,hW⟩:=n_m (w.alloc (.cells #[.int .i64 p.lv,.bool p.neg,.slice A0 n0 c0,.slice A p.cs.length c] 33));have ai:Ext w W:=by rw [<- hW]; exact (Ext.refl w).alloc _
 have aG:=hid ai;have iy:Hid (∀ W',Ext w W'->Calls Tryz.prog 65 #[.slice none 0 0,plV p (.slice A0 n0 c0) (.slice A p.cs.length c),moV Mo.one] W' fun e w'=>∃ tv,e=.returned tv/\TsV (some p.dm) W'.heap.size w' tv (p.qu Mo.one)/\Ext W' w'):=fun W' bJ=>jbe p _ p.dm (pj _) (by omega) (mZ.out.ext bJ)
 unfold moV Mo.one plV at iy;have aj:jb W (w.heap.size) p (.slice A0 n0 c0) (.slice A p.cs.length c):=by
  rw [<- hW]; exact ⟨by simp [go_sem],by simp [go_sem],by simp [go_sem],by simp [go_sem]⟩
 obtain ⟨b0,b1,b2,b3⟩:=aj;clear ai;unfold plV;go_enter Tryz.func44,Tryz.ntmps44;go_wp2_with fail;clear hW b0 b1 b2 b3;refine (iy.out _ aG.out).mono ?_;rintro e w2 ⟨tv,rfl,t2,x2⟩;have oZ:=t2.sp;have jM:=Pl.kA p Mo.one;have ik:=ybf p DU.out hsz;have aP:=uad (ko:=some p.dm) p.dm oZ (fun z _=>pj _) (by simp only [Mo.one] at *; omega) (by simp only [Mo.one] at *; omega);have bH:=hid aP;have X2:=hid (aG.out.trans x2);clear aP oZ t2 x2 jM ik iy;go_wp2_with fail;refine bH.out.mono ?_;rintro e w3 ⟨v3,rfl,h3,x3⟩;have HF:Hid (SpV w3 none v3 (qg (p.qu Mo.one))/\Ext w w3):=hid ⟨h3,X2.out.trans x3⟩;obtain ⟨A3,c3,rfl,-⟩:=h3;clear x3 bH;go_wp2_with fail;go_ret;exact ⟨_,rfl,HF.out⟩
def vbv (l:Sp) (w:World) (e:Ending) (w':World):Prop:=∃ B v,e=.returned (.func (.func 52) #[] #[.pointer (some ⟨B,0,none⟩)])/\w'.cell? ⟨B,0,none⟩=some v/\w.heap.size<=B/\B < w'.heap.size/\SpV w' none v l/\Ext w w'
theorem wcn {w:World} {v:Value} {l:Sp} (h:SpV w none v l) (ik:∀ x ∈ l,(dg x.1.natAbs).length<=1099511627776) (hL:(dg (zg l)).length<=1099511627776) (hlen:l.length<=1099511627776):Calls Tryz.prog 28 #[v] w (vbv (qg l) w):=by
 have bH:=hid (uad 1099511627776 h (fun z ⟨x,hx,e⟩=>by rw [<- e]; exact ik x hx) (by omega) hlen);obtain ⟨A,c,rfl,-⟩:=h;clear ik;go_enter Tryz.func28,Tryz.ntmps28;go_wp2_with fail;refine bH.out.mono ?_;rintro e w2 ⟨v2,rfl,h2,x2⟩;obtain ⟨A2,c2,rfl,-⟩:=id h2
 have HF:Hid (vbv (qg l) w (.returned (.func (.func 52) #[] #[.pointer (some ⟨w2.heap.size,0,none⟩)])) (w2.alloc (.cells #[.slice A2 (qg l).length c2] 23))):=
  hid ⟨_,_,rfl,by simp [go_sem],x2.size,by simp,h2.ext ((Ext.refl w2).alloc _),x2.alloc _⟩
 clear x2 h2 bH;go_wp2_with fail;go_ret;exact HF.out
def jr (T:Nat) (W W':World):Prop:=W.heap.size<=W'.heap.size/\(∀ (i:Nat) (o:Obj),i ≠ T->W.heap[i]?=some o->o.isCells=true->W'.heap[i]?=some o)/\∀ x ds,jc W x ds->jc W' x ds
theorem jr.refl (T:Nat) (W:World):jr T W W:=⟨pj _,fun _ _ _ h _=>h,fun _ _ h=>h⟩
theorem jr.trans {T:Nat} {A B C:World} (h:jr T A B) (k:jr T B C):jr T A C:=⟨py h.1 k.1,fun i o hi ho hc=>k.2.1 i o hi (h.2.1 i o hi ho hc) hc,fun x ds hx=>k.2.2 x ds (h.2.2 x ds hx)⟩
theorem jr.xi (T:Nat) {A B:World} (h:Ext A B):jr T A B:=⟨h.size,fun i o _ hi _=>(h.below.block i (rB.1 hi).1).trans hi,fun _ _ hx=>hx.ext h⟩
theorem jr.cell {T:Nat} {A B:World} (h:jr T A B) {a:Addr} {v:Value} (ha:a.block ≠ T) (hc:A.cell? a=some v):B.cell? a=some v:=by
 obtain ⟨o,ho,Hr⟩:=cells_of_cell hc;rw [pB ((h.2.1 _ _ ha ho Hr).trans ho.symm)]; exact hc
theorem jr.putObj (T:Nat) (W:World) (l:Nat) (o o':Obj) (h:W.heap[l]?=some o) (ho:o.isCells=false):jr T W (W.putObj l o'):=by
 have hb:∀ (i:Nat) (x:Obj),W.heap[i]?=some x->x.isCells=true->(W.putObj l o').heap[i]?=some x:=fun i x hi hx=>by
  have au:i ≠ l:=fun e=>by subst e; rw [h] at hi; injection hi with hi; subst hi; rw [ho] at hx; cases hx
  rw [World.putObj_heap_other au]; exact hi
 refine ⟨by simp [World.putObj],fun i x _ hi hx=>hb i x hi hx,fun x ds ⟨A,c,e,h1,h2,h3,h4⟩=>⟨A,c,e,h1,h2,h3,fun hd=>?_⟩⟩;obtain ⟨ad,e4,af,kV⟩:=h4 hd;refine ⟨ad,e4,by simpa [World.putObj] using af,fun j hj=>?_⟩;obtain ⟨ob,BZ,Fg⟩:=cells_of_cell (kV j hj);rw [pB ((hb _ _ BZ Fg).trans BZ.symm)]; exact kV j hj
theorem jr.setCell (T:Nat) (W:World) {u:Value} (v:Value) (hc:W.cell? ⟨T,0,none⟩=some u) (hu:uo u=false):jr T W (W.setCell ⟨T,0,none⟩ v):=
 ⟨by simp [World.setCell],fun i o hi ho _=>(Below.heap_setCell W _ v i hi).trans ho,fun _ _ hx=>hx.box hc hu v⟩
def vdh (l:Sp) (k:Nat) (x:Mo × Value) (W:World):Prop:=∃ h:k < l.length,x.1=l[k].2/\qm W x.2 l[k].1
def jbv (x:Mo × Value):Array Value:=#[moV x.1,x.2]
theorem jbq {w : World} {l : Sp} {A : Option Addr} {c : Nat} (T : Nat) (fC : l.length <= c) (dK : c <= 9223372036854775807) (aK : zas w none A l) (hA : ∀ ad, A = some ad -> 0 < l.length -> ad.block ≠ T) (ik : ∀ x ∈ l, (dg x.1.natAbs).length <= 1099511627776)
 (B:Nat) (hB:B < w.heap.size) (hBT:B ≠ T) (hc:w.cell? ⟨B,0,none⟩=some (.slice A l.length c)) (n:Nat):xc9 n Tryz.prog 52 #[.pointer (some ⟨B,0,none⟩)] jbv (vdh l) (jr T) l.length w:=by
 intro lp J W hW hJ hY h0;have lF:=hid aK;have HAN:=hid hA;have nN:=hid ik;have HJ:=hid (fun k W W' (h:J k W) (hx:Ext W W')=>hJ k W W' none h ⟨hx.below.os,hx.below.tape,hx.below.output,hx.size,fun i hi _=>hx.below.block i hi⟩ (fun r e=>by cases e));have HY:=hid hY;have H0:=hid h0;have HW:Hid (∀ i,i < w.heap.size->W.heap[i]?=w.heap[i]?):=hid (fun i hi=>hW.block i hi);have oH:=hW.size;have c0:W.cell? ⟨B,0,none⟩=some (.slice A l.length c):=(pB (a:=⟨B,0,none⟩) (HW.out B hB)).trans hc;clear aK hA ik hJ hY h0 hW hc;have nJ:∀ k:Nat,(Fence.wide.depth.isSome=true->1<=k):=fun k h=>by cases h
 refine callsIn_of_wp Tryz.func52 rfl trivial ?_ rfl;simp only [Tryz.ntmps52,tB,pH,rK,Nat.reduceAdd,Nat.reduceSub,u7,u6,Pd,wh,tz,rI]
 gi_wp2_with fail
 clear c0
 gi_loopw [7] (fun iv wr=>∃ k:Nat,k<=l.length/\iv=.int .i64 k/\Hid (J k wr/\jr T W wr)) (fun iv _=>l.length - (intOf iv).toNat)
 case atStart=>exact ⟨0,pZ _,rfl,⟨H0.out,jr.refl _ _⟩⟩
 case round =>
  obtain ⟨k,hk,rfl,HR⟩:=hrel
  by_cases af:k < l.length
  · obtain ⟨ad,b,BA,bn,bc,rfl,ah,ht,eu⟩:=lF.out k af;have Us:=HAN.out ad rfl (by omega);have kF:(ad.add (k * 6)).block ≠ T:=by rw [ja]; exact Us
    have mY:∀ (a:Addr) (v:Value),a.block=ad.block->w.cell? a=some v->wr.cell? a=some v:=fun a v ha hv=>HR.out.2.cell (by rw [ha]; exact Us) ((pB (HW.out a.block (by rw [ha]; exact ah))).trans hv)
    obtain ⟨t0,t1,t2,t3,t4,t5⟩:=ht
    replace t0:=mY _ _ (ja _ _) t0
    replace t1:=mY ⟨(ad.add (k * 6)).block,(ad.add (k * 6)).off+1,none⟩ _ (ja _ _) t1
    replace t2:=mY ⟨(ad.add (k * 6)).block,(ad.add (k * 6)).off+2,none⟩ _ (ja _ _) t2
    replace t3:=mY ⟨(ad.add (k * 6)).block,(ad.add (k * 6)).off+3,none⟩ _ (ja _ _) t3
    replace t4:=mY ⟨(ad.add (k * 6)).block,(ad.add (k * 6)).off+4,none⟩ _ (ja _ _) t4
    replace t5:=mY ⟨(ad.add (k * 6)).block,(ad.add (k * 6)).off+5,none⟩ _ (ja _ _) t5
    have hint:qm wr (.agg #[.bool b,.slice BA bn bc]) l[k].1:=by
     obtain ⟨v,e,hv⟩:=eu;refine ⟨v,e,HR.out.2.2.2 _ _ ?_⟩;obtain ⟨A',c',e',h1,h2,h3,h4⟩:=hv;refine ⟨A',c',e',h1,h2,h3,fun hd=>?_⟩;obtain ⟨ad',e4,eP,lD⟩:=h4 hd;exact ⟨ad',e4,by omega,fun j hj=>(pB (by rw [ja]; exact HW.out _ eP)).trans (lD j hj)⟩
    have hdk:=nN.out l[k] (pt af);have VI:Hid (∀ v W',qm W' v l[k].1->vdh l k (l[k].2,v) W'):=hid (fun v W' hv=>⟨af,rfl,hv⟩);clear mY eu kF;generalize l[k].1=z at *;generalize l[k].2=mk at *;obtain ⟨V,hV⟩:=n_m (wr.alloc (.cells #[.bool b,.slice BA bn bc,.int .i64 mk.a,.int .i64 mk.b,.int .i64 mk.c,.int .i64 mk.d] 76));have eQ:Ext wr V:=by rw [<- hV]; exact (Ext.refl wr).alloc _
    have hVd:Ext wr V.drew:=eQ.drew;have Ba:=hid hVd;have HNI:=hid (wao _ z _ V.drew (hint.ext hVd).raw (by omega));have fD:∀ W',Ext V W'->W'.cell? ⟨wr.heap.size,0,none⟩=some (.bool b)/\W'.cell? ⟨wr.heap.size,1,none⟩=some (.slice BA bn bc)/\W'.cell? ⟨wr.heap.size,2,none⟩=some (.int .i64 mk.a)/\W'.cell? ⟨wr.heap.size,3,none⟩=some (.int .i64 mk.b)/\W'.cell? ⟨wr.heap.size,4,none⟩=some (.int .i64 mk.c)/\W'.cell? ⟨wr.heap.size,5,none⟩=some (.int .i64 mk.d):=by
     have hsz:wr.heap.size < V.heap.size:=by rw [<- hV]; simp
     intro W' hx;have kk:∀ j,W'.cell? ⟨wr.heap.size,j,none⟩=V.cell? ⟨wr.heap.size,j,none⟩:=fun j=>hx.cell (p:=⟨wr.heap.size,j,none⟩) hsz
     refine ⟨(kk 0).trans ?_,(kk 1).trans ?_,(kk 2).trans ?_,(kk 3).trans ?_,(kk 4).trans ?_,(kk 5).trans ?_⟩ <;> (rw [<- hV]; simp [go_sem])
    obtain ⟨s0,s1,s2,s3,s4,s5⟩:=fD V (Ext.refl V);have Bg:=hid fD;have iL:Tryz.prog.follows .mixedOrders=true:=by kernel_rfl
    clear fD eQ hVd hint hdk
    gi_wp2_with fail
    clear hV t0 t1 t2 t3 t4 t5
    gi_region_with_o (first
     | (go_simp
        refine ⟨trivial,nJ _,?_⟩;refine (callsIn_wide.2 HNI.out).mono ?_;rintro e v1 ⟨zv,rfl,hz,x1⟩;have Z1:=hid hz;have X1:=hid (Ba.out.trans x1);obtain ⟨zb,zA,zn,zc,rfl⟩:=hz.unpack;obtain ⟨q0,q1,q2,q3,q4,q5⟩:=Bg.out v1 ((Ext.refl V).drew.trans x1);obtain ⟨fn,tmps,assign,body,hy,zN⟩:=HY.out k (mk,.agg #[.bool zb,.slice zA zn zc]) v1 af (HJ.out _ _ _ HR.out.1 X1.out) (VI.out _ _ hz);have qW:=hid zN;dsimp only [jbv,moV] at hy
        clear zN x1 hz)
     | (go_simp
        refine ⟨nJ _,?_⟩;refine qW.out.mono ?_;rintro e v2 ⟨rfl,oJ,hk2⟩;have J2:=hid oJ;have K2:=hid hk2
        clear oJ hk2))
    all_goals
     clear qW hy q0 q1 q2 q3 q4 q5 s0 s1 s2 s3 s4 s5
     gi_wp2_with fail
     go_roundw
     case rel=>exact ⟨k+1,by omega,by go_num,⟨J2.out,(HR.out.2.trans (jr.xi T X1.out)).trans K2.out⟩⟩
     case measure=>simp [intOf]; omega
  · obtain rfl:k=l.length:=by omega
    gi_wp2_with fail
    go_end0
    exact ⟨⟨_,rfl⟩,HR.out.1⟩
end Go.Proofs.YtcepajijiabkmaaGreat

namespace Go.Proofs.YtcepajijiabkmaaGreat
open Lib (hid)
open Go.RowKit
section
variable {α:Type} {K:Nat} {caps:Array Value} {Ma:Nat} {J:Nat->World->(Nat->Prop)->α->Prop} {step:(ByteArray->Int)->ByteArray->α->α} {w0:World} {L:Nat}
end
def has (l:List ByteArray) (s:ByteArray):Bool:=l.any fun t=>decide (t=s)
section
variable {base Ma Ms ba bs bl N:Nat}
end
theorem zaz (h:3 < Tryz.prog.types.size):(Tryz.prog.types[3]'h).size=1:=by kernel_rfl
theorem vb3 (v0 v1 v2 v3:Value) (w:World):(Instr.index 61 (.agg #[v0,v1,v2,v3]) (.int .i64 0)).run Tryz.prog w=.ok v0 w:=by
 simp [Instr.index,run_underlying Pb,asIntOf,go_sem,zaz]
theorem jb3 (v0 v1 v2 v3:Value) (w:World):(Instr.index 61 (.agg #[v0,v1,v2,v3]) (.int .i64 1)).run Tryz.prog w=.ok v1 w:=by
 simp [Instr.index,run_underlying Pb,asIntOf,go_sem,zaz]
theorem qb3 (v0 v1 v2 v3:Value) (w:World):(Instr.index 61 (.agg #[v0,v1,v2,v3]) (.int .i64 2)).run Tryz.prog w=.ok v2 w:=by
 simp [Instr.index,run_underlying Pb,asIntOf,go_sem,zaz]
theorem xb3 (v0 v1 v2 v3:Value) (w:World):(Instr.index 61 (.agg #[v0,v1,v2,v3]) (.int .i64 3)).run Tryz.prog w=.ok v3 w:=by
 simp [Instr.index,run_underlying Pb,asIntOf,go_sem,zaz]
theorem zcf (v0 v1 v2 v3:Value) (w:World):(Instr.index 61 (.agg #[v0,v1,v2,v3]) (.int .i64 ((0:Nat):Int))).run Tryz.prog w=.ok v0 w:=vb3 v0 v1 v2 v3 w
theorem wce (v0 v1 v2 v3:Value) (w:World):(Instr.index 61 (.agg #[v0,v1,v2,v3]) (.int .i64 ((1:Nat):Int))).run Tryz.prog w=.ok v1 w:=jb3 v0 v1 v2 v3 w
theorem gce (v0 v1 v2 v3:Value) (w:World):(Instr.index 61 (.agg #[v0,v1,v2,v3]) (.int .i64 ((2:Nat):Int))).run Tryz.prog w=.ok v2 w:=qb3 v0 v1 v2 v3 w
theorem uce (v0 v1 v2 v3:Value) (w:World):(Instr.index 61 (.agg #[v0,v1,v2,v3]) (.int .i64 ((3:Nat):Int))).run Tryz.prog w=.ok v3 w:=xb3 v0 v1 v2 v3 w
attribute [local go_sem] vb3 jb3 qb3 xb3 zcf wce gce uce
end Go.Proofs.YtcepajijiabkmaaGreat

namespace Go.Proofs.YtcepajijiabkmaaGreat
open Lib (hid)
open Go.RowKit Go.Shelf
attribute [local go_sem] Oper.semAt_some
theorem vau {W W':World} {row:Option Nat} (hg:W.grownBy W' row) (hr:∀ r,row=some r->∃ o:Obj,W.heap[r]?=some o/\o.isCells=false) {x:Value} {ds:List Nat} (h:jc W x ds):jc W' x ds:=by
 obtain ⟨A,c,e,h1,h2,h3,h4⟩:=h;refine ⟨A,c,e,h1,h2,h3,fun hd=>?_⟩;obtain ⟨ad,e4,af,kV⟩:=h4 hd;refine ⟨ad,e4,px af hg.size,fun j hj=>?_⟩;refine (pB ?_).trans (kV j hj);rw [ja];refine hg.block _ af (fun e=>?_);obtain ⟨o,ho,Hr⟩:=hr _ e.symm;obtain ⟨o',Ot,Q9⟩:=cells_of_cell (kV j hj);rw [ja,ho] at Ot;injection Ot with Ot
 subst Ot;rw [Hr] at Q9; cases Q9
theorem cells_kept {W W':World} {row:Option Nat} (hg:W.grownBy W' row) (hr:∀ r,row=some r->∃ o:Obj,W.heap[r]?=some o/\o.isCells=false) {i:Nat} {cs:Array Value} {t:TypeId} {fr:Nat × Nat} (h:W.heap[i]?=some (.cells cs t fr)):W'.heap[i]?=some (.cells cs t fr):=by
 refine (hg.block i (rB.1 h).1 (fun e=>?_)).trans h;obtain ⟨o,ho,Hr⟩:=hr _ e.symm;rw [h] at ho;injection ho with ho
 rw [<- ho] at Hr;cases Hr
theorem kat {A B:World} {b:Nat} (h:Ext A B):KeepsFrom b A B:=KeepsFrom.of_grownBy (row:=none) ⟨h.below.os,h.below.tape,h.below.output,h.size,fun i hi _=>h.below.block i hi⟩ (fun j e=>by cases e)
theorem box1 {W:World} {g:Nat} {v:Value} {t:TypeId} (h:W.heap[g]?=some (.cells #[v] t (0,0))):W.cell? ⟨g,0,none⟩=some v:=by simp [World.cell?,h]
theorem qb6 {W:World} {g:Nat} {v0 v1:Value} {t:TypeId} (h:W.heap[g]?=some (.cells #[v0,v1] t (0,0))):W.cell? ⟨g,0,none⟩=some v0/\W.cell? ⟨g,1,none⟩=some v1:=by simp [World.cell?,h]
theorem box4 {W:World} {g:Nat} {v0 v1 v2 v3:Value} {t:TypeId} (h:W.heap[g]?=some (.cells #[v0,v1,v2,v3] t (0,0))):W.cell? ⟨g,0,none⟩=some v0/\W.cell? ⟨g,1,none⟩=some v1/\W.cell? ⟨g,2,none⟩=some v2/\W.cell? ⟨g,3,none⟩=some v3:=by simp [World.cell?,h]
theorem zas.apart {W:World} {l:Sp} {A:Option Addr} {T:Nat} {ov:Value} {t:TypeId} (h:zas W none A l) (hb:W.heap[T]?=some (.cells #[ov] t (0,0))):∀ ad,A=some ad->0 < l.length->ad.block ≠ T:=by
 intro ad e hl he;obtain ⟨ad',b,B,n,c,e2,-,⟨-,h1,h2,-⟩,-⟩:=h 0 hl;rw [e] at e2;injection e2 with e2
 subst e2;rw [s8] at h1 h2;have key:∀ (o:Nat) (v:Value),W.cell? ⟨(ad.add 0).block,o,none⟩=some v->o=0:=fun o v hv=>by
  rw [World.cell?] at hv;simp only [ja,he,hb] at hv
  by_cases ho:o=0
  · exact ho
  · exfalso
    revert hv
    split
    · intro hv; cases hv
    · intro hv;obtain ⟨h5,-⟩:=rB.1 hv;simp at h5;omega
 have k1:=key _ _ h1;have k2:=key _ _ h2;omega
end Go.Proofs.YtcepajijiabkmaaGreat
