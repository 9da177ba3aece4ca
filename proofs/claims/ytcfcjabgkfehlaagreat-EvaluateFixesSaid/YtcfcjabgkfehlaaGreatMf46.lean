/- Layer 34: what a formula counts as; its canonical tree is its tree. -/
import Derived.Test.YtcfcjabgkfehlaaGreatMf44
import Derived.Test.YtcfcjabgkfehlaaGreatMf45
import Derived.Test.YtcfcjabgkfehlaaGreatMf26
import Derived.Test.YtcfcjabgkfehlaaGreatWt
set_option linter.unusedSimpArgs false
set_option linter.unusedVariables false

namespace Go.Proofs.YtcfcjabgkfehlaaGreat
def Tm.norm : Tm -> Tm
 | .num z=>.num z
 | .name s=>.name s
 | .add a b=>.add a.norm b.norm
 | .sub a b=>.sub a.norm b.norm
 | .mul a b=>.mul a.norm b.norm
 | .neg a=>.neg a.norm
 | .pow a e=>.pow a.norm (xw e 0)
def Fm.norm : Fm -> Fm
 | .truth b=>.truth b
 | .atom l r k=>.atom l.norm (yat r) k.norm
 | .not f=>.not f.norm
 | .and f g=>.and f.norm g.norm
 | .or f g=>.or f.norm g.norm
 | .imp f g=>.imp f.norm g.norm
 | .iff f g=>.iff f.norm g.norm
 | .quant a s f=>.quant a s f.norm
theorem TmV.isTm {w:World} {L:Nat} {t:Tm} {v:Value} (h:TmV w L t v):zaa L t.norm t.plain:=by
 induction t generalizing v with
 | num z =>
   obtain ⟨x,e,h⟩:=h;exact ⟨rfl,rfl,by show z=sgn (decide (z < 0)) (val (dg z.natAbs)); rw [je,vai],h.len⟩
 | name s=>exact ⟨rfl,rfl,rfl⟩
 | add a b iha ihb=>obtain ⟨x,y,e,h,k⟩:=h; exact ⟨rfl,_,_,rfl,iha h,ihb k⟩
 | sub a b iha ihb=>obtain ⟨x,y,e,h,k⟩:=h; exact ⟨rfl,_,_,rfl,iha h,ihb k⟩
 | mul a b iha ihb=>obtain ⟨x,y,e,h,k⟩:=h; exact ⟨rfl,_,_,rfl,iha h,ihb k⟩
 | neg a iha=>obtain ⟨x,e,h⟩:=h; exact ⟨rfl,_,rfl,iha h⟩
 | pow a n iha=>obtain ⟨x,e,h⟩:=h; exact ⟨rfl,rfl,by unfold xw; split <;> omega,_,rfl,iha h⟩
theorem FmV.isFm {w:World} {L:Nat} {t:Fm} {v:Value} (h:FmV w L t v):yab L t.norm t.plain:=by
 induction t generalizing v with
 | truth b=>exact ⟨rfl,rfl,rfl⟩
 | atom l r k=>obtain ⟨x,y,e,h,k⟩:=h; exact ⟨rfl,rfl,by unfold yat; split <;> omega,by unfold yat; split <;> omega,_,_,rfl,h.isTm,k.isTm⟩
 | not f ihf=>obtain ⟨x,e,h⟩:=h; exact ⟨rfl,_,rfl,ihf h⟩
 | and f g ihf ihg=>obtain ⟨x,y,e,h,k⟩:=h; exact ⟨rfl,_,_,rfl,ihf h,ihg k⟩
 | or f g ihf ihg=>obtain ⟨x,y,e,h,k⟩:=h; exact ⟨rfl,_,_,rfl,ihf h,ihg k⟩
 | imp f g ihf ihg=>obtain ⟨x,y,e,h,k⟩:=h; exact ⟨rfl,_,_,rfl,ihf h,ihg k⟩
 | iff f g ihf ihg=>obtain ⟨x,y,e,h,k⟩:=h; exact ⟨rfl,_,_,rfl,ihf h,ihg k⟩
 | quant a s f ihf=>obtain ⟨x,e,h⟩:=h; exact ⟨rfl,rfl,rfl,_,rfl,ihf h⟩
end Go.Proofs.YtcfcjabgkfehlaaGreat

/- Layer 34: formula.fresh, formula.Parts. -/
set_option maxRecDepth 100000
set_option maxHeartbeats 8000000
namespace Go.Proofs.YtcfcjabgkfehlaaGreat
open Go.RowKit Go.Shelf
theorem gb7 {w:World} {L:Nat} (hL:L<=35184372088000) (f:Fm) {v:Value} (h:FmV w L f v):Calls Tryz.prog 166 #[v] w fun e w'=>∃ v',e=.returned v'/\FmV w' L f.norm v'/\Ext w w':=by
 have H:=Lib.hid h;obtain ⟨T,x,rfl⟩:=h.iface;clear h;go_enter Tryz.func166,Tryz.ntmps166;go_wp2_with fail;refine (gb4 hL f _ _ (Ext.refl w) H.out).mono ?_;rintro e w1 ⟨z,rfl,m1,x1⟩;have M1:=Lib.hid m1;have X1:=Lib.hid x1;obtain ⟨A0,n0,c0,A1,c1,rfl,-⟩:=m1.open_;clear m1 x1;go_wp2_with fail;refine (ycq hL f.norm f.plain H.out.isFm _ _ M1.out.trV).mono ?_;rintro e w2 ⟨v2,rfl,f2,x2⟩;have F2:=Lib.hid f2;have X2:=Lib.hid (X1.out.trans x2);obtain ⟨T2,u2,rfl⟩:=f2.iface;clear f2 x2;go_wp2_with fail;go_ret;exact ⟨_,rfl,F2.out,X2.out⟩
def zca (L:Nat) (f:Fm) (w:World) (e:Ending) (w':World):Prop:=∃ B v,e=.returned (.func (.func 167) #[] #[.pointer (some ⟨B,0,none⟩)])/\w'.cell? ⟨B,0,none⟩=some v/\B < w'.heap.size/\FmV w' L f v/\Ext w w'
theorem FmV.box {w:World} {L:Nat} {a:Addr} {u:Value} (ha:w.cell? a=some u) (hu:ku u=false) (u':Value) {t:Fm} {v:Value} (h:FmV w L t v):FmV (w.setCell a u') L t v:=by
 induction t generalizing v with
 | truth b=>exact h
 | atom l r k=>obtain ⟨x,y,e,h,k⟩:=h; exact ⟨x,y,e,h.box ha hu u',k.box ha hu u'⟩
 | not f ihf=>obtain ⟨x,e,h⟩:=h; exact ⟨x,e,ihf h⟩
 | and f g ihf ihg=>obtain ⟨x,y,e,h,k⟩:=h; exact ⟨x,y,e,ihf h,ihg k⟩
 | or f g ihf ihg=>obtain ⟨x,y,e,h,k⟩:=h; exact ⟨x,y,e,ihf h,ihg k⟩
 | imp f g ihf ihg=>obtain ⟨x,y,e,h,k⟩:=h; exact ⟨x,y,e,ihf h,ihg k⟩
 | iff f g ihf ihg=>obtain ⟨x,y,e,h,k⟩:=h; exact ⟨x,y,e,ihf h,ihg k⟩
 | quant a s f ihf=>obtain ⟨x,e,h⟩:=h; exact ⟨x,e,ihf h⟩
theorem jb5 {w:World} {L:Nat} (hL:L<=35184372088000) (f:Fm) {v:Value} (h:FmV w L f v):Calls Tryz.prog 126 #[v] w (zca L f.norm w):=by
 have H:=Lib.hid h;obtain ⟨T,x,rfl⟩:=h.iface;clear h;have hX:Ext w (w.alloc (.cells #[.iface T x] 163)):=(Ext.refl w).alloc _;have HXA:=Lib.hid hX;have HC:Hid ((w.alloc (.cells #[.iface T x] 163)).cell? ⟨w.heap.size,0,none⟩=some (.iface T x)/\(w.alloc (.cells #[.iface T x] 163)).frozen? ⟨w.heap.size,0,none⟩=false/\w.heap.size < (w.alloc (.cells #[.iface T x] 163)).heap.size):=⟨by simp [go_sem],by simp [go_sem],by simp⟩;clear hX;go_enter Tryz.func126,Tryz.ntmps126;go_wp2_with fail;refine (gb7 hL f (H.out.ext HXA.out)).mono ?_;rintro e w1 ⟨v1,rfl,f1,x1⟩;obtain ⟨T1,u1,rfl⟩:=f1.iface;have c1:w1.cell? ⟨w.heap.size,0,none⟩=some (.iface T x):=(x1.cell (p:=⟨w.heap.size,0,none⟩) HC.out.2.2).trans HC.out.1;have c2:w1.frozen? ⟨w.heap.size,0,none⟩=false:=(x1.frozen (p:=⟨w.heap.size,0,none⟩) HC.out.2.2).trans HC.out.2.1
 have HF:Hid (zca L f.norm w (.returned (.func (.func 167) #[] #[.pointer (some ⟨w.heap.size,0,none⟩)])) (w1.setCell ⟨w.heap.size,0,none⟩ (.iface T1 u1))):=
  ⟨_,_,rfl,World.cell?_setCell_same' _ _ _ (by rw [c1]; rfl),by have:=x1.size; have:=HC.out.2.2; simp; omega,f1.box c1 rfl _,(HXA.out.trans x1).setCell (Nat.le_refl _) _⟩
 clear f1 x1 HC HXA H;go_wp2_with fail;go_ret;exact HF.out
theorem qbq {w:World} {L:Nat} (f:Fm) {v:Value} (hv:FmV w L f v) (B:Nat) (hB:B < w.heap.size) (hc:w.cell? ⟨B,0,none⟩=some v) (hs:f.sz<=4611686018427387904) (n:Nat) :
 SeqStopsK Fence.wide n Tryz.prog 167 #[.pointer (some ⟨B,0,none⟩)] (It.enc (w0:=w) (L:=L)) yj (fun xs=>xs.map It.f=f.pre) (fun xs=>xs.map It.f <+: f.pre) f.pre.length w:=by
 intro l J Jx W hW hJ hJx hY h0;have hvis:=jca l f.pre.length J Jx (fun pre W W' h hx=>hJ pre W W' none h hx.grownN (fun r e=>by cases e)) (fun m pre x W1 h1 h2=>YieldAt.anyDepth rfl m (hY pre x W1 h1 h2)) (f.sz+1) f v;have c0:W.cell? ⟨B,0,none⟩=some v:=(hW.cell (p:=⟨B,0,none⟩) hB).trans hc;obtain ⟨T,x,rfl⟩:=hv.iface;have HV:=Lib.hid hv;have HVIS:=Lib.hid hvis;have H0:=Lib.hid h0;clear hv hvis hY hJ hJx h0;have hdd:∀ k:Nat,(Fence.wide.depth.isSome=true->1<=k):=fun k h=>by cases h
 refine callsIn_of_wp Tryz.func167 rfl trivial ?_ rfl;simp only [Tryz.ntmps167,List.size_toArray,List.length_cons,List.length_nil,Nat.reduceAdd,Nat.reduceSub,Array.replicate_succ,Array.replicate_zero,List.push_toArray,List.append_toArray,List.nil_append,List.cons_append]
 gi_wp2_with fail
 refine ⟨trivial,hdd _,?_⟩;refine (HVIS.out _ 0 [] W (Nat.lt_succ_self _) HV.out H0.out (by simp) (by omega) (by omega)).mono ?_;rintro e W1 (⟨rfl,q,hq,hJ1,-⟩ | ⟨rfl,q,hq,hx1⟩)
 · have HQ:=Lib.hid hq;have HJ1:=Lib.hid hJ1;clear hq hJ1
   gi_wp2_with fail
   go_end0
   exact ⟨⟨_,rfl⟩,.inl ⟨q,HQ.out,HJ1.out⟩⟩
 · have HQ:=Lib.hid hq;have HX1:=Lib.hid hx1;clear hq hx1
   gi_wp2_with fail
   go_end0
   exact ⟨⟨_,rfl⟩,.inr ⟨q,HQ.out,HX1.out⟩⟩
end Go.Proofs.YtcfcjabgkfehlaaGreat

/- evaluate.large (this text stood at XWt's end; gen/Deg.py prints both in one). -/
namespace Go.Proofs.YtcfcjabgkfehlaaGreat
open Go.RowKit
def Tm.large (t:Tm):Bool:=decide (8 < t.deg) || decide (320 < t.wt)
theorem za0 {w0 w:World} {L:Nat} (hs:L<=1000000000000) (t:Tm) {v:Value} (hx0:Ext w0 w) (h:TmV w0 L t v):Calls Tryz.prog 127 #[v] w fun e w'=>e=.returned (.bool t.large)/\Ext w w':=by
 have H:=Lib.hid h;have HX0:=Lib.hid hx0;clear h hx0
 by_cases hd:8 < t.deg
 · have hl:t.large=true:=by unfold Tm.large; simp [hd]
   rw [hl];clear hl;go_enter Tryz.func127,Tryz.ntmps127;go_wp2_with fail;refine (ga9 t _ _ H.out).mono ?_;rintro e w1 ⟨rfl,x1⟩;have X1:=Lib.hid x1;clear x1;go_wp2_with fail;go_ret;exact ⟨rfl,X1.out⟩
 · have hl:t.large=decide (320 < t.wt):=by unfold Tm.large; simp [hd]
   rw [hl];clear hl;have hd':decide (8 < t.deg)=false:=by simpa using hd
   go_enter Tryz.func127,Tryz.ntmps127;go_wp2_with fail;refine (ga9 t _ _ H.out).mono ?_;rintro e w1 ⟨rfl,x1⟩;have X1:=Lib.hid x1;clear x1;go_wp2_with fail;refine (zbv hs t _ _ (HX0.out.trans X1.out) H.out).mono ?_;rintro e w2 ⟨rfl,x2⟩;have X2:=Lib.hid (X1.out.trans x2);clear x2;go_wp2_with fail;go_ret;exact ⟨rfl,X2.out⟩
end Go.Proofs.YtcfcjabgkfehlaaGreat

/- Layer 40: evaluate.Formula, evaluate.Term. -/
set_option maxRecDepth 100000
set_option maxHeartbeats 8000000
namespace Go.Proofs.YtcfcjabgkfehlaaGreat
open Go.RowKit Go.Shelf
attribute [local go_sem] Oper.semAt_some
attribute [local go_sem] xaj gaf gaj zaj kaj jaj yaj wad waf qaj uaj jao vaa vaj zae
def Fm.bad : Fm -> Bool
 | .atom l _ k=>l.large || k.large
 | _=>false
def qai (f:Fm) (vals:List (ByteArray × Rat)):Bool × Int:=
 if 0 < f.bound.length then (false,9) else if kac (yw vals) f.free=false then (false,7) else if f.pre.any Fm.bad then (false,8) else (f.tv (yw vals),0)
def wbf (r:Bool × Int) (w:World) (e:Ending) (w':World):Prop:=e=.returned (.tuple #[.bool r.1,.int .i64 r.2])/\Ext w w'
theorem VsV.rlen {w:World} {L:Nat} {v:Value} {l:List (ByteArray × Rat)} (h:VsV w L v l) (hL:1<=L):∀ s q,yw l s=some q->rlen q<=L:=by
 obtain ⟨A,c,-,-,-,h3⟩:=h;have key:∀ x ∈ l,Go.Proofs.YtcfcjabgkfehlaaGreat.rlen x.2<=L:=fun x hx=>by
  obtain ⟨j,hj,rfl⟩:=List.getElem_of_mem hx;obtain ⟨ad,bb,A1,n1,c1,A2,n2,c2,-,-,-,hr⟩:=h3 j hj;exact hr.rlen_le hL
 clear h3
 induction l with
 | nil=>intro s q h; cases h
 | cons x r ih =>
   intro s q h;obtain ⟨k,q'⟩:=x;unfold yw at h
   by_cases hs:s=k
   · rw [if_pos hs] at h;injection h with h
     rw [<- h];exact key (k,q') List.mem_cons_self
   · rw [if_neg hs] at h;exact ih (fun y hy=>key y (List.mem_cons_of_mem _ hy)) s q h
theorem KeepsOthers.of_ext {W W':World} (h:Ext W W'):KeepsOthers W W':=KeepsOthers.of_grownBy h.grownN (fun j o e=>by cases e)
def Fm.isAtom : Fm -> Bool
 | .atom _ _ _=>true
 | _=>false
theorem FmV.notAtom {w:World} {L:Nat} {t:Fm} {v:Value} (h:FmV w L t v) (hn:t.isAtom=false):∃ T x,v=.iface T x/\¬ T=109:=by
 cases t <;> (simp only [FmV] at h) <;> first | (cases hn; done) | exact ⟨_,_,h,by decide⟩ | (obtain ⟨_,e,_⟩:=h; exact ⟨_,_,e,by decide⟩) | (obtain ⟨_,_,e,_⟩:=h; exact ⟨_,_,e,by decide⟩)
def qba {w0:World} {L:Nat} (w w5:World) (cc:Code) (pre:List (It w0 L)) (W:World):Prop:=
 cc=.ret/\(∃ y ∈ pre,y.f.bad=true)/\Ext w W/\w5.heap.size<=W.heap.size/\W.heap[w.heap.size]?=some (.cells #[.bool false] 4 (0,0))/\W.heap[w.heap.size+1]?=some (.cells #[.int .i64 8] 27 (0,0))
theorem qba.own {w0:World} {L:Nat} {w w5:World} (cc:Code) (h:w.heap.size+1 < w5.heap.size):OwnFrom w5.heap.size (fun (pre:List (It w0 L)) W=>qba w w5 cc pre W):=by
 rintro s W W' row ⟨h1,h2,h3,h4,h5,h6⟩ hg hr;refine ⟨h1,h2,h3.grown hg (fun k e=>by have:=(hr k e).1; omega),Nat.le_trans h4 hg.size,?_,?_⟩
 · rw [hg.block _ (by omega) (fun e=>by have:=(hr _ e.symm).1; omega)]; exact h5
 · rw [hg.block _ (by omega) (fun e=>by have:=(hr _ e.symm).1; omega)]; exact h6
theorem qa9 {w : World} {L : Nat} (hL1 : 1 <= L) (hL : L <= 1000000000) (f : Fm) {v s : Value} {vals : List (ByteArray × Rat)} (h : FmV w L f v) (hvs : VsV w L s vals) (hn : f.norm = f) (hsz : f.sz <= 1000000000)
 (hfine:f.bound.length=0->kac (yw vals) f.free=true->f.pre.any Fm.bad=false->f.fine (yw vals) L) :
 Calls Tryz.prog 78 #[v,s] w (wbf (qai f vals) w):=by
 have H:=Lib.hid h;have HVS:=Lib.hid hvs;have HN:=Lib.hid hn;have HFINE:=Lib.hid hfine;obtain ⟨T,x,rfl⟩:=h.iface;obtain ⟨A,c,rfl,-⟩:=hvs;clear h hn hfine;have hdd:∀ k:Nat,(Fence.wide.depth.isSome=true->1<=k):=fun k h=>by cases h
 refine (callsIn_wide (n:=5)).1 ?_;refine callsIn_of_wp_marks Tryz.func78 rfl trivial ?_ rfl;simp only [Tryz.ntmps78,List.size_toArray,List.length_cons,List.length_nil,Nat.reduceAdd,Nat.reduceSub,Array.replicate_succ,Array.replicate_zero,List.push_toArray,List.append_toArray,List.nil_append,List.cons_append]
 gi_wp2_with fail
 obtain ⟨W,hW⟩:∃ W,(w.alloc (.cells #[.bool false] 4)).alloc (.cells #[.int .i64 0] 27)=W:=⟨_,rfl⟩;have hWx:Ext w W:=by rw [<- hW]; exact ((Ext.refl w).alloc _).alloc _
 have hWs:W.heap.size=w.heap.size+1+1:=by rw [<- hW]; simp
 have hb0:W.heap[w.heap.size]?=some (.cells #[.bool false] 4 (0,0)):=by
  rw [<- hW,Below.heap_alloc _ _ _ (by simp)]; exact heap_alloc_new w _
 have hb1:W.heap[w.heap.size+1]?=some (.cells #[.int .i64 0] 27 (0,0)):=by
  rw [<- hW];have:=heap_alloc_new (w.alloc (.cells #[.bool false] 4)) (.cells #[.int .i64 0] 27)
  rwa [World.size_alloc] at this
 rw [hW];clear hW;refine ⟨trivial,?_⟩;refine (callsIn_wide.2 (qb9 (w0:=w) f H.out (by omega))).mono ?_;rintro e w1 ⟨s1,rfl,hr1,x1⟩;obtain ⟨A1,c1,rfl⟩:=hr1.slr.len;have X1:=Lib.hid (hWx.trans x1);have hs1:=x1.size;have B0:=Lib.hid ((x1.below.block _ (by omega)).trans hb0);have B1:=Lib.hid ((x1.below.block _ (by omega)).trans hb1);clear hr1 x1 hb0 hb1 hWx
 by_cases hbd:0 < f.bound.length
 · have c0:=cell_of_one B0.out;have c1':=cell_of_one B1.out;have f0:=free_of_one B0.out;have f1:=free_of_one B1.out;have HR:Hid (qai f vals=(false,9)):=by
    have:qai f vals=(false,9):=if_pos hbd;exact this
   gi_wp2_with fail
   exact ⟨.tuple #[.bool false,.int .i64 9],by simp [results,Tryz.results78,go_sem,c0,c1'],by rw [HR.out],(X1.out.setCell (Nat.le_refl _) _).setCell (Nat.le_succ _) _⟩
 · have HB0:Hid (f.bound.length=0):=by
    have:f.bound.length=0:=by omega
    exact this
   gi_wp2_with fail
   refine ⟨trivial,?_⟩;refine (callsIn_wide.2 (first_any (HVS.out.ext X1.out))).mono ?_;rintro e w2 ⟨b,rfl,hm2,x2⟩;have M2:=Lib.hid hm2;have X2:=Lib.hid (X1.out.trans x2);have hs2:=x2.size;have B02:=Lib.hid ((x2.below.block _ (by omega)).trans B0.out);have B12:=Lib.hid ((x2.below.block _ (by omega)).trans B1.out);clear hm2 x2 B0 B1
   gi_wp2_with fail
   refine ⟨trivial,?_⟩;refine (callsIn_wide.2 (wch f H.out (by omega))).mono ?_;rintro e w3 ⟨s3,rfl,hr3,x3⟩;obtain ⟨A3,c3,rfl⟩:=hr3.slr.len;have R3:=Lib.hid hr3.slr;have M3:=Lib.hid (M2.out.ext x3);have X3:=Lib.hid (X2.out.trans x3);have hs3:=x3.size;have B03:=Lib.hid ((x3.below.block _ (by omega)).trans B02.out);have B13:=Lib.hid ((x3.below.block _ (by omega)).trans B12.out);clear hr3 x3 B02 B12 M2 X1 X2
   gi_wp2_with fail
   refine ⟨trivial,?_⟩;refine (callsIn_wide.2 (zb0 M3.out R3.out)).mono ?_;rintro e w4 ⟨rfl,x4⟩;have M4:=Lib.hid (M3.out.ext x4);have X4:=Lib.hid (X3.out.trans x4);have hs4:=x4.size;have B04:=Lib.hid ((x4.below.block _ (by omega)).trans B03.out);have B14:=Lib.hid ((x4.below.block _ (by omega)).trans B13.out);clear x4 B03 B13 M3 X3 R3
   by_cases hcv:kac (yw vals) f.free=false
   · rw [hcv];have c0:=cell_of_one B04.out;have c1':=cell_of_one B14.out;have f0:=free_of_one B04.out;have f1:=free_of_one B14.out;have HR:Hid (qai f vals=(false,7)):=by
      have:qai f vals=(false,7):=by unfold qai; rw [if_neg hbd,if_pos hcv]
      exact this
     clear hcv
     gi_wp2_with fail
     exact ⟨.tuple #[.bool false,.int .i64 7],by simp [results,Tryz.results78,go_sem,c0,c1'],by rw [HR.out],(X4.out.setCell (Nat.le_refl _) _).setCell (Nat.le_succ _) _⟩
   · have hcv':kac (yw vals) f.free=true:=by simpa using hcv
     rw [hcv'];have HCV:=Lib.hid hcv';clear hcv hcv'
     gi_wp2_with fail
     refine ⟨trivial,?_⟩;refine (callsIn_wide.2 (jb5 (by omega) f (H.out.ext X4.out))).mono ?_;rintro e w5 ⟨B5,v5,rfl,hc5,hB5,hf5,x5⟩;rw [HN.out] at hf5;have M5:=Lib.hid (M4.out.ext x5);have X5:=Lib.hid (X4.out.trans x5);have hs5:=x5.size;have B05:=Lib.hid ((x5.below.block _ (by omega)).trans B04.out);have B15:=Lib.hid ((x5.below.block _ (by omega)).trans B14.out);have HSEQ:=Lib.hid (fun n=>qbq f hf5 B5 hB5 hc5 (by omega) n);clear x5 B04 B14 M4 X4 hc5 hB5 hf5
     gi_wp2_with fail
     refine wpIn_rangeFunc_ownF rfl (by omega) (gf := 167) (lb := #[.pointer (some ⟨B5, 0, none⟩)]) rfl trivial (enters_of Tryz.func167 (by kernel_rfl) rfl) (HSEQ.out _) yj.trans (fun W l o o' _ h1 h2 _ => yj.putObj W l o o' h1 h2) (Below.refl _ _) (fun _ => rfl)
      (fun pre W=>Ext w5 W/\∀ y ∈ pre,y.f.bad=false) (fun cc pre W=>qba w w5 cc pre W)
      (fun s W W' row hs hg hr=>⟨hs.1.grown hg (fun k e=>(hr k e).1),hs.2⟩) (fun cc=>qba.own cc (by omega)) ⟨Ext.refl _,fun y hy=>by cases hy⟩
      (fun y=>{ tmps:=#[.iface T x,.slice A vals.length c,undef,undef,.pointer (some ⟨w.heap.size,0,none⟩),.pointer (some ⟨w.heap.size+1,0,none⟩),.map (some b),undef,y.v,undef,undef,.iface T x,.slice A1 f.bound.length c1,.int .i64 f.bound.length,.bool false,.slice A vals.length c,.map (some b),.map (some b),.iface T x,.slice A3 f.free.length c3,.bool true,.bool false,.iface T x,.func (.func 167) #[] #[.pointer (some ⟨B5,0,none⟩)],.int .i64 y.depth,y.v,undef,undef,undef,undef,undef,undef,undef,undef,undef,undef,undef,undef,undef,undef,undef,undef,undef,undef,undef],defers:=[] }) ?assign ?body ?done ?stop
     case assign =>
      intro l y W K hK;simp only [It.enc]
      gi_wp2
      exact hK
     case body =>
      rintro l pre y W ⟨hxW,hbad⟩ hlen;have hyv:=y.h;have HBAD:=Lib.hid hbad;have HXW:=Lib.hid hxW;clear hbad hxW hlen;obtain ⟨dep,fy,vy,hfy⟩:=y;dsimp only at hyv ⊢;have HYV:=Lib.hid hyv;clear hyv;cases fy with
      | atom la ra ka =>
        obtain ⟨xl,xk,rfl,hxl,hxk⟩:=HYV.out;have HXL:=Lib.hid hxl;have HXK:=Lib.hid hxk;obtain ⟨TL,xl,rfl⟩:=hxl.iface;obtain ⟨TK,xk,rfl⟩:=hxk.iface;clear hxl hxk;obtain ⟨Wb,hWb⟩:∃ Wb,W.alloc (.cells #[.iface TL xl,.int .i64 ra,.iface TK xk] 109)=Wb:=⟨_,rfl⟩;have hxb:Ext W Wb:=by rw [<- hWb]; exact (Ext.refl W).alloc _
        have hsb:W.heap.size < Wb.heap.size:=by rw [<- hWb]; simp
        have d0:Wb.cell? ⟨W.heap.size,0,none⟩=some (.iface TL xl):=by rw [<- hWb]; simp [go_sem]
        have D2:Hid (Wb.cell? ⟨W.heap.size,2,none⟩=some (.iface TK xk)):=by
         have:Wb.cell? ⟨W.heap.size,2,none⟩=some (.iface TK xk):=by rw [<- hWb]; simp [go_sem]
         exact this
        have HL:=Lib.hid (za0 (w0:=w5) (by omega) la (HXW.out.trans hxb) HXL.out);have HXB:=Lib.hid hxb;clear hxb
        by_cases hl:la.large=true
        · rw [hl] at HL;have HBADY:Hid ((Fm.atom la ra ka).bad=true):=by
           have:(Fm.atom la ra ka).bad=true:=by simp [Fm.bad,hl]
           exact this
          clear hl
          gi_wp2_with fail
          refine ⟨trivial,?_⟩;refine (CallsIn.inRound l (callsIn_wide.2 HL.out)).mono ?_;rintro e W6 ⟨rfl,x6⟩;have X6:=Lib.hid (HXB.out.trans x6);clear x6 d0 hWb HL;have Q0:Hid (W6.heap[w.heap.size]?=some (.cells #[.bool false] 4 (0,0))):=((HXW.out.trans X6.out).below.block _ (by omega)).trans B05.out;have Q1:Hid (W6.heap[w.heap.size+1]?=some (.cells #[.int .i64 0] 27 (0,0))):=((HXW.out.trans X6.out).below.block _ (by omega)).trans B15.out;have c0:=cell_of_one Q0.out;have c1':=cell_of_one Q1.out;have f0:=free_of_one Q0.out;have f1:=free_of_one Q1.out
          gi_wp2_with fail
          refine ⟨trivial,?_⟩
          gi_wp2_with fail
          refine ⟨(KeepsOthers.of_ext X6.out).trans ((KeepsOthers.setCell _ _ _).trans (KeepsOthers.setCell _ _ _)),rfl,⟨⟨dep,.atom la ra ka,_,hfy⟩,List.mem_append_right _ List.mem_cons_self,HBADY.out⟩,?_,?_,?_,?_⟩
          · exact ((X5.out.trans (HXW.out.trans X6.out)).setCell (Nat.le_refl _) _).setCell (Nat.le_succ _) _
          · have:=X6.out.size; have:=HXW.out.size; simp; omega
          · rw [Below.heap_setCell _ _ _ _ (by simp)]; exact one_setCell Q0.out
          · exact one_setCell ((Below.heap_setCell _ _ _ _ (by simp)).trans Q1.out)
        · have hl':la.large=false:=by simpa using hl
          rw [hl'] at HL
          by_cases hk:ka.large=true
          · have HBADY:Hid ((Fm.atom la ra ka).bad=true):=by
             have:(Fm.atom la ra ka).bad=true:=by simp [Fm.bad,hk]
             exact this
            clear hl hl'
            gi_wp2_with fail
            refine ⟨trivial,?_⟩;refine (CallsIn.inRound l (callsIn_wide.2 HL.out)).mono ?_;rintro e W6 ⟨rfl,x6⟩;have d2:W6.cell? ⟨W.heap.size,2,none⟩=some (.iface TK xk):=(x6.cell (p:=⟨W.heap.size,2,none⟩) hsb).trans D2.out;have X6:=Lib.hid (HXB.out.trans x6);have HKL:=Lib.hid (za0 (w0:=w5) (by omega) ka (HXW.out.trans X6.out) HXK.out);rw [hk] at HKL;clear x6 d0 hWb HL hk
            gi_wp2_with fail
            refine ⟨trivial,?_⟩;refine (CallsIn.inRound l (callsIn_wide.2 HKL.out)).mono ?_;rintro e W7 ⟨rfl,x7⟩;have X7:=Lib.hid (X6.out.trans x7);clear x7 d2 HKL;have Q0:Hid (W7.heap[w.heap.size]?=some (.cells #[.bool false] 4 (0,0))):=((HXW.out.trans X7.out).below.block _ (by omega)).trans B05.out;have Q1:Hid (W7.heap[w.heap.size+1]?=some (.cells #[.int .i64 0] 27 (0,0))):=((HXW.out.trans X7.out).below.block _ (by omega)).trans B15.out;have c0:=cell_of_one Q0.out;have c1':=cell_of_one Q1.out;have f0:=free_of_one Q0.out;have f1:=free_of_one Q1.out
            gi_wp2_with fail
            refine ⟨(KeepsOthers.of_ext X7.out).trans ((KeepsOthers.setCell _ _ _).trans (KeepsOthers.setCell _ _ _)),rfl,⟨⟨dep,.atom la ra ka,_,hfy⟩,List.mem_append_right _ List.mem_cons_self,HBADY.out⟩,?_,?_,?_,?_⟩
            · exact ((X5.out.trans (HXW.out.trans X7.out)).setCell (Nat.le_refl _) _).setCell (Nat.le_succ _) _
            · have:=X7.out.size; have:=HXW.out.size; simp; omega
            · rw [Below.heap_setCell _ _ _ _ (by simp)]; exact one_setCell Q0.out
            · exact one_setCell ((Below.heap_setCell _ _ _ _ (by simp)).trans Q1.out)
          · have hk':ka.large=false:=by simpa using hk
            have HGOOD:Hid ((Fm.atom la ra ka).bad=false):=by
             have:(Fm.atom la ra ka).bad=false:=by simp [Fm.bad,hl',hk']
             exact this
            clear hl hl'
            gi_wp2_with fail
            refine ⟨trivial,?_⟩;refine (CallsIn.inRound l (callsIn_wide.2 HL.out)).mono ?_;rintro e W6 ⟨rfl,x6⟩;have d2:W6.cell? ⟨W.heap.size,2,none⟩=some (.iface TK xk):=(x6.cell (p:=⟨W.heap.size,2,none⟩) hsb).trans D2.out;have X6:=Lib.hid (HXB.out.trans x6);have HKL:=Lib.hid (za0 (w0:=w5) (by omega) ka (HXW.out.trans X6.out) HXK.out);rw [hk'] at HKL;clear x6 d0 hWb HL hk hk'
            gi_wp2_with fail
            refine ⟨trivial,?_⟩;refine (CallsIn.inRound l (callsIn_wide.2 HKL.out)).mono ?_;rintro e W7 ⟨rfl,x7⟩;have X7:=Lib.hid (X6.out.trans x7);clear x7 d2 HKL
            gi_wp2_with fail
            refine ⟨KeepsOthers.of_ext X7.out,yj.of_ext X7.out,HXW.out.trans X7.out,fun z hz=>?_⟩;rcases List.mem_append.1 hz with hz | hz
            · exact HBAD.out z hz
            · rw [List.mem_singleton.1 hz]; exact HGOOD.out
      | _ =>
        obtain ⟨TY,xy,e1,hT⟩:=HYV.out.notAtom rfl;subst e1
        gi_wp2_with fail
        refine ⟨trivial,?_⟩
        gi_wp2_with fail
        all_goals first
          | (exfalso; rename_i h1 h2; exact absurd h1 (by unfold undef; simp))
          | skip
        refine ⟨trivial,?_⟩
        gi_wp2_with fail
        refine ⟨KeepsOthers.alloc _ _,yj.of_ext ((Ext.refl W).alloc _),HXW.out.alloc _,fun z hz=>?_⟩;rcases List.mem_append.1 hz with hz | hz
        · exact HBAD.out z hz
        · rw [List.mem_singleton.1 hz]; rfl
     case done =>
      rintro D xs W hD hxs ⟨hxW,hbad⟩ hK;have hgood:f.pre.any Fm.bad=false:=by
       rw [<- hxs,List.any_map,List.any_eq_false];intro y hy;simp only [Function.comp_apply];rw [hbad y hy]; simp
      have HR:Hid (qai f vals=(f.tv (yw vals),0)):=by
       have:qai f vals=(f.tv (yw vals),0):=by unfold qai; rw [if_neg (by have:=HB0.out; omega),if_neg (by rw [HCV.out]; simp),if_neg (by rw [hgood]; simp)]
       exact this
      have HF:=Lib.hid (jbr (M5.out.ext hxW) hL1 (HVS.out.rlen hL1) f (HFINE.out HB0.out HCV.out hgood) _ W (Ext.refl W) (H.out.ext (X5.out.trans hxW)));have HXW:=Lib.hid hxW;have HKD:=Lib.hid hK;have hWD:=(Array.getElem?_eq_some_iff.1 hK).1;clear hgood hbad hxs hxW hK
      gi_wp2_with fail
      refine ⟨trivial,?_⟩;refine (callsIn_wide.2 HF.out).mono ?_;rintro e W6 ⟨rfl,x6⟩;have X6:=Lib.hid (HXW.out.trans x6);have hs6:=X6.out.size;have Q0:Hid (W6.heap[w.heap.size]?=some (.cells #[.bool false] 4 (0,0))):=(X6.out.below.block _ (by omega)).trans B05.out;have Q1:Hid (W6.heap[w.heap.size+1]?=some (.cells #[.int .i64 0] 27 (0,0))):=(X6.out.below.block _ (by omega)).trans B15.out;have hD6:W6.heap[D]?=some (.deferred (some [])):=(x6.below.block _ hWD).trans HKD.out;have HD6:=Lib.hid hD6;have c0:=cell_of_one Q0.out;have c1':=cell_of_one Q1.out;have f0:=free_of_one Q0.out;have f1:=free_of_one Q1.out;clear x6 hD6 HF HKD
      gi_wp2_with fail
      have hD7:((W6.setCell ⟨w.heap.size,0,none⟩ (.bool (f.tv (yw vals)))).setCell ⟨w.heap.size+1,0,none⟩ (.int .i64 0)).heap[D]?=some (.deferred (some [])):=by
       rw [Below.heap_setCell _ _ _ _ (by simp; omega),Below.heap_setCell _ _ _ _ (by simp; omega)]; exact HD6.out
      refine ⟨by simp,.inl ⟨_,_,rfl,run_takeDeferred hD7,?_⟩⟩;have hx7:Ext w ((W6.setCell ⟨w.heap.size,0,none⟩ (.bool (f.tv (yw vals)))).setCell ⟨w.heap.size+1,0,none⟩ (.int .i64 0)):=((X5.out.trans X6.out).setCell (Nat.le_refl _) _).setCell (Nat.le_succ _) _;have k0:(((W6.setCell ⟨w.heap.size,0,none⟩ (.bool (f.tv (yw vals)))).setCell ⟨w.heap.size+1,0,none⟩ (.int .i64 0)).putObj D (.deferred none)).cell? ⟨w.heap.size,0,none⟩=some (.bool (f.tv (yw vals))):=by
       rw [World.cell?_of_block (World.putObj_heap_other (by simp; omega))];exact cell_of_one ((Below.heap_setCell _ _ _ _ (by simp)).trans (one_setCell Q0.out))
      have k1:(((W6.setCell ⟨w.heap.size,0,none⟩ (.bool (f.tv (yw vals)))).setCell ⟨w.heap.size+1,0,none⟩ (.int .i64 0)).putObj D (.deferred none)).cell? ⟨w.heap.size+1,0,none⟩=some (.int .i64 0):=by
       rw [World.cell?_of_block (World.putObj_heap_other (by simp; omega))];exact cell_of_one (one_setCell ((Below.heap_setCell _ _ _ _ (by simp)).trans Q1.out))
      exact ⟨.tuple #[.bool (f.tv (yw vals)),.int .i64 0],by simp [results,Tryz.results78,go_sem,k0,k1],by rw [HR.out],hx7.grown (grownBy_putObj' _ D _) (fun k e=>by injection e with e; omega)⟩
     case stop =>
      rintro D cc pre W hD hxs ⟨rfl,hy,hxw,hsz5,q0,q1⟩ hK;have HR:Hid (qai f vals=(false,8)):=by
       have hany:f.pre.any Fm.bad=true:=by
        obtain ⟨r,hr⟩:=hxs;obtain ⟨y,hy,hb⟩:=hy;rw [<- hr,List.any_append,List.any_map,Bool.or_eq_true];exact .inl (List.any_eq_true.2 ⟨y,hy,hb⟩)
       have:qai f vals=(false,8):=by unfold qai; rw [if_neg (by have:=HB0.out; omega),if_neg (by rw [HCV.out]; simp),if_pos hany]
       exact this
      have HKD:=Lib.hid hK;have HXW:=Lib.hid hxw;have Q0:=Lib.hid q0;have Q1:=Lib.hid q1;have hWD:=(Array.getElem?_eq_some_iff.1 hK).1;clear hy hxs hxw q0 q1 hK
      gi_wp2_with fail
      refine ⟨by simp,.inl ⟨_,_,rfl,run_takeDeferred HKD.out,?_⟩⟩;have k0:(W.putObj D (.deferred none)).cell? ⟨w.heap.size,0,none⟩=some (.bool false):=by
       rw [World.cell?_of_block (World.putObj_heap_other (by simp; omega))]; exact cell_of_one Q0.out
      have k1:(W.putObj D (.deferred none)).cell? ⟨w.heap.size+1,0,none⟩=some (.int .i64 8):=by
       rw [World.cell?_of_block (World.putObj_heap_other (by simp; omega))]; exact cell_of_one Q1.out
      exact ⟨.tuple #[.bool false,.int .i64 8],by simp [results,Tryz.results78,go_sem,k0,k1],by rw [HR.out],HXW.out.grown (grownBy_putObj' _ D _) (fun k e=>by injection e with e; omega)⟩
end Go.Proofs.YtcfcjabgkfehlaaGreat
