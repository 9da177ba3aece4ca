/- Layer 34: what a formula counts as; its canonical tree is its tree. -/
import Derived.Test.YtopddaabiinboaaGreatMp22
import Derived.Test.YtopddaabiinboaaGreatMp21
import Derived.Test.YtopddaabiinboaaGreatMp15
import Derived.Test.YtopddaabiinboaaGreatMp20
import Derived.Test.YtopddaabiinboaaGreatMp8
import Derived.Test.YtopddaabiinboaaGreatMp0
import Derived.Test.YtopddaabiinboaaGreatMp9
import Derived.Deep.Slices
import Derived.ChangeSlices
import Derived.Carry
import Derived.OpenShut
import Derived.ProofKit
import Derived.Test.YtopddaabiinboaaGreatMp18
import Derived.Test.YtopddaabiinboaaGreatMp16
import Derived.WalkKit
import Derived.Below
import Derived.ChangeSame
set_option linter.unusedSimpArgs false
set_option linter.unusedVariables false

namespace Go.Proofs.YtopddaabiinboaaGreat
def Tm.norm : Tm -> Tm
 | .num z=>.num z
 | .name s=>.name s
 | .add a b=>.add a.norm b.norm
 | .sub a b=>.sub a.norm b.norm
 | .mul a b=>.mul a.norm b.norm
 | .neg a=>.neg a.norm
 | .pow a e=>.pow a.norm (wc8 e 0)
def Fm.norm : Fm -> Fm
 | .truth b=>.truth b
 | .atom l r k=>.atom l.norm (yg2 r) k.norm
 | .not f=>.not f.norm
 | .and f g=>.and f.norm g.norm
 | .or f g=>.or f.norm g.norm
 | .imp f g=>.imp f.norm g.norm
 | .iff f g=>.iff f.norm g.norm
 | .quant a s f=>.quant a s f.norm
theorem TmV.isTm {w:World} {L:Nat} {t:Tm} {v:Value} (h:TmV w L t v):vda L t.norm t.plain:=by
 induction t generalizing v with
 | num z =>
   obtain ⟨x,e,h⟩:=h;exact ⟨rfl,rfl,by show z=sgn (decide (z < 0)) (val (dg z.natAbs)); rw [jc3,zgs],h.len⟩
 | name s=>exact ⟨rfl,rfl,rfl⟩
 | add a b iha ihb=>obtain ⟨x,y,e,h,k⟩:=h; exact ⟨rfl,_,_,rfl,iha h,ihb k⟩
 | sub a b iha ihb=>obtain ⟨x,y,e,h,k⟩:=h; exact ⟨rfl,_,_,rfl,iha h,ihb k⟩
 | mul a b iha ihb=>obtain ⟨x,y,e,h,k⟩:=h; exact ⟨rfl,_,_,rfl,iha h,ihb k⟩
 | neg a iha=>obtain ⟨x,e,h⟩:=h; exact ⟨rfl,_,rfl,iha h⟩
 | pow a n iha=>obtain ⟨x,e,h⟩:=h; exact ⟨rfl,rfl,by unfold wc8; split <;> omega,_,rfl,iha h⟩
theorem FmV.isFm {w:World} {L:Nat} {t:Fm} {v:Value} (h:FmV w L t v):jdb L t.norm t.plain:=by
 induction t generalizing v with
 | truth b=>exact ⟨rfl,rfl,rfl⟩
 | atom l r k=>obtain ⟨x,y,e,h,k⟩:=h; exact ⟨rfl,rfl,by unfold yg2; split <;> omega,by unfold yg2; split <;> omega,_,_,rfl,h.isTm,k.isTm⟩
 | not f ihf=>obtain ⟨x,e,h⟩:=h; exact ⟨rfl,_,rfl,ihf h⟩
 | and f g ihf ihg=>obtain ⟨x,y,e,h,k⟩:=h; exact ⟨rfl,_,_,rfl,ihf h,ihg k⟩
 | or f g ihf ihg=>obtain ⟨x,y,e,h,k⟩:=h; exact ⟨rfl,_,_,rfl,ihf h,ihg k⟩
 | imp f g ihf ihg=>obtain ⟨x,y,e,h,k⟩:=h; exact ⟨rfl,_,_,rfl,ihf h,ihg k⟩
 | iff f g ihf ihg=>obtain ⟨x,y,e,h,k⟩:=h; exact ⟨rfl,_,_,rfl,ihf h,ihg k⟩
 | quant a s f ihf=>obtain ⟨x,e,h⟩:=h; exact ⟨rfl,rfl,rfl,_,rfl,ihf h⟩
end Go.Proofs.YtopddaabiinboaaGreat

/- Layer 34: formula.fresh, formula.Parts. -/
set_option maxRecDepth 100000
set_option maxHeartbeats 8000000
namespace Go.Proofs.YtopddaabiinboaaGreat
open Go.RowKit Go.Shelf
theorem xik {w:World} {L:Nat} (hL:L<=35184372088000) (f:Fm) {v:Value} (h:FmV w L f v):Calls Tryz.prog 82 #[v] w fun e w'=>∃ v',e=.returned v'/\FmV w' L f.norm v'/\Ext w w':=by
 have H:=Lib.hid h;obtain ⟨T,x,rfl⟩:=h.iface;clear h;go_enter Tryz.func82,Tryz.ntmps82;go_wp2_with fail;refine (zih hL f _ _ (Ext.refl w) H.out).mono ?_;rintro e w1 ⟨z,rfl,m1,x1⟩;have M1:=Lib.hid m1;have X1:=Lib.hid x1;obtain ⟨A0,n0,c0,A1,c1,rfl,-⟩:=m1.open_;clear m1 x1;go_wp2_with fail;refine (zi3 hL f.norm f.plain H.out.isFm _ _ M1.out.trV).mono ?_;rintro e w2 ⟨v2,rfl,f2,x2⟩;have F2:=Lib.hid f2;have X2:=Lib.hid (X1.out.trans x2);obtain ⟨T2,u2,rfl⟩:=f2.iface;clear f2 x2;go_wp2_with fail;go_ret;exact ⟨_,rfl,F2.out,X2.out⟩
def wil (L:Nat) (f:Fm) (w:World) (e:Ending) (w':World):Prop:=∃ B v,e=.returned (.func (.func 83) #[] #[.pointer (some ⟨B,0,none⟩)])/\w'.cell? ⟨B,0,none⟩=some v/\B < w'.heap.size/\FmV w' L f v/\Ext w w'
theorem FmV.box {w:World} {L:Nat} {a:Addr} {u:Value} (ha:w.cell? a=some u) (hu:gc6 u=false) (u':Value) {t:Fm} {v:Value} (h:FmV w L t v):FmV (w.setCell a u') L t v:=by
 induction t generalizing v with
 | truth b=>exact h
 | atom l r k=>obtain ⟨x,y,e,h,k⟩:=h; exact ⟨x,y,e,h.box ha hu u',k.box ha hu u'⟩
 | not f ihf=>obtain ⟨x,e,h⟩:=h; exact ⟨x,e,ihf h⟩
 | and f g ihf ihg=>obtain ⟨x,y,e,h,k⟩:=h; exact ⟨x,y,e,ihf h,ihg k⟩
 | or f g ihf ihg=>obtain ⟨x,y,e,h,k⟩:=h; exact ⟨x,y,e,ihf h,ihg k⟩
 | imp f g ihf ihg=>obtain ⟨x,y,e,h,k⟩:=h; exact ⟨x,y,e,ihf h,ihg k⟩
 | iff f g ihf ihg=>obtain ⟨x,y,e,h,k⟩:=h; exact ⟨x,y,e,ihf h,ihg k⟩
 | quant a s f ihf=>obtain ⟨x,e,h⟩:=h; exact ⟨x,e,ihf h⟩
theorem uih {w:World} {L:Nat} (hL:L<=35184372088000) (f:Fm) {v:Value} (h:FmV w L f v):Calls Tryz.prog 47 #[v] w (wil L f.norm w):=by
 have H:=Lib.hid h;obtain ⟨T,x,rfl⟩:=h.iface;clear h;have hX:Ext w (w.alloc (.cells #[.iface T x] 91)):=(Ext.refl w).alloc _;have HXA:=Lib.hid hX;have HC:Hid ((w.alloc (.cells #[.iface T x] 91)).cell? ⟨w.heap.size,0,none⟩=some (.iface T x)/\(w.alloc (.cells #[.iface T x] 91)).frozen? ⟨w.heap.size,0,none⟩=false/\w.heap.size < (w.alloc (.cells #[.iface T x] 91)).heap.size):=⟨by simp [go_sem],by simp [go_sem],by simp⟩;clear hX;go_enter Tryz.func47,Tryz.ntmps47;go_wp2_with fail;refine (xik hL f (H.out.ext HXA.out)).mono ?_;rintro e w1 ⟨v1,rfl,f1,x1⟩;obtain ⟨T1,u1,rfl⟩:=f1.iface;have c1:w1.cell? ⟨w.heap.size,0,none⟩=some (.iface T x):=(x1.cell (p:=⟨w.heap.size,0,none⟩) HC.out.2.2).trans HC.out.1;have c2:w1.frozen? ⟨w.heap.size,0,none⟩=false:=(x1.frozen (p:=⟨w.heap.size,0,none⟩) HC.out.2.2).trans HC.out.2.1
 have HF:Hid (wil L f.norm w (.returned (.func (.func 83) #[] #[.pointer (some ⟨w.heap.size,0,none⟩)])) (w1.setCell ⟨w.heap.size,0,none⟩ (.iface T1 u1))):=
  ⟨_,_,rfl,World.cell?_setCell_same' _ _ _ (by rw [c1]; rfl),by have:=x1.size; have:=HC.out.2.2; simp; omega,f1.box c1 rfl _,(HXA.out.trans x1).setCell (Nat.le_refl _) _⟩
 clear f1 x1 HC HXA H;go_wp2_with fail;go_ret;exact HF.out
theorem qh2 {w:World} {L:Nat} (f:Fm) {v:Value} (hv:FmV w L f v) (B:Nat) (hB:B < w.heap.size) (hc:w.cell? ⟨B,0,none⟩=some v) (hs:f.sz<=4611686018427387904) (n:Nat) :
 SeqStopsK Fence.wide n Tryz.prog 83 #[.pointer (some ⟨B,0,none⟩)] (It.enc (w0:=w) (L:=L)) xc5 (fun xs=>xs.map It.f=f.pre) (fun xs=>xs.map It.f <+: f.pre) f.pre.length w:=by
 intro l J Jx W hW hJ hJx hY h0;have hvis:=qim l f.pre.length J Jx (fun pre W W' h hx=>hJ pre W W' none h hx.grownN (fun r e=>by cases e)) (fun m pre x W1 h1 h2=>YieldAt.anyDepth rfl m (hY pre x W1 h1 h2)) (f.sz+1) f v;have c0:W.cell? ⟨B,0,none⟩=some v:=(hW.cell (p:=⟨B,0,none⟩) hB).trans hc;obtain ⟨T,x,rfl⟩:=hv.iface;have HV:=Lib.hid hv;have HVIS:=Lib.hid hvis;have H0:=Lib.hid h0;clear hv hvis hY hJ hJx h0;have hdd:∀ k:Nat,(Fence.wide.depth.isSome=true->1<=k):=fun k h=>by cases h
 refine callsIn_of_wp Tryz.func83 rfl trivial ?_ rfl;simp only [Tryz.ntmps83,List.size_toArray,List.length_cons,List.length_nil,Nat.reduceAdd,Nat.reduceSub,Array.replicate_succ,Array.replicate_zero,List.push_toArray,List.append_toArray,List.nil_append,List.cons_append]
 gi_wp2_with fail
 refine ⟨trivial,hdd _,?_⟩;refine (HVIS.out _ 0 [] W (Nat.lt_succ_self _) HV.out H0.out (by simp) (by omega) (by omega)).mono ?_;rintro e W1 (⟨rfl,q,hq,hJ1,-⟩ | ⟨rfl,q,hq,hx1⟩)
 · have HQ:=Lib.hid hq;have HJ1:=Lib.hid hJ1;clear hq hJ1
   gi_wp2_with fail
   go_end0
   exact ⟨⟨_,rfl⟩,.inl ⟨q,HQ.out,HJ1.out⟩⟩
 · have HQ:=Lib.hid hq;have HX1:=Lib.hid hx1;clear hq hx1
   gi_wp2_with fail
   go_end0
   exact ⟨⟨_,rfl⟩,.inr ⟨q,HQ.out,HX1.out⟩⟩
end Go.Proofs.YtopddaabiinboaaGreat

/- Small matrices: their polynomials, and those of their normal forms. -/
namespace Go.Proofs.YtopddaabiinboaaGreat
open Go.RowKit
end Go.Proofs.YtopddaabiinboaaGreat

/- The polynomials of a matrix, one by one. -/
namespace Go.Proofs.YtopddaabiinboaaGreat
open Go.RowKit
end Go.Proofs.YtopddaabiinboaaGreat

/- Short lists. -/
namespace Go.Proofs.YtopddaabiinboaaGreat
open Go.RowKit
theorem len0 {α:Type} {l:List α} (h:l.length=0):l=[]:=List.eq_nil_of_length_eq_zero h
theorem len1 {α:Type} {l:List α} (h:l.length=1):∃ x,l=[x]:=by
 cases l with
 | nil=>simp at h
 | cons x r=>exact ⟨x,by rw [len0 (l:=r) (by simpa using h)]⟩
theorem kia {α:Type} {l:List α} (h:l.length=2):∃ x y,l=[x,y]:=by
 cases l with
 | nil=>simp at h
 | cons x r =>
   obtain ⟨y,rfl⟩:=len1 (l:=r) (by simpa using h);exact ⟨x,y,rfl⟩
end Go.Proofs.YtopddaabiinboaaGreat

/- Reading the arguments: numbers. -/
namespace Go.Proofs.YtopddaabiinboaaGreat
open Go.ChangeShapes Go.WideShapes Go.RowKit
theorem cell_lt {w:World} {a:Addr} {v:Value} (h:w.cell? a=some v):a.block < w.heap.size:=by
 unfold World.cell? at h
 split at h
 · rename_i hh;exact (Array.getElem?_eq_some_iff.1 hh).1
 · cases h
theorem xhc (a:Addr) (n:Nat):a.add (n+1)=⟨a.block,a.off+(n+1),none⟩:=by simp [Addr.add]
theorem xg4 (a:Addr):a.add 0=a:=by simp [Addr.add]
theorem jia {α:Type} {l:List α} (h:l.length=3):∃ x y z,l=[x,y,z]:=by
 cases l with
 | nil=>simp at h
 | cons x r =>
   obtain ⟨y,z,rfl⟩:=kia (l:=r) (by simpa using h);exact ⟨x,y,z,rfl⟩
theorem whw {α:Type} {l:List α} (h:l.length=4):∃ x y z u,l=[x,y,z,u]:=by
 cases l with
 | nil=>simp at h
 | cons x r =>
   obtain ⟨y,z,u,rfl⟩:=jia (l:=r) (by simpa using h);exact ⟨x,y,z,u,rfl⟩
theorem len8 {α:Type} {l:List α} (h:l.length=8):∃ a b c d e f g i,l=[a,b,c,d,e,f,g,i]:=by
 obtain ⟨a,b,c,d,h1⟩:=whw (l:=l.take 4) (by rw [List.length_take]; omega);obtain ⟨e,f,g,i,h2⟩:=whw (l:=l.drop 4) (by rw [List.length_drop]; omega);exact ⟨a,b,c,d,e,f,g,i,by rw [<- List.take_append_drop 4 l,h1,h2]; rfl⟩
section
variable {H:Type} {enc:TypeId × Value->H} {w:World} {sp:Nat->Bool} {held:Bool}
theorem whr {fuel:Nat} {cs:List Value} {x:DataW H × List MemPlace} (h:DataW.trod enc Tryz.prog w 0 sp held fuel 25 cs=some x):∃ A ds c,cs=[.slice A ds.length c]/\vc2 w (.slice A ds.length c) ds:=by
 rcases open_ints Tryz.underlying25 Tryz.underlying61 (by kernel_rfl) h with ⟨rfl,-⟩ | ⟨a,len,cap,zs,rfl,-,hlc,hcm,hzl,-,hcell,hwf⟩
 · exact ⟨none,[],0,rfl,vc2.nil w⟩
 · have hle:len<=zs.length:=by rw [hzl]; split <;> omega
   have hlen:((zs.take len).map Int.toNat).length=len:=by rw [List.length_map,List.length_take]; omega
   refine ⟨some a,(zs.take len).map Int.toNat,cap,by rw [hlen],?_⟩;refine ⟨some a,cap,rfl,by rw [hlen]; exact hlc,by unfold maxLen at hcm; omega,?_,fun hp=>⟨a,rfl,?_,?_⟩⟩
   · intro d hd;obtain ⟨z,hz,rfl⟩:=List.mem_map.1 hd;have:=bounds_u32 (hwf z (List.mem_of_mem_take hz));show z.toNat < 4294967296;omega
   · rw [hlen] at hp;have:=cell_lt (hcell 0 (by omega))
     rwa [xg4] at this
   · intro j hj;rw [hlen] at hj;have hj2:j < zs.length:=by omega
     rw [hcell j hj2];have hb:=bounds_u32 (hwf zs[j] (List.getElem_mem hj2));simp only [List.getElem_map,List.getElem_take];rw [List.getD_eq_getElem?_getD,List.getElem?_eq_getElem hj2];simp only [Option.getD_some]
     congr 2
     omega
theorem zho {fuel:Nat} {cs:List Value} {x:DataW H × List MemPlace} (h:DataW.trod enc Tryz.prog w 0 sp held fuel 27 cs=some x):∃ neg A ds c,cs=[.bool neg,.slice A ds.length c]/\vc2 w (.slice A ds.length c) ds:=by
 obtain ⟨xs,n,rfl,-,hl,hx,hf⟩:=DataW.trod_struct Tryz.underlying27 h;have hl2:cs.length=2:=hl.trans (by kernel_rfl);have hx2:xs.length=2:=hx;obtain ⟨c0,c1,rfl⟩:=kia hl2;obtain ⟨x0,x1,rfl⟩:=kia hx2;have f0:DataW.trod enc Tryz.prog w 0 sp held n 4 ((List.drop 0 [c0,c1]).take (Tryz.prog.cellsOf 4))=some x0:=hf 0 _ rfl;have f1:DataW.trod enc Tryz.prog w 0 sp held n 25 ((List.drop 1 [c0,c1]).take (Tryz.prog.cellsOf 25))=some x1:=hf 1 _ rfl;rw [show Tryz.prog.cellsOf 4=1 by kernel_rfl] at f0;rw [show Tryz.prog.cellsOf 25=1 by kernel_rfl] at f1;simp only [List.drop_zero,List.drop_succ_cons,List.take_succ_cons,List.take_zero,List.getElem?_cons_zero,List.getElem?_cons_succ] at f0 f1;obtain ⟨b,e,-⟩:=DataW.trod_bool Tryz.underlying4 f0;obtain ⟨A,ds,c,e1,hn⟩:=whr f1;simp only [List.cons.injEq,and_true] at e e1;exact ⟨b,A,ds,c,by rw [e,e1],hn⟩
end
end Go.Proofs.YtopddaabiinboaaGreat

/- Reading the arguments: polynomials and matrices that came in. -/
set_option maxRecDepth 100000
set_option maxHeartbeats 8000000
namespace Go.Proofs.YtopddaabiinboaaGreat
open Go.ChangeShapes Go.WideShapes Go.RowKit
section
variable {H:Type} {enc:TypeId × Value->H} {w:World} {sp:Nat->Bool} {held:Bool}
theorem uiv {a:Addr} {r:Pl × Value × Value} (h:w.cells? 0 a 4=some (plC r)):xgu w a r.1 r.2.1 r.2.2/\a.block < w.heap.size:=by
 have hc:=(World.cells?_some h).2.2;have c0:=hc 0 (by omega);have c1:=hc 1 (by omega);have c2:=hc 2 (by omega);have c3:=hc 3 (by omega);rw [xg4] at c0;rw [xhc] at c1 c2 c3;exact ⟨⟨c0,c1,c2,c3⟩,cell_lt c0⟩
theorem vie (fuel:Nat):∀ (cs:List Value) (x:DataW H × List MemPlace),DataW.trod enc Tryz.prog w 0 sp held fuel 30 cs=some x->∃ r:Pl × Value × Value,cs=plC r/\PlV w (fun _=>True) r.1 (plV r.1 r.2.1 r.2.2):=by
 induction fuel using Nat.strongRecOn with
 | _ fuel ih =>
 intro cs x h;obtain ⟨xs,n,rfl,-,hl,hx,hf⟩:=DataW.trod_struct Tryz.underlying30 h;have hk:Tryz.prog.cellsOf 30=4:=by kernel_rfl
 have hl2:cs.length=4:=hl.trans hk;have hx2:xs.length=3:=hx;obtain ⟨c0,c1,c2,c3,rfl⟩:=whw hl2;obtain ⟨x0,x1,x2,rfl⟩:=jia hx2;have f0:DataW.trod enc Tryz.prog w 0 sp held n 3 ((List.drop 0 [c0,c1,c2,c3]).take (Tryz.prog.cellsOf 3))=some x0:=hf 0 _ rfl;have f1:DataW.trod enc Tryz.prog w 0 sp held n 27 ((List.drop 1 [c0,c1,c2,c3]).take (Tryz.prog.cellsOf 27))=some x1:=hf 1 _ rfl;have f2:DataW.trod enc Tryz.prog w 0 sp held n 28 ((List.drop 3 [c0,c1,c2,c3]).take (Tryz.prog.cellsOf 28))=some x2:=hf 2 _ rfl;rw [show Tryz.prog.cellsOf 3=1 by kernel_rfl] at f0;rw [show Tryz.prog.cellsOf 27=2 by kernel_rfl] at f1;rw [show Tryz.prog.cellsOf 28=1 by kernel_rfl] at f2;simp only [List.drop_zero,List.drop_succ_cons,List.take_succ_cons,List.take_zero,List.getElem?_cons_zero,List.getElem?_cons_succ] at f0 f1 f2;obtain ⟨lv,e0,-⟩:=DataW.trod_int Tryz.underlying3 f0;obtain ⟨neg,A,ds,c,e1,hn⟩:=zho f1;simp only [List.cons.injEq,and_true] at e0 e1;obtain ⟨e1,e2⟩:=e1;have hkids:∃ ks B m,c3=.slice B ks.length m/\ks.length<=m/\m<=9223372036854775807/\kc3 w (fun _=>True) ks B 0:=by
  rcases DataW.trod_slice Tryz.underlying28 f2 with ⟨e8,-⟩ | ⟨a,len,cap,elems,rest,n',hfu,e8,-,-,hlc,hcm,hel,hat,-⟩
  · simp only [List.cons.injEq,and_true] at e8;exact ⟨[],none,0,e8,by simp,by omega,by unfold kc3; trivial⟩
  · simp only [List.cons.injEq,and_true] at e8;rw [hk] at hat;have each:∀ i:Nat,∃ t:Pl,i < len->∃ s K,xgu w (a.add (i * 4)) t s K/\a.block < w.heap.size/\PlV w (fun _=>True) t (plV t s K):=by
     intro i
     by_cases hi:i < len
     · have h1:=hat i hi;rw [List.getElem?_eq_getElem (by omega)] at h1;obtain ⟨cs',hc,ht⟩:=Option.bind_eq_some_iff.1 h1;obtain ⟨r,rfl,hr⟩:=ih n' (by omega) cs' _ ht;obtain ⟨h2,h3⟩:=uiv hc;rw [uc2] at h3;exact ⟨r.1,fun _=>⟨r.2.1,r.2.2,h2,h3,hr⟩⟩
     · exact ⟨Pl.zero,fun h=>absurd h hi⟩
    refine ⟨(List.range len).map (fun i=>Classical.choose (each i)),some a,cap,by simpa using e8,by simpa using hlc,by unfold maxLen at hcm; omega,kc3.of _ _ _ fun i hi=>?_⟩;simp only [List.length_map,List.length_range] at hi;obtain ⟨s,K,h1,h2,h3⟩:=Classical.choose_spec (each i) hi;simp only [List.getElem_map,List.getElem_range,Nat.zero_add];exact ⟨a,s,K,rfl,h2,trivial,h1,h3⟩
 obtain ⟨ks,B,m,e8,hm1,hm2,hat⟩:=hkids;refine ⟨(.mk lv neg ds ks,c2,c3),?_,?_⟩
 · unfold plC;rw [e0,e1]
   rfl
 · have:=PlV.mk (w:=w) (p:=fun _=>True) (t:=.mk lv neg ds ks) (s:=c2) (A:=B) (c:=m) (by rw [e2]; exact hn) hm1 hm2 hat;rw [e8];exact this
theorem giv {a:Addr} {r:Mx × Value × Value × Value} (h:w.cells? 0 a 7=some (mxC r)):qg0 w a r.1 r.2.1 r.2.2.1 r.2.2.2/\a.block < w.heap.size:=by
 have hc:=(World.cells?_some h).2.2;have c0:=hc 0 (by omega);have c1:=hc 1 (by omega);have c2:=hc 2 (by omega);have c3:=hc 3 (by omega);have c4:=hc 4 (by omega);have c5:=hc 5 (by omega);have c6:=hc 6 (by omega);rw [xg4] at c0;rw [xhc] at c1 c2 c3 c4 c5 c6;exact ⟨⟨c0,c1,c2,c3,c4,c5,c6⟩,cell_lt c0⟩
theorem xg5 {α:Type} {l:List α} (h:l.length=7):∃ a b c d e f g,l=[a,b,c,d,e,f,g]:=by
 obtain ⟨a,b,c,d,h1⟩:=whw (l:=l.take 4) (by rw [List.length_take]; omega);obtain ⟨e,f,g,h2⟩:=jia (l:=l.drop 4) (by rw [List.length_drop]; omega);exact ⟨a,b,c,d,e,f,g,by rw [<- List.take_append_drop 4 l,h1,h2]; rfl⟩
theorem vh0 (fuel:Nat):∀ (cs:List Value) (x:DataW H × List MemPlace),DataW.trod enc Tryz.prog w 0 sp held fuel 50 cs=some x->∃ r:Mx × Value × Value × Value,cs=mxC r/\MxV w (fun _=>True) r.1 (mxV r.1 r.2.1 r.2.2.1 r.2.2.2):=by
 induction fuel using Nat.strongRecOn with
 | _ fuel ih =>
 intro cs x h;obtain ⟨xs,n,rfl,-,hl,hx,hf⟩:=DataW.trod_struct Tryz.underlying50 h;have hk:Tryz.prog.cellsOf 50=7:=by kernel_rfl
 have hl2:cs.length=7:=hl.trans hk;have hx2:xs.length=4:=hx;obtain ⟨c0,c1,c2,c3,c4,c5,c6,rfl⟩:=xg5 hl2;obtain ⟨x0,x1,x2,x3,rfl⟩:=whw hx2;have f0:DataW.trod enc Tryz.prog w 0 sp held n 3 ((List.drop 0 [c0,c1,c2,c3,c4,c5,c6]).take (Tryz.prog.cellsOf 3))=some x0:=hf 0 _ rfl;have f1:DataW.trod enc Tryz.prog w 0 sp held n 44 ((List.drop 1 [c0,c1,c2,c3,c4,c5,c6]).take (Tryz.prog.cellsOf 44))=some x1:=hf 1 _ rfl;have f2:DataW.trod enc Tryz.prog w 0 sp held n 30 ((List.drop 2 [c0,c1,c2,c3,c4,c5,c6]).take (Tryz.prog.cellsOf 30))=some x2:=hf 2 _ rfl;have f3:DataW.trod enc Tryz.prog w 0 sp held n 48 ((List.drop 6 [c0,c1,c2,c3,c4,c5,c6]).take (Tryz.prog.cellsOf 48))=some x3:=hf 3 _ rfl;rw [show Tryz.prog.cellsOf 3=1 by kernel_rfl] at f0;rw [show Tryz.prog.cellsOf 44=1 by kernel_rfl] at f1;rw [show Tryz.prog.cellsOf 30=4 by kernel_rfl] at f2;rw [show Tryz.prog.cellsOf 48=1 by kernel_rfl] at f3;simp only [List.drop_zero,List.drop_succ_cons,List.take_succ_cons,List.take_zero,List.getElem?_cons_zero,List.getElem?_cons_succ] at f0 f1 f2 f3;obtain ⟨kind,e0,-⟩:=DataW.trod_int Tryz.underlying3 f0;obtain ⟨rel,e1,-⟩:=DataW.trod_int Tryz.underlying44 f1;obtain ⟨⟨pl,ps,pA⟩,e2,hp⟩:=vie n _ _ f2;simp only [plC,List.cons.injEq,and_true] at e0 e1 e2;obtain ⟨e2,e3,e4,e5⟩:=e2;have hkids:∃ ks B m,c6=.slice B ks.length m/\ks.length<=m/\m<=9223372036854775807/\zc6 w (fun _=>True) ks B 0:=by
  rcases DataW.trod_slice Tryz.underlying48 f3 with ⟨e8,-⟩ | ⟨a,len,cap,elems,rest,n',hfu,e8,-,-,hlc,hcm,hel,hat,-⟩
  · simp only [List.cons.injEq,and_true] at e8;exact ⟨[],none,0,e8,by simp,by omega,by unfold zc6; trivial⟩
  · simp only [List.cons.injEq,and_true] at e8;rw [hk] at hat;have each:∀ i:Nat,∃ t:Mx,i < len->∃ s A K,qg0 w (a.add (i * 7)) t s A K/\a.block < w.heap.size/\MxV w (fun _=>True) t (mxV t s A K):=by
     intro i
     by_cases hi:i < len
     · have h1:=hat i hi;rw [List.getElem?_eq_getElem (by omega)] at h1;obtain ⟨cs',hc,ht⟩:=Option.bind_eq_some_iff.1 h1;obtain ⟨r,rfl,hr⟩:=ih n' (by omega) cs' _ ht;obtain ⟨h2,h3⟩:=giv hc;rw [uc2] at h3;exact ⟨r.1,fun _=>⟨r.2.1,r.2.2.1,r.2.2.2,h2,h3,hr⟩⟩
     · exact ⟨.mk 0 0 Pl.zero [],fun h=>absurd h hi⟩
    refine ⟨(List.range len).map (fun i=>Classical.choose (each i)),some a,cap,by simpa using e8,by simpa using hlc,by unfold maxLen at hcm; omega,zc6.of _ _ _ fun i hi=>?_⟩;simp only [List.length_map,List.length_range] at hi;obtain ⟨s,A,K,h1,h2,h3⟩:=Classical.choose_spec (each i) hi;simp only [List.getElem_map,List.getElem_range,Nat.zero_add];exact ⟨a,s,A,K,rfl,h2,trivial,h1,h3⟩
 obtain ⟨ks,B,m,e8,hm1,hm2,hat⟩:=hkids;refine ⟨(.mk kind rel pl ks,c4,c5,c6),?_,?_⟩
 · unfold mxC;rw [e0,e1,e2,e3]
   rfl
 · have:=MxV.mk (w:=w) (p:=fun _=>True) (t:=.mk kind rel pl ks) (s:=c4) (A:=c5) (K:=B) (c:=m) (by rw [e4,e5]; exact hp) hm1 hm2 hat;rw [e8];exact this
theorem vh2 {r:Reach} {b0:Nat} {v:Value} {d:DataW H} {ps:List MemPlace} (hval:Value.okWide Tryz.prog w r b0 50 v) (h:DataW.Trod enc Tryz.prog w 0 sp held 50 v d ps):∃ t,MxV w (fun _=>True) t v:=by
 obtain ⟨fuel,h⟩:=h;obtain ⟨r,e,ht⟩:=vh0 fuel _ _ h;simp only [Value.okWide,Tryz.underlying50] at hval;obtain ⟨cs,rfl,-⟩:=hval;refine ⟨r.1,?_⟩;have:Value.agg cs=mxV r.1 r.2.1 r.2.2.1 r.2.2.2:=by
  unfold mxV
  congr 1
  exact Array.toList_inj.1 e
 rw [this]; exact ht
end
end Go.Proofs.YtopddaabiinboaaGreat

/- The last step of every law that leaves its arguments alone. -/
namespace Go.Proofs.YtopddaabiinboaaGreat
open Go.ChangeShapes Go.WideShapes Go.ChangeAt Go.RowKit
theorem yiq {H : Type} {enc : TypeId × Value -> H} {P : Program} {f : Func} {s : ChangeSpec} {apart fresh handsOn again : Bool} {W W' : World} {args : Array Value} {v : Value} {ds gs : List (DataW H)} {before pa pv : List MemPlace}
 (hW:DataW.Whole enc P f.params.toList s.vars apart W args.toList ds gs before) (hx:Ext W W')
 (hres:∀ (b:Nat) (sp:Nat->Bool) (hd:Bool),DataW.TrodAll enc P W' b sp hd f.resultTypes.toList (v.resultList f.resultTypes.size) (s.fn H (ds ++ gs)).results [])
 (hargs:∀ sp:Nat->Bool,(∀ p ∈ before,sp p.block=true)->DataW.TrodAll enc P W' 0 sp true f.params.toList args.toList (s.fn H (ds ++ gs)).args pa)
 (hvars:∀ sp:Nat->Bool,(∀ p ∈ before,sp p.block=true)->DataW.TrodVars enc P W' sp s.vars (s.fn H (ds ++ gs)).vars pv) (hps:before=pa ++ pv)
 (hok:∀ (j:Nat) (t:TypeId) (r:Value),f.resultTypes[j]?=some t->(v.resultList f.resultTypes.size)[j]?=some r->Value.okWide P W' .any 0 t r) :
 s.post enc P f apart fresh handsOn again W args v W':=by
 have low:∀ p ∈ before,p.block < W.heap.size:=fun p hp=>hW.lt p hp
 have old:∀ p ∈ before,(fun b=>decide (b < W.heap.size)) p.block=true:=fun p hp=>by simpa using low p hp
 refine ⟨ds,gs,before,[],pa,pv,hW,hres _ _ _,hargs _ old,hvars _ old,World.keptBut_mono (fun p hp=>⟨hp,?_⟩) (Below.frame hx (· ∈ before)),fun _=>?_⟩
 · exact .inr (List.mem_append.1 (hps ▸ hp))
 · obtain ⟨_,_,_,_,_,hz,hn⟩:=hW;refine ⟨hok,_,_,([] ++ pa) ++ pv,⟨[] ++ pa,pv,trodAll_append (hargs _ (fun _ _=>rfl)) (hres _ _ _),hvars _ (fun _ _=>rfl),rfl,fun b off hp=>?_,fun ha=>?_⟩,?_⟩
   · have hin:MemPlace.cell b off ∈ before:=by rw [hps]; simpa using hp
     rw [hx.frozen (low _ hin)];exact hz b off hin
   · have h:=hn ha;rw [hps] at h;simpa using h
   · exact fun p hp _=>by rw [hps]; simpa using hp
theorem uiq:ownKnob Tryz.prog.godebug=none:=by kernel_rfl
theorem gir:laidOutB Tryz.prog=true:=by kernel_rfl
theorem jhq {H:Type} {enc:TypeId × Value->H} {W W':World} {t:TypeId} (hr:Tryz.prog.readableRec t=true) (hrow:t < Tryz.prog.types.size) {v:Value} {d:DataW H} {ps:List MemPlace} (h:DataW.Trod enc Tryz.prog W 0 (fun _=>true) true t v d ps) (hx:Ext W W') (hlt:∀ x ∈ ps,x.block < W.heap.size) {sp:Nat->Bool} (hs:∀ x ∈ ps,sp x.block=true):DataW.Trod enc Tryz.prog W' 0 sp true t v d ps:=
 WideElems.Trod_stays gir hr hrow h (fun x hx'=>Below.same hx (hlt x hx')) hs
end Go.Proofs.YtopddaabiinboaaGreat
