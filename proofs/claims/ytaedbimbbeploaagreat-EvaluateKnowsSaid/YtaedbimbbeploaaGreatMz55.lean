/- EvaluateKnows: for every matrix, every four fractions and every whole number the statement answers true, and the arguments stay as they are. No condition. -/
import Derived.Test.YtaedbimbbeploaaGreatMz0
import Derived.Test.YtaedbimbbeploaaGreatMz36
import Derived.Deep.Slices
import Derived.ChangeSlices
import Derived.Carry
import Derived.OpenShut
import Derived.ProofKit
import Derived.Test.YtaedbimbbeploaaGreatMz39
import Derived.Test.YtaedbimbbeploaaGreatMz45
import Derived.Test.YtaedbimbbeploaaGreatMz53
import Derived.WalkKit
import Derived.Below
import Derived.ChangeSame
import Derived.Test.YtaedbimbbeploaaGreatRows
import Derived.Test.YtaedbimbbeploaaGreatMz54
set_option linter.unusedSimpArgs false
set_option linter.unusedVariables false

namespace Go.Proofs.YtaedbimbbeploaaGreat
open Go.RowKit
theorem len0 {α:Type} {l:List α} (h:l.length=0):l=[]:=List.eq_nil_of_length_eq_zero h
theorem len1 {α:Type} {l:List α} (h:l.length=1):∃ x,l=[x]:=by
 cases l with
 | nil=>simp at h
 | cons x r=>exact ⟨x,by rw [len0 (l:=r) (by simpa using h)]⟩
theorem jbs {α:Type} {l:List α} (h:l.length=2):∃ x y,l=[x,y]:=by
 cases l with
 | nil=>simp at h
 | cons x r =>
   obtain ⟨y,rfl⟩:=len1 (l:=r) (by simpa using h);exact ⟨x,y,rfl⟩
end Go.Proofs.YtaedbimbbeploaaGreat

/- Reading the arguments: numbers. -/
namespace Go.Proofs.YtaedbimbbeploaaGreat
open Go.ChangeShapes Go.WideShapes Go.RowKit
theorem cell_lt {w:World} {a:Addr} {v:Value} (h:w.cell? a=some v):a.block < w.heap.size:=by
 unfold World.cell? at h
 split at h
 · rename_i hh;exact (Array.getElem?_eq_some_iff.1 hh).1
 · cases h
theorem ybb (a:Addr) (n:Nat):a.add (n+1)=⟨a.block,a.off+(n+1),none⟩:=by simp [Addr.add]
theorem xax (a:Addr):a.add 0=a:=by simp [Addr.add]
theorem qbs {α:Type} {l:List α} (h:l.length=3):∃ x y z,l=[x,y,z]:=by
 cases l with
 | nil=>simp at h
 | cons x r =>
   obtain ⟨y,z,rfl⟩:=jbs (l:=r) (by simpa using h);exact ⟨x,y,z,rfl⟩
theorem jbg {α:Type} {l:List α} (h:l.length=4):∃ x y z u,l=[x,y,z,u]:=by
 cases l with
 | nil=>simp at h
 | cons x r =>
   obtain ⟨y,z,u,rfl⟩:=qbs (l:=r) (by simpa using h);exact ⟨x,y,z,u,rfl⟩
theorem len8 {α:Type} {l:List α} (h:l.length=8):∃ a b c d e f g i,l=[a,b,c,d,e,f,g,i]:=by
 obtain ⟨a,b,c,d,h1⟩:=jbg (l:=l.take 4) (by rw [List.length_take]; omega);obtain ⟨e,f,g,i,h2⟩:=jbg (l:=l.drop 4) (by rw [List.length_drop]; omega);exact ⟨a,b,c,d,e,f,g,i,by rw [<- List.take_append_drop 4 l,h1,h2]; rfl⟩
section
variable {H:Type} {enc:TypeId × Value->H} {w:World} {sp:Nat->Bool} {held:Bool}
theorem wbb {fuel:Nat} {cs:List Value} {x:DataW H × List MemPlace} (h:DataW.trod enc Tryz.prog w 0 sp held fuel 24 cs=some x):∃ A ds c,cs=[.slice A ds.length c]/\ja w (.slice A ds.length c) ds:=by
 rcases open_ints Tryz.underlying24 Tryz.underlying62 (by kernel_rfl) h with ⟨rfl,-⟩ | ⟨a,len,cap,zs,rfl,-,hlc,hcm,hzl,-,hcell,hwf⟩
 · exact ⟨none,[],0,rfl,ja.nil w⟩
 · have hle:len<=zs.length:=by rw [hzl]; split <;> omega
   have hlen:((zs.take len).map Int.toNat).length=len:=by rw [List.length_map,List.length_take]; omega
   refine ⟨some a,(zs.take len).map Int.toNat,cap,by rw [hlen],?_⟩;refine ⟨some a,cap,rfl,by rw [hlen]; exact hlc,by unfold maxLen at hcm; omega,?_,fun hp=>⟨a,rfl,?_,?_⟩⟩
   · intro d hd;obtain ⟨z,hz,rfl⟩:=List.mem_map.1 hd;have:=bounds_u32 (hwf z (List.mem_of_mem_take hz));show z.toNat < 4294967296;omega
   · rw [hlen] at hp;have:=cell_lt (hcell 0 (by omega))
     rwa [xax] at this
   · intro j hj;rw [hlen] at hj;have hj2:j < zs.length:=by omega
     rw [hcell j hj2];have hb:=bounds_u32 (hwf zs[j] (List.getElem_mem hj2));simp only [List.getElem_map,List.getElem_take];rw [List.getD_eq_getElem?_getD,List.getElem?_eq_getElem hj2];simp only [Option.getD_some]
     congr 2
     omega
theorem va8 {fuel:Nat} {cs:List Value} {x:DataW H × List MemPlace} (h:DataW.trod enc Tryz.prog w 0 sp held fuel 26 cs=some x):∃ neg A ds c,cs=[.bool neg,.slice A ds.length c]/\ja w (.slice A ds.length c) ds:=by
 obtain ⟨xs,n,rfl,-,hl,hx,hf⟩:=DataW.trod_struct Tryz.underlying26 h;have hl2:cs.length=2:=hl.trans (by kernel_rfl);have hx2:xs.length=2:=hx;obtain ⟨c0,c1,rfl⟩:=jbs hl2;obtain ⟨x0,x1,rfl⟩:=jbs hx2;have f0:DataW.trod enc Tryz.prog w 0 sp held n 4 ((List.drop 0 [c0,c1]).take (Tryz.prog.cellsOf 4))=some x0:=hf 0 _ rfl;have f1:DataW.trod enc Tryz.prog w 0 sp held n 24 ((List.drop 1 [c0,c1]).take (Tryz.prog.cellsOf 24))=some x1:=hf 1 _ rfl;rw [show Tryz.prog.cellsOf 4=1 by kernel_rfl] at f0;rw [show Tryz.prog.cellsOf 24=1 by kernel_rfl] at f1;simp only [List.drop_zero,List.drop_succ_cons,List.take_succ_cons,List.take_zero,List.getElem?_cons_zero,List.getElem?_cons_succ] at f0 f1;obtain ⟨b,e,-⟩:=DataW.trod_bool Tryz.underlying4 f0;obtain ⟨A,ds,c,e1,hn⟩:=wbb f1;simp only [List.cons.injEq,and_true] at e e1;exact ⟨b,A,ds,c,by rw [e,e1],hn⟩
end
end Go.Proofs.YtaedbimbbeploaaGreat

/- Reading the arguments: polynomials and matrices that came in. -/
set_option maxRecDepth 100000
set_option maxHeartbeats 8000000
namespace Go.Proofs.YtaedbimbbeploaaGreat
open Go.ChangeShapes Go.WideShapes Go.RowKit
section
variable {H:Type} {enc:TypeId × Value->H} {w:World} {sp:Nat->Bool} {held:Bool}
theorem ycc {a:Addr} {r:Pl × Value × Value} (h:w.cells? 0 a 4=some (plC r)):jai w a r.1 r.2.1 r.2.2/\a.block < w.heap.size:=by
 have hc:=(World.cells?_some h).2.2;have c0:=hc 0 (by omega);have c1:=hc 1 (by omega);have c2:=hc 2 (by omega);have c3:=hc 3 (by omega);rw [xax] at c0;rw [ybb] at c1 c2 c3;exact ⟨⟨c0,c1,c2,c3⟩,cell_lt c0⟩
theorem gbv (fuel:Nat):∀ (cs:List Value) (x:DataW H × List MemPlace),DataW.trod enc Tryz.prog w 0 sp held fuel 29 cs=some x->∃ r:Pl × Value × Value,cs=plC r/\PlV w (fun _=>True) r.1 (plV r.1 r.2.1 r.2.2):=by
 induction fuel using Nat.strongRecOn with
 | _ fuel ih =>
 intro cs x h;obtain ⟨xs,n,rfl,-,hl,hx,hf⟩:=DataW.trod_struct Tryz.underlying29 h;have hk:Tryz.prog.cellsOf 29=4:=by kernel_rfl
 have hl2:cs.length=4:=hl.trans hk;have hx2:xs.length=3:=hx;obtain ⟨c0,c1,c2,c3,rfl⟩:=jbg hl2;obtain ⟨x0,x1,x2,rfl⟩:=qbs hx2;have f0:DataW.trod enc Tryz.prog w 0 sp held n 3 ((List.drop 0 [c0,c1,c2,c3]).take (Tryz.prog.cellsOf 3))=some x0:=hf 0 _ rfl;have f1:DataW.trod enc Tryz.prog w 0 sp held n 26 ((List.drop 1 [c0,c1,c2,c3]).take (Tryz.prog.cellsOf 26))=some x1:=hf 1 _ rfl;have f2:DataW.trod enc Tryz.prog w 0 sp held n 27 ((List.drop 3 [c0,c1,c2,c3]).take (Tryz.prog.cellsOf 27))=some x2:=hf 2 _ rfl;rw [show Tryz.prog.cellsOf 3=1 by kernel_rfl] at f0;rw [show Tryz.prog.cellsOf 26=2 by kernel_rfl] at f1;rw [show Tryz.prog.cellsOf 27=1 by kernel_rfl] at f2;simp only [List.drop_zero,List.drop_succ_cons,List.take_succ_cons,List.take_zero,List.getElem?_cons_zero,List.getElem?_cons_succ] at f0 f1 f2;obtain ⟨lv,e0,-⟩:=DataW.trod_int Tryz.underlying3 f0;obtain ⟨neg,A,ds,c,e1,hn⟩:=va8 f1;simp only [List.cons.injEq,and_true] at e0 e1;obtain ⟨e1,e2⟩:=e1;have hkids:∃ ks B m,c3=.slice B ks.length m/\ks.length<=m/\m<=9223372036854775807/\jg w (fun _=>True) ks B 0:=by
  rcases DataW.trod_slice Tryz.underlying27 f2 with ⟨e8,-⟩ | ⟨a,len,cap,elems,rest,n',hfu,e8,-,-,hlc,hcm,hel,hat,-⟩
  · simp only [List.cons.injEq,and_true] at e8;exact ⟨[],none,0,e8,by simp,by omega,by unfold jg; trivial⟩
  · simp only [List.cons.injEq,and_true] at e8;rw [hk] at hat;have each:∀ i:Nat,∃ t:Pl,i < len->∃ s K,jai w (a.add (i * 4)) t s K/\a.block < w.heap.size/\PlV w (fun _=>True) t (plV t s K):=by
     intro i
     by_cases hi:i < len
     · have h1:=hat i hi;rw [List.getElem?_eq_getElem (by omega)] at h1;obtain ⟨cs',hc,ht⟩:=Option.bind_eq_some_iff.1 h1;obtain ⟨r,rfl,hr⟩:=ih n' (by omega) cs' _ ht;obtain ⟨h2,h3⟩:=ycc hc;rw [jb] at h3;exact ⟨r.1,fun _=>⟨r.2.1,r.2.2,h2,h3,hr⟩⟩
     · exact ⟨Pl.zero,fun h=>absurd h hi⟩
    refine ⟨(List.range len).map (fun i=>Classical.choose (each i)),some a,cap,by simpa using e8,by simpa using hlc,by unfold maxLen at hcm; omega,jg.of _ _ _ fun i hi=>?_⟩;simp only [List.length_map,List.length_range] at hi;obtain ⟨s,K,h1,h2,h3⟩:=Classical.choose_spec (each i) hi;simp only [List.getElem_map,List.getElem_range,Nat.zero_add];exact ⟨a,s,K,rfl,h2,trivial,h1,h3⟩
 obtain ⟨ks,B,m,e8,hm1,hm2,hat⟩:=hkids;refine ⟨(.mk lv neg ds ks,c2,c3),?_,?_⟩
 · unfold plC;rw [e0,e1]
   rfl
 · have:=PlV.mk (w:=w) (p:=fun _=>True) (t:=.mk lv neg ds ks) (s:=c2) (A:=B) (c:=m) (by rw [e2]; exact hn) hm1 hm2 hat;rw [e8];exact this
theorem xcc {a:Addr} {r:Mx × Value × Value × Value} (h:w.cells? 0 a 7=some (mxC r)):kao w a r.1 r.2.1 r.2.2.1 r.2.2.2/\a.block < w.heap.size:=by
 have hc:=(World.cells?_some h).2.2;have c0:=hc 0 (by omega);have c1:=hc 1 (by omega);have c2:=hc 2 (by omega);have c3:=hc 3 (by omega);have c4:=hc 4 (by omega);have c5:=hc 5 (by omega);have c6:=hc 6 (by omega);rw [xax] at c0;rw [ybb] at c1 c2 c3 c4 c5 c6;exact ⟨⟨c0,c1,c2,c3,c4,c5,c6⟩,cell_lt c0⟩
theorem yas {α:Type} {l:List α} (h:l.length=7):∃ a b c d e f g,l=[a,b,c,d,e,f,g]:=by
 obtain ⟨a,b,c,d,h1⟩:=jbg (l:=l.take 4) (by rw [List.length_take]; omega);obtain ⟨e,f,g,h2⟩:=qbs (l:=l.drop 4) (by rw [List.length_drop]; omega);exact ⟨a,b,c,d,e,f,g,by rw [<- List.take_append_drop 4 l,h1,h2]; rfl⟩
theorem ybk (fuel:Nat):∀ (cs:List Value) (x:DataW H × List MemPlace),DataW.trod enc Tryz.prog w 0 sp held fuel 32 cs=some x->∃ r:Mx × Value × Value × Value,cs=mxC r/\MxV w (fun _=>True) r.1 (mxV r.1 r.2.1 r.2.2.1 r.2.2.2):=by
 induction fuel using Nat.strongRecOn with
 | _ fuel ih =>
 intro cs x h;obtain ⟨xs,n,rfl,-,hl,hx,hf⟩:=DataW.trod_struct Tryz.underlying32 h;have hk:Tryz.prog.cellsOf 32=7:=by kernel_rfl
 have hl2:cs.length=7:=hl.trans hk;have hx2:xs.length=4:=hx;obtain ⟨c0,c1,c2,c3,c4,c5,c6,rfl⟩:=yas hl2;obtain ⟨x0,x1,x2,x3,rfl⟩:=jbg hx2;have f0:DataW.trod enc Tryz.prog w 0 sp held n 3 ((List.drop 0 [c0,c1,c2,c3,c4,c5,c6]).take (Tryz.prog.cellsOf 3))=some x0:=hf 0 _ rfl;have f1:DataW.trod enc Tryz.prog w 0 sp held n 22 ((List.drop 1 [c0,c1,c2,c3,c4,c5,c6]).take (Tryz.prog.cellsOf 22))=some x1:=hf 1 _ rfl;have f2:DataW.trod enc Tryz.prog w 0 sp held n 29 ((List.drop 2 [c0,c1,c2,c3,c4,c5,c6]).take (Tryz.prog.cellsOf 29))=some x2:=hf 2 _ rfl;have f3:DataW.trod enc Tryz.prog w 0 sp held n 30 ((List.drop 6 [c0,c1,c2,c3,c4,c5,c6]).take (Tryz.prog.cellsOf 30))=some x3:=hf 3 _ rfl;rw [show Tryz.prog.cellsOf 3=1 by kernel_rfl] at f0;rw [show Tryz.prog.cellsOf 22=1 by kernel_rfl] at f1;rw [show Tryz.prog.cellsOf 29=4 by kernel_rfl] at f2;rw [show Tryz.prog.cellsOf 30=1 by kernel_rfl] at f3;simp only [List.drop_zero,List.drop_succ_cons,List.take_succ_cons,List.take_zero,List.getElem?_cons_zero,List.getElem?_cons_succ] at f0 f1 f2 f3;obtain ⟨kind,e0,-⟩:=DataW.trod_int Tryz.underlying3 f0;obtain ⟨rel,e1,-⟩:=DataW.trod_int Tryz.underlying22 f1;obtain ⟨⟨pl,ps,pA⟩,e2,hp⟩:=gbv n _ _ f2;simp only [plC,List.cons.injEq,and_true] at e0 e1 e2;obtain ⟨e2,e3,e4,e5⟩:=e2;have hkids:∃ ks B m,c6=.slice B ks.length m/\ks.length<=m/\m<=9223372036854775807/\ui w (fun _=>True) ks B 0:=by
  rcases DataW.trod_slice Tryz.underlying30 f3 with ⟨e8,-⟩ | ⟨a,len,cap,elems,rest,n',hfu,e8,-,-,hlc,hcm,hel,hat,-⟩
  · simp only [List.cons.injEq,and_true] at e8;exact ⟨[],none,0,e8,by simp,by omega,by unfold ui; trivial⟩
  · simp only [List.cons.injEq,and_true] at e8;rw [hk] at hat;have each:∀ i:Nat,∃ t:Mx,i < len->∃ s A K,kao w (a.add (i * 7)) t s A K/\a.block < w.heap.size/\MxV w (fun _=>True) t (mxV t s A K):=by
     intro i
     by_cases hi:i < len
     · have h1:=hat i hi;rw [List.getElem?_eq_getElem (by omega)] at h1;obtain ⟨cs',hc,ht⟩:=Option.bind_eq_some_iff.1 h1;obtain ⟨r,rfl,hr⟩:=ih n' (by omega) cs' _ ht;obtain ⟨h2,h3⟩:=xcc hc;rw [jb] at h3;exact ⟨r.1,fun _=>⟨r.2.1,r.2.2.1,r.2.2.2,h2,h3,hr⟩⟩
     · exact ⟨.mk 0 0 Pl.zero [],fun h=>absurd h hi⟩
    refine ⟨(List.range len).map (fun i=>Classical.choose (each i)),some a,cap,by simpa using e8,by simpa using hlc,by unfold maxLen at hcm; omega,ui.of _ _ _ fun i hi=>?_⟩;simp only [List.length_map,List.length_range] at hi;obtain ⟨s,A,K,h1,h2,h3⟩:=Classical.choose_spec (each i) hi;simp only [List.getElem_map,List.getElem_range,Nat.zero_add];exact ⟨a,s,A,K,rfl,h2,trivial,h1,h3⟩
 obtain ⟨ks,B,m,e8,hm1,hm2,hat⟩:=hkids;refine ⟨(.mk kind rel pl ks,c4,c5,c6),?_,?_⟩
 · unfold mxC;rw [e0,e1,e2,e3]
   rfl
 · have:=MxV.mk (w:=w) (p:=fun _=>True) (t:=.mk kind rel pl ks) (s:=c4) (A:=c5) (K:=B) (c:=m) (by rw [e4,e5]; exact hp) hm1 hm2 hat;rw [e8];exact this
theorem jbl {r:Reach} {b0:Nat} {v:Value} {d:DataW H} {ps:List MemPlace} (hval:Value.okWide Tryz.prog w r b0 32 v) (h:DataW.Trod enc Tryz.prog w 0 sp held 32 v d ps):∃ t,MxV w (fun _=>True) t v:=by
 obtain ⟨fuel,h⟩:=h;obtain ⟨r,e,ht⟩:=ybk fuel _ _ h;simp only [Value.okWide,Tryz.underlying32] at hval;obtain ⟨cs,rfl,-⟩:=hval;refine ⟨r.1,?_⟩;have:Value.agg cs=mxV r.1 r.2.1 r.2.2.1 r.2.2.2:=by
  unfold mxV
  congr 1
  exact Array.toList_inj.1 e
 rw [this]; exact ht
end
end Go.Proofs.YtaedbimbbeploaaGreat

/- Reading the arguments: a row of fractions that came in. -/
namespace Go.Proofs.YtaedbimbbeploaaGreat
open Go.ChangeShapes Go.WideShapes Go.RowKit
section
variable {H:Type} {enc:TypeId × Value->H} {w:World} {sp:Nat->Bool} {held:Bool}
theorem qat {fuel:Nat} {cs:List Value} {x:DataW H × List MemPlace} (h:DataW.trod enc Tryz.prog w 0 sp held fuel 34 cs=some x):∃ neg A ds c B es d,cs=[.bool neg,.slice A ds.length c,.slice B es.length d]/\ja w (.slice A ds.length c) ds/\ja w (.slice B es.length d) es:=by
 obtain ⟨xs,n,rfl,-,hl,hx,hf⟩:=DataW.trod_struct Tryz.underlying34 h;have hl2:cs.length=3:=hl.trans (by kernel_rfl);have hx2:xs.length=2:=hx;obtain ⟨c0,c1,c2,rfl⟩:=qbs hl2;obtain ⟨x0,x1,rfl⟩:=jbs hx2;have f0:DataW.trod enc Tryz.prog w 0 sp held n 26 ((List.drop 0 [c0,c1,c2]).take (Tryz.prog.cellsOf 26))=some x0:=hf 0 _ rfl;have f1:DataW.trod enc Tryz.prog w 0 sp held n 24 ((List.drop 2 [c0,c1,c2]).take (Tryz.prog.cellsOf 24))=some x1:=hf 1 _ rfl;rw [show Tryz.prog.cellsOf 26=2 by kernel_rfl] at f0;rw [show Tryz.prog.cellsOf 24=1 by kernel_rfl] at f1;simp only [List.drop_zero,List.drop_succ_cons,List.take_succ_cons,List.take_zero,List.getElem?_cons_zero,List.getElem?_cons_succ] at f0 f1;obtain ⟨neg,A,ds,c,e,hn⟩:=va8 f0;obtain ⟨B,es,d,e1,hn1⟩:=wbb f1;simp only [List.cons.injEq,and_true] at e e1;exact ⟨neg,A,ds,c,B,es,d,by rw [e.1,e.2,e1],hn,hn1⟩
end
end Go.Proofs.YtaedbimbbeploaaGreat

/- Reading the arguments: four fractions that came in. -/
set_option maxRecDepth 100000
set_option maxHeartbeats 8000000
namespace Go.Proofs.YtaedbimbbeploaaGreat
open Go.ChangeShapes Go.WideShapes Go.RowKit
theorem ycq {α:Type} {l:List α} (h:l.length=12):∃ a b c d e f g i j k m n,l=[a,b,c,d,e,f,g,i,j,k,m,n]:=by
 match l,h with
 | [a,b,c,d,e,f,g,i,j,k,m,n],_=>exact ⟨a,b,c,d,e,f,g,i,j,k,m,n,rfl⟩
section
variable {H:Type} {enc:TypeId × Value->H} {w:World} {sp:Nat->Bool} {held:Bool}
theorem ubr {r:Reach} {b0:Nat} {v:Value} {d:DataW H} {ps:List MemPlace} (hval:Value.okWide Tryz.prog w r b0 35 v) (h:DataW.Trod enc Tryz.prog w 0 sp held 35 v d ps):∃ cs x0 x1 x2 x3,v=.agg cs/\zbv w cs.toList x0 x1 x2 x3:=by
 obtain ⟨fuel,h⟩:=h;simp only [Value.okWide,Tryz.underlying35] at hval;obtain ⟨cs,rfl,-⟩:=hval;simp only [Value.cells] at h;obtain ⟨xs,n,rfl,-,hl,hx,hf⟩:=DataW.trod_array Tryz.underlying35 h;have hl2:cs.toList.length=12:=hl.trans (by kernel_rfl);obtain ⟨l,hcl⟩:∃ l,cs.toList=l:=⟨_,rfl⟩;rw [hcl] at hl2;simp only [hcl] at hf;obtain ⟨a0,a1,a2,a3,a4,a5,a6,a7,a8,a9,a10,a11,rfl⟩:=ycq hl2;rw [show Tryz.prog.cellsOf 34=3 by kernel_rfl] at hf;have f0:=hf 0 (by omega);have f1:=hf 1 (by omega);have f2:=hf 2 (by omega);have f3:=hf 3 (by omega);rw [List.getElem?_eq_getElem (by omega)] at f0 f1 f2 f3;simp only [Nat.zero_mul,Nat.reduceMul,List.drop_zero,List.drop_succ_cons,List.take_succ_cons,List.take_zero] at f0 f1 f2 f3;obtain ⟨n0,A0,ds0,c0,B0,es0,d0,e0,p0,q0⟩:=qat f0;obtain ⟨n1,A1,ds1,c1,B1,es1,d1,e1,p1,q1⟩:=qat f1;obtain ⟨n2,A2,ds2,c2,B2,es2,d2,e2,p2,q2⟩:=qat f2;obtain ⟨n3,A3,ds3,c3,B3,es3,d3,e3,p3,q3⟩:=qat f3;simp only [List.cons.injEq,and_true] at e0 e1 e2 e3;obtain ⟨rfl,rfl,rfl⟩:=e0;obtain ⟨rfl,rfl,rfl⟩:=e1;obtain ⟨rfl,rfl,rfl⟩:=e2;obtain ⟨rfl,rfl,rfl⟩:=e3;refine ⟨cs,⟨n0,ds0,es0⟩,⟨n1,ds1,es1⟩,⟨n2,ds2,es2⟩,⟨n3,ds3,es3⟩,rfl,A0,c0,B0,d0,A1,c1,B1,d1,A2,c2,B2,d2,A3,c3,B3,d3,?_,⟨p0,q0⟩,⟨p1,q1⟩,⟨p2,q2⟩,⟨p3,q3⟩⟩;exact hcl
end
end Go.Proofs.YtaedbimbbeploaaGreat

/- The last step of every law that leaves its arguments alone. -/
namespace Go.Proofs.YtaedbimbbeploaaGreat
open Go.ChangeShapes Go.WideShapes Go.ChangeAt Go.RowKit
theorem yb7 {H : Type} {enc : TypeId × Value -> H} {P : Program} {f : Func} {s : ChangeSpec} {apart fresh handsOn again : Bool} {W W' : World} {args : Array Value} {v : Value} {ds gs : List (DataW H)} {before pa pv : List MemPlace}
 (hW:DataW.Whole enc P f.params.toList s.vars apart W args.toList ds gs before) (hx:Ext W W')
 (hres:∀ (b:Nat) (sp:Nat->Bool) (hd:Bool),DataW.TrodAll enc P W' b sp hd f.resultTypes.toList (v.resultList f.resultTypes.size) (s.fn H (ds ++ gs)).results [])
 (hargs:∀ sp:Nat->Bool,(∀ p ∈ before,sp p.block=true)->DataW.TrodAll enc P W' 0 sp true f.params.toList args.toList (s.fn H (ds ++ gs)).args pa)
 (hvars:∀ sp:Nat->Bool,(∀ p ∈ before,sp p.block=true)->DataW.TrodVars enc P W' sp s.vars (s.fn H (ds ++ gs)).vars pv) (hps:before=pa ++ pv)
 (hok:∀ (j:Nat) (t:TypeId) (r:Value),f.resultTypes[j]?=some t->(v.resultList f.resultTypes.size)[j]?=some r->Value.okWide P W' .any 0 t r) :
 s.post enc P f apart fresh handsOn again W args v W':=by
 have low:∀ p ∈ before,p.block < W.heap.size:=fun p hp=>hW.lt p hp
 have old:∀ p ∈ before,(fun b=>decide (b < W.heap.size)) p.block=true:=fun p hp=>by simpa using low p hp
 refine ⟨ds,gs,before,[],pa,pv,hW,hres _ _ _,hargs _ old,hvars _ old,World.keptBut_mono (fun p hp=>⟨hp,?_⟩) (Below.frame hx (· ∈ before)),fun _=>?_⟩
 · exact .inr (List.mem_append.1 (hps ▸ hp))
 · obtain ⟨_,_,_,_,_,hz,hn⟩:=hW;refine ⟨hok,_,_,([] ++ pa) ++ pv,⟨[] ++ pa,pv,trodAll_append (hargs _ (fun _ _=>rfl)) (hres _ _ _),hvars _ (fun _ _=>rfl),rfl,fun b off hp=>?_,fun ha=>?_⟩,?_⟩
   · have hin:MemPlace.cell b off ∈ before:=by rw [hps]; simpa using hp
     rw [hx.frozen (low _ hin)];exact hz b off hin
   · have h:=hn ha;rw [hps] at h;simpa using h
   · exact fun p hp _=>by rw [hps]; simpa using hp
theorem zb8:ownKnob Tryz.prog.godebug=none:=by kernel_rfl
theorem xb9:laidOutB Tryz.prog=true:=by kernel_rfl
theorem wba {H:Type} {enc:TypeId × Value->H} {W W':World} {t:TypeId} (hr:Tryz.prog.readableRec t=true) (hrow:t < Tryz.prog.types.size) {v:Value} {d:DataW H} {ps:List MemPlace} (h:DataW.Trod enc Tryz.prog W 0 (fun _=>true) true t v d ps) (hx:Ext W W') (hlt:∀ x ∈ ps,x.block < W.heap.size) {sp:Nat->Bool} (hs:∀ x ∈ ps,sp x.block=true):DataW.Trod enc Tryz.prog W' 0 sp true t v d ps:=
 WideElems.Trod_stays xb9 hr hrow h (fun x hx'=>Below.same hx (hlt x hx')) hs
end Go.Proofs.YtaedbimbbeploaaGreat

/- EvaluateKnows: for every matrix, every four fractions and every whole number the statement answers true, and the arguments stay as they are. No condition. -/
set_option maxRecDepth 100000
set_option maxHeartbeats 8000000
namespace Go.Proofs.YtaedbimbbeploaaGreat
open Go.ChangeShapes Go.WideShapes Go.ChangeAt Go.RowKit
theorem wcn:Tryz.prog.readableRec 32=true:=by kernel_rfl
theorem jcm:Tryz.prog.readableRec 35=true:=by kernel_rfl
theorem gcn:32 < Tryz.prog.types.size:=of_decide_eq_true (by kernel_rfl)
theorem qcm:35 < Tryz.prog.types.size:=of_decide_eq_true (by kernel_rfl)
theorem ubg (os:Os) (started:os.Started) (H:Type) (enc:TypeId × Value->H) :
 ReturnsInHanded {} Tryz.checked os 4 .any (Rows.evaluateKnowsSpec.pre6 enc Tryz.prog Tryz.f4 Rows.evaluateKnowsRow.domain false) (Rows.evaluateKnowsSpec.post enc Tryz.prog Tryz.f4 false true false false):=by
 refine returnsInHanded_of_change (C := Tryz.checked) zb8 started (by kernel_rfl) Tryz.func4
  (ChangeSpec.witness6 (enc:=enc) (C:=Tryz.checked) false ⟨#[],#[.agg #[.int .i64 0,.int .i64 0,.int .i64 0,.bool false,.slice none 0 0,.slice none 0 0,.slice none 0 0],.agg #[.bool false,.slice none 0 0,.slice none 0 0,.bool false,.slice none 0 0,.slice none 0 0,.bool false,.slice none 0 0,.slice none 0 0,.bool false,.slice none 0 0,.slice none 0 0],.int .u16 0],[]⟩ 8 (by kernel_rfl) (by kernel_rfl) (by kernel_rfl) (by kernel_rfl)) ?_
 intro W base args ds gs before hval0 hW _ _;have hval:∀ (j:Nat) t v,Tryz.f4.params[j]?=some t->args[j]?=some v->Value.okWide Tryz.prog W .any base t v:=hval0;have hW':=hW;have low:∀ p ∈ before,p.block < W.heap.size:=fun p hp=>hW.lt p hp
 obtain ⟨p,q,hA0,hV,rfl,-,-⟩:=hW;have hA:DataW.TrodAll enc Tryz.prog W 0 (fun _=>true) true Tryz.f4.params.toList args.toList ds p:=hA0;rw [Tryz.params4] at hA hval;obtain ⟨v0,vs0,d0,ds0,p0,q0,hargs,rfl,rfl,h0,r0⟩:=trodAll_cons hA;obtain ⟨v1,vs1,d1,ds1,p1,q1,rfl,rfl,rfl,h1,r1⟩:=trodAll_cons r0;obtain ⟨v2,vs2,d2,ds2,p2,q2,rfl,rfl,rfl,h2,r2⟩:=trodAll_cons r1;obtain ⟨rfl,rfl,rfl⟩:=trodAll_nil r2;obtain rfl:args=#[v0,v1,v2]:=by cases args; simp_all
 obtain ⟨rfl,rfl⟩:=trodVars_none hV;obtain ⟨t,ht⟩:=jbl (hval 0 32 v0 rfl rfl) h0;obtain ⟨cs,x0,x1,x2,x3,rfl,hr⟩:=ubr (hval 1 35 v1 rfl rfl) h1;obtain ⟨wh,rfl,rfl,rfl,wf⟩:=Go.ChangeShapes.open_int Tryz.underlying50 (hval 2 50 v2 rfl rfl) h2;clear hA0 hval0;simp only [List.append_nil] at hW' low;refine (vbg t v0 ht hr).mono fun e W' ⟨he,hx⟩=>?_
 subst he
 exact ⟨_, rfl, yb7 (pa := p0 ++ p1) (pv := []) hW' hx (fun _ _ _ => (trodAll_cons_mk (shut_bool Tryz.underlying4 _) trodAll_mk0))
  (fun sp hs=>by
    have:=trodAll_cons_mk (wba wcn gcn h0 hx (fun x hx'=>low x (List.mem_append_left _ hx')) (fun x hx'=>hs x (List.mem_append_left _ hx'))) (trodAll_cons_mk (wba jcm qcm h1 hx (fun x hx'=>low x (List.mem_append_right _ hx')) (fun x hx'=>hs x (List.mem_append_right _ hx'))) (trodAll_cons_mk (Go.ChangeShapes.shut_int Tryz.underlying50 wf) trodAll_mk0));simp only [List.append_nil] at this
    exact this) (fun _ _=>rfl) (by simp)
  (ok_one (by kernel_rfl) rfl (okWide_bool_mk Tryz.underlying4 _))⟩
theorem vbs:Rows.evaluateKnowsRow.holds Tryz.pinned (OpenSpec.ofChange Rows.evaluateKnowsSpec):=
 OpenClaim.holds_of_wide 4 Tryz.f4 rfl rfl rfl rfl rfl rfl rfl ⟨rfl, rfl, rfl, rfl, rfl⟩ rfl rfl rfl rfl rfl (by kernel_rfl) Tryz.func4 (by kernel_rfl)
  (of_decide_eq_true (by kernel_rfl)) (by unfold Func.isWrapper; first | (rw [if_pos (by decide +kernel)]; kernel_rfl) | (rw [if_neg (by decide +kernel)]; exact ⟨rfl,rfl⟩))
  (fun os started H enc _=>ubg os started H enc)
theorem knows_proved:Rows.EvaluateKnowsSaid:=vbs
#print axioms knows_proved
end Go.Proofs.YtaedbimbbeploaaGreat
