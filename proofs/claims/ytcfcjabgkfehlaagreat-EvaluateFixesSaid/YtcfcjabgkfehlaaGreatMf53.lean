/- EvaluateFixes: for every matrix, every four fractions and every number the statement answers true, and the arguments stay as they are. No condition. -/
import Derived.Test.YtcfcjabgkfehlaaGreatMf0
import Derived.Test.YtcfcjabgkfehlaaGreatMf32
import Derived.Deep.Slices
import Derived.ChangeSlices
import Derived.Carry
import Derived.OpenShut
import Derived.ProofKit
import Derived.Test.YtcfcjabgkfehlaaGreatMf35
import Derived.Test.YtcfcjabgkfehlaaGreatMf39
import Derived.Test.YtcfcjabgkfehlaaGreatMf47
import Derived.WalkKit
import Derived.Below
import Derived.ChangeSame
import Derived.Test.YtcfcjabgkfehlaaGreatRows
import Derived.Test.YtcfcjabgkfehlaaGreatMf52
set_option linter.unusedSimpArgs false
set_option linter.unusedVariables false

namespace Go.Proofs.YtcfcjabgkfehlaaGreat
open Go.RowKit
theorem len0 {α:Type} {l:List α} (h:l.length=0):l=[]:=List.eq_nil_of_length_eq_zero h
theorem len1 {α:Type} {l:List α} (h:l.length=1):∃ x,l=[x]:=by
 cases l with
 | nil=>simp at h
 | cons x r=>exact ⟨x,by rw [len0 (l:=r) (by simpa using h)]⟩
theorem jby {α:Type} {l:List α} (h:l.length=2):∃ x y,l=[x,y]:=by
 cases l with
 | nil=>simp at h
 | cons x r =>
   obtain ⟨y,rfl⟩:=len1 (l:=r) (by simpa using h);exact ⟨x,y,rfl⟩
end Go.Proofs.YtcfcjabgkfehlaaGreat

/- Reading the arguments: numbers. -/
namespace Go.Proofs.YtcfcjabgkfehlaaGreat
open Go.ChangeShapes Go.WideShapes Go.RowKit
theorem cell_lt {w:World} {a:Addr} {v:Value} (h:w.cell? a=some v):a.block < w.heap.size:=by
 unfold World.cell? at h
 split at h
 · rename_i hh;exact (Array.getElem?_eq_some_iff.1 hh).1
 · cases h
theorem xbf (a:Addr) (n:Nat):a.add (n+1)=⟨a.block,a.off+(n+1),none⟩:=by simp [Addr.add]
theorem xa1 (a:Addr):a.add 0=a:=by simp [Addr.add]
theorem qby {α:Type} {l:List α} (h:l.length=3):∃ x y z,l=[x,y,z]:=by
 cases l with
 | nil=>simp at h
 | cons x r =>
   obtain ⟨y,z,rfl⟩:=jby (l:=r) (by simpa using h);exact ⟨x,y,z,rfl⟩
theorem wbk {α:Type} {l:List α} (h:l.length=4):∃ x y z u,l=[x,y,z,u]:=by
 cases l with
 | nil=>simp at h
 | cons x r =>
   obtain ⟨y,z,u,rfl⟩:=qby (l:=r) (by simpa using h);exact ⟨x,y,z,u,rfl⟩
theorem len8 {α:Type} {l:List α} (h:l.length=8):∃ a b c d e f g i,l=[a,b,c,d,e,f,g,i]:=by
 obtain ⟨a,b,c,d,h1⟩:=wbk (l:=l.take 4) (by rw [List.length_take]; omega);obtain ⟨e,f,g,i,h2⟩:=wbk (l:=l.drop 4) (by rw [List.length_drop]; omega);exact ⟨a,b,c,d,e,f,g,i,by rw [<- List.take_append_drop 4 l,h1,h2]; rfl⟩
section
variable {H:Type} {enc:TypeId × Value->H} {w:World} {sp:Nat->Bool} {held:Bool}
theorem ybg {fuel:Nat} {cs:List Value} {x:DataW H × List MemPlace} (h:DataW.trod enc Tryz.prog w 0 sp held fuel 31 cs=some x):∃ A ds c,cs=[.slice A ds.length c]/\jb w (.slice A ds.length c) ds:=by
 rcases open_ints Tryz.underlying31 Tryz.underlying103 (by kernel_rfl) h with ⟨rfl,-⟩ | ⟨a,len,cap,zs,rfl,-,hlc,hcm,hzl,-,hcell,hwf⟩
 · exact ⟨none,[],0,rfl,jb.nil w⟩
 · have hle:len<=zs.length:=by rw [hzl]; split <;> omega
   have hlen:((zs.take len).map Int.toNat).length=len:=by rw [List.length_map,List.length_take]; omega
   refine ⟨some a,(zs.take len).map Int.toNat,cap,by rw [hlen],?_⟩;refine ⟨some a,cap,rfl,by rw [hlen]; exact hlc,by unfold maxLen at hcm; omega,?_,fun hp=>⟨a,rfl,?_,?_⟩⟩
   · intro d hd;obtain ⟨z,hz,rfl⟩:=List.mem_map.1 hd;have:=bounds_u32 (hwf z (List.mem_of_mem_take hz));show z.toNat < 4294967296;omega
   · rw [hlen] at hp;have:=cell_lt (hcell 0 (by omega))
     rwa [xa1] at this
   · intro j hj;rw [hlen] at hj;have hj2:j < zs.length:=by omega
     rw [hcell j hj2];have hb:=bounds_u32 (hwf zs[j] (List.getElem_mem hj2));simp only [List.getElem_map,List.getElem_take];rw [List.getD_eq_getElem?_getD,List.getElem?_eq_getElem hj2];simp only [Option.getD_some]
     congr 2
     omega
theorem gbc {fuel:Nat} {cs:List Value} {x:DataW H × List MemPlace} (h:DataW.trod enc Tryz.prog w 0 sp held fuel 33 cs=some x):∃ neg A ds c,cs=[.bool neg,.slice A ds.length c]/\jb w (.slice A ds.length c) ds:=by
 obtain ⟨xs,n,rfl,-,hl,hx,hf⟩:=DataW.trod_struct Tryz.underlying33 h;have hl2:cs.length=2:=hl.trans (by kernel_rfl);have hx2:xs.length=2:=hx;obtain ⟨c0,c1,rfl⟩:=jby hl2;obtain ⟨x0,x1,rfl⟩:=jby hx2;have f0:DataW.trod enc Tryz.prog w 0 sp held n 4 ((List.drop 0 [c0,c1]).take (Tryz.prog.cellsOf 4))=some x0:=hf 0 _ rfl;have f1:DataW.trod enc Tryz.prog w 0 sp held n 31 ((List.drop 1 [c0,c1]).take (Tryz.prog.cellsOf 31))=some x1:=hf 1 _ rfl;rw [show Tryz.prog.cellsOf 4=1 by kernel_rfl] at f0;rw [show Tryz.prog.cellsOf 31=1 by kernel_rfl] at f1;simp only [List.drop_zero,List.drop_succ_cons,List.take_succ_cons,List.take_zero,List.getElem?_cons_zero,List.getElem?_cons_succ] at f0 f1;obtain ⟨b,e,-⟩:=DataW.trod_bool Tryz.underlying4 f0;obtain ⟨A,ds,c,e1,hn⟩:=ybg f1;simp only [List.cons.injEq,and_true] at e e1;exact ⟨b,A,ds,c,by rw [e,e1],hn⟩
end
end Go.Proofs.YtcfcjabgkfehlaaGreat

/- Reading the arguments: polynomials and matrices that came in. -/
set_option maxRecDepth 100000
set_option maxHeartbeats 8000000
namespace Go.Proofs.YtcfcjabgkfehlaaGreat
open Go.ChangeShapes Go.WideShapes Go.RowKit
section
variable {H:Type} {enc:TypeId × Value->H} {w:World} {sp:Nat->Bool} {held:Bool}
theorem zcj {a:Addr} {r:Pl × Value × Value} (h:w.cells? 0 a 4=some (plC r)):xal w a r.1 r.2.1 r.2.2/\a.block < w.heap.size:=by
 have hc:=(World.cells?_some h).2.2;have c0:=hc 0 (by omega);have c1:=hc 1 (by omega);have c2:=hc 2 (by omega);have c3:=hc 3 (by omega);rw [xa1] at c0;rw [xbf] at c1 c2 c3;exact ⟨⟨c0,c1,c2,c3⟩,cell_lt c0⟩
theorem yb2 (fuel:Nat):∀ (cs:List Value) (x:DataW H × List MemPlace),DataW.trod enc Tryz.prog w 0 sp held fuel 35 cs=some x->∃ r:Pl × Value × Value,cs=plC r/\PlV w (fun _=>True) r.1 (plV r.1 r.2.1 r.2.2):=by
 induction fuel using Nat.strongRecOn with
 | _ fuel ih =>
 intro cs x h;obtain ⟨xs,n,rfl,-,hl,hx,hf⟩:=DataW.trod_struct Tryz.underlying35 h;have hk:Tryz.prog.cellsOf 35=4:=by kernel_rfl
 have hl2:cs.length=4:=hl.trans hk;have hx2:xs.length=3:=hx;obtain ⟨c0,c1,c2,c3,rfl⟩:=wbk hl2;obtain ⟨x0,x1,x2,rfl⟩:=qby hx2;have f0:DataW.trod enc Tryz.prog w 0 sp held n 3 ((List.drop 0 [c0,c1,c2,c3]).take (Tryz.prog.cellsOf 3))=some x0:=hf 0 _ rfl;have f1:DataW.trod enc Tryz.prog w 0 sp held n 33 ((List.drop 1 [c0,c1,c2,c3]).take (Tryz.prog.cellsOf 33))=some x1:=hf 1 _ rfl;have f2:DataW.trod enc Tryz.prog w 0 sp held n 24 ((List.drop 3 [c0,c1,c2,c3]).take (Tryz.prog.cellsOf 24))=some x2:=hf 2 _ rfl;rw [show Tryz.prog.cellsOf 3=1 by kernel_rfl] at f0;rw [show Tryz.prog.cellsOf 33=2 by kernel_rfl] at f1;rw [show Tryz.prog.cellsOf 24=1 by kernel_rfl] at f2;simp only [List.drop_zero,List.drop_succ_cons,List.take_succ_cons,List.take_zero,List.getElem?_cons_zero,List.getElem?_cons_succ] at f0 f1 f2;obtain ⟨lv,e0,-⟩:=DataW.trod_int Tryz.underlying3 f0;obtain ⟨neg,A,ds,c,e1,hn⟩:=gbc f1;simp only [List.cons.injEq,and_true] at e0 e1;obtain ⟨e1,e2⟩:=e1;have hkids:∃ ks B m,c3=.slice B ks.length m/\ks.length<=m/\m<=9223372036854775807/\jd w (fun _=>True) ks B 0:=by
  rcases DataW.trod_slice Tryz.underlying24 f2 with ⟨e8,-⟩ | ⟨a,len,cap,elems,rest,n',hfu,e8,-,-,hlc,hcm,hel,hat,-⟩
  · simp only [List.cons.injEq,and_true] at e8;exact ⟨[],none,0,e8,by simp,by omega,by unfold jd; trivial⟩
  · simp only [List.cons.injEq,and_true] at e8;rw [hk] at hat;have each:∀ i:Nat,∃ t:Pl,i < len->∃ s K,xal w (a.add (i * 4)) t s K/\a.block < w.heap.size/\PlV w (fun _=>True) t (plV t s K):=by
     intro i
     by_cases hi:i < len
     · have h1:=hat i hi;rw [List.getElem?_eq_getElem (by omega)] at h1;obtain ⟨cs',hc,ht⟩:=Option.bind_eq_some_iff.1 h1;obtain ⟨r,rfl,hr⟩:=ih n' (by omega) cs' _ ht;obtain ⟨h2,h3⟩:=zcj hc;rw [ja] at h3;exact ⟨r.1,fun _=>⟨r.2.1,r.2.2,h2,h3,hr⟩⟩
     · exact ⟨Pl.zero,fun h=>absurd h hi⟩
    refine ⟨(List.range len).map (fun i=>Classical.choose (each i)),some a,cap,by simpa using e8,by simpa using hlc,by unfold maxLen at hcm; omega,jd.of _ _ _ fun i hi=>?_⟩;simp only [List.length_map,List.length_range] at hi;obtain ⟨s,K,h1,h2,h3⟩:=Classical.choose_spec (each i) hi;simp only [List.getElem_map,List.getElem_range,Nat.zero_add];exact ⟨a,s,K,rfl,h2,trivial,h1,h3⟩
 obtain ⟨ks,B,m,e8,hm1,hm2,hat⟩:=hkids;refine ⟨(.mk lv neg ds ks,c2,c3),?_,?_⟩
 · unfold plC;rw [e0,e1]
   rfl
 · have:=PlV.mk (w:=w) (p:=fun _=>True) (t:=.mk lv neg ds ks) (s:=c2) (A:=B) (c:=m) (by rw [e2]; exact hn) hm1 hm2 hat;rw [e8];exact this
theorem ycj {a:Addr} {r:Mx × Value × Value × Value} (h:w.cells? 0 a 7=some (mxC r)):xar w a r.1 r.2.1 r.2.2.1 r.2.2.2/\a.block < w.heap.size:=by
 have hc:=(World.cells?_some h).2.2;have c0:=hc 0 (by omega);have c1:=hc 1 (by omega);have c2:=hc 2 (by omega);have c3:=hc 3 (by omega);have c4:=hc 4 (by omega);have c5:=hc 5 (by omega);have c6:=hc 6 (by omega);rw [xa1] at c0;rw [xbf] at c1 c2 c3 c4 c5 c6;exact ⟨⟨c0,c1,c2,c3,c4,c5,c6⟩,cell_lt c0⟩
theorem gau {α:Type} {l:List α} (h:l.length=7):∃ a b c d e f g,l=[a,b,c,d,e,f,g]:=by
 obtain ⟨a,b,c,d,h1⟩:=wbk (l:=l.take 4) (by rw [List.length_take]; omega);obtain ⟨e,f,g,h2⟩:=qby (l:=l.drop 4) (by rw [List.length_drop]; omega);exact ⟨a,b,c,d,e,f,g,by rw [<- List.take_append_drop 4 l,h1,h2]; rfl⟩
theorem vbo (fuel:Nat):∀ (cs:List Value) (x:DataW H × List MemPlace),DataW.trod enc Tryz.prog w 0 sp held fuel 63 cs=some x->∃ r:Mx × Value × Value × Value,cs=mxC r/\MxV w (fun _=>True) r.1 (mxV r.1 r.2.1 r.2.2.1 r.2.2.2):=by
 induction fuel using Nat.strongRecOn with
 | _ fuel ih =>
 intro cs x h;obtain ⟨xs,n,rfl,-,hl,hx,hf⟩:=DataW.trod_struct Tryz.underlying63 h;have hk:Tryz.prog.cellsOf 63=7:=by kernel_rfl
 have hl2:cs.length=7:=hl.trans hk;have hx2:xs.length=4:=hx;obtain ⟨c0,c1,c2,c3,c4,c5,c6,rfl⟩:=gau hl2;obtain ⟨x0,x1,x2,x3,rfl⟩:=wbk hx2;have f0:DataW.trod enc Tryz.prog w 0 sp held n 3 ((List.drop 0 [c0,c1,c2,c3,c4,c5,c6]).take (Tryz.prog.cellsOf 3))=some x0:=hf 0 _ rfl;have f1:DataW.trod enc Tryz.prog w 0 sp held n 60 ((List.drop 1 [c0,c1,c2,c3,c4,c5,c6]).take (Tryz.prog.cellsOf 60))=some x1:=hf 1 _ rfl;have f2:DataW.trod enc Tryz.prog w 0 sp held n 35 ((List.drop 2 [c0,c1,c2,c3,c4,c5,c6]).take (Tryz.prog.cellsOf 35))=some x2:=hf 2 _ rfl;have f3:DataW.trod enc Tryz.prog w 0 sp held n 61 ((List.drop 6 [c0,c1,c2,c3,c4,c5,c6]).take (Tryz.prog.cellsOf 61))=some x3:=hf 3 _ rfl;rw [show Tryz.prog.cellsOf 3=1 by kernel_rfl] at f0;rw [show Tryz.prog.cellsOf 60=1 by kernel_rfl] at f1;rw [show Tryz.prog.cellsOf 35=4 by kernel_rfl] at f2;rw [show Tryz.prog.cellsOf 61=1 by kernel_rfl] at f3;simp only [List.drop_zero,List.drop_succ_cons,List.take_succ_cons,List.take_zero,List.getElem?_cons_zero,List.getElem?_cons_succ] at f0 f1 f2 f3;obtain ⟨kind,e0,-⟩:=DataW.trod_int Tryz.underlying3 f0;obtain ⟨rel,e1,-⟩:=DataW.trod_int Tryz.underlying60 f1;obtain ⟨⟨pl,ps,pA⟩,e2,hp⟩:=yb2 n _ _ f2;simp only [plC,List.cons.injEq,and_true] at e0 e1 e2;obtain ⟨e2,e3,e4,e5⟩:=e2;have hkids:∃ ks B m,c6=.slice B ks.length m/\ks.length<=m/\m<=9223372036854775807/\zi w (fun _=>True) ks B 0:=by
  rcases DataW.trod_slice Tryz.underlying61 f3 with ⟨e8,-⟩ | ⟨a,len,cap,elems,rest,n',hfu,e8,-,-,hlc,hcm,hel,hat,-⟩
  · simp only [List.cons.injEq,and_true] at e8;exact ⟨[],none,0,e8,by simp,by omega,by unfold zi; trivial⟩
  · simp only [List.cons.injEq,and_true] at e8;rw [hk] at hat;have each:∀ i:Nat,∃ t:Mx,i < len->∃ s A K,xar w (a.add (i * 7)) t s A K/\a.block < w.heap.size/\MxV w (fun _=>True) t (mxV t s A K):=by
     intro i
     by_cases hi:i < len
     · have h1:=hat i hi;rw [List.getElem?_eq_getElem (by omega)] at h1;obtain ⟨cs',hc,ht⟩:=Option.bind_eq_some_iff.1 h1;obtain ⟨r,rfl,hr⟩:=ih n' (by omega) cs' _ ht;obtain ⟨h2,h3⟩:=ycj hc;rw [ja] at h3;exact ⟨r.1,fun _=>⟨r.2.1,r.2.2.1,r.2.2.2,h2,h3,hr⟩⟩
     · exact ⟨.mk 0 0 Pl.zero [],fun h=>absurd h hi⟩
    refine ⟨(List.range len).map (fun i=>Classical.choose (each i)),some a,cap,by simpa using e8,by simpa using hlc,by unfold maxLen at hcm; omega,zi.of _ _ _ fun i hi=>?_⟩;simp only [List.length_map,List.length_range] at hi;obtain ⟨s,A,K,h1,h2,h3⟩:=Classical.choose_spec (each i) hi;simp only [List.getElem_map,List.getElem_range,Nat.zero_add];exact ⟨a,s,A,K,rfl,h2,trivial,h1,h3⟩
 obtain ⟨ks,B,m,e8,hm1,hm2,hat⟩:=hkids;refine ⟨(.mk kind rel pl ks,c4,c5,c6),?_,?_⟩
 · unfold mxC;rw [e0,e1,e2,e3]
   rfl
 · have:=MxV.mk (w:=w) (p:=fun _=>True) (t:=.mk kind rel pl ks) (s:=c4) (A:=c5) (K:=B) (c:=m) (by rw [e4,e5]; exact hp) hm1 hm2 hat;rw [e8];exact this
theorem vbq {r:Reach} {b0:Nat} {v:Value} {d:DataW H} {ps:List MemPlace} (hval:Value.okWide Tryz.prog w r b0 63 v) (h:DataW.Trod enc Tryz.prog w 0 sp held 63 v d ps):∃ t,MxV w (fun _=>True) t v:=by
 obtain ⟨fuel,h⟩:=h;obtain ⟨r,e,ht⟩:=vbo fuel _ _ h;simp only [Value.okWide,Tryz.underlying63] at hval;obtain ⟨cs,rfl,-⟩:=hval;refine ⟨r.1,?_⟩;have:Value.agg cs=mxV r.1 r.2.1 r.2.2.1 r.2.2.2:=by
  unfold mxV
  congr 1
  exact Array.toList_inj.1 e
 rw [this]; exact ht
end
end Go.Proofs.YtcfcjabgkfehlaaGreat

/- Reading the arguments: a row of fractions that came in. -/
namespace Go.Proofs.YtcfcjabgkfehlaaGreat
open Go.ChangeShapes Go.WideShapes Go.RowKit
section
variable {H:Type} {enc:TypeId × Value->H} {w:World} {sp:Nat->Bool} {held:Bool}
theorem xaw {fuel:Nat} {cs:List Value} {x:DataW H × List MemPlace} (h:DataW.trod enc Tryz.prog w 0 sp held fuel 65 cs=some x):∃ neg A ds c B es d,cs=[.bool neg,.slice A ds.length c,.slice B es.length d]/\jb w (.slice A ds.length c) ds/\jb w (.slice B es.length d) es:=by
 obtain ⟨xs,n,rfl,-,hl,hx,hf⟩:=DataW.trod_struct Tryz.underlying65 h;have hl2:cs.length=3:=hl.trans (by kernel_rfl);have hx2:xs.length=2:=hx;obtain ⟨c0,c1,c2,rfl⟩:=qby hl2;obtain ⟨x0,x1,rfl⟩:=jby hx2;have f0:DataW.trod enc Tryz.prog w 0 sp held n 33 ((List.drop 0 [c0,c1,c2]).take (Tryz.prog.cellsOf 33))=some x0:=hf 0 _ rfl;have f1:DataW.trod enc Tryz.prog w 0 sp held n 31 ((List.drop 2 [c0,c1,c2]).take (Tryz.prog.cellsOf 31))=some x1:=hf 1 _ rfl;rw [show Tryz.prog.cellsOf 33=2 by kernel_rfl] at f0;rw [show Tryz.prog.cellsOf 31=1 by kernel_rfl] at f1;simp only [List.drop_zero,List.drop_succ_cons,List.take_succ_cons,List.take_zero,List.getElem?_cons_zero,List.getElem?_cons_succ] at f0 f1;obtain ⟨neg,A,ds,c,e,hn⟩:=gbc f0;obtain ⟨B,es,d,e1,hn1⟩:=ybg f1;simp only [List.cons.injEq,and_true] at e e1;exact ⟨neg,A,ds,c,B,es,d,by rw [e.1,e.2,e1],hn,hn1⟩
end
end Go.Proofs.YtcfcjabgkfehlaaGreat

/- Reading the arguments: four fractions that came in. -/
set_option maxRecDepth 100000
set_option maxHeartbeats 8000000
namespace Go.Proofs.YtcfcjabgkfehlaaGreat
open Go.ChangeShapes Go.WideShapes Go.RowKit
theorem qcy {α:Type} {l:List α} (h:l.length=12):∃ a b c d e f g i j k m n,l=[a,b,c,d,e,f,g,i,j,k,m,n]:=by
 match l,h with
 | [a,b,c,d,e,f,g,i,j,k,m,n],_=>exact ⟨a,b,c,d,e,f,g,i,j,k,m,n,rfl⟩
section
variable {H:Type} {enc:TypeId × Value->H} {w:World} {sp:Nat->Bool} {held:Bool}
theorem kbx {r:Reach} {b0:Nat} {v:Value} {d:DataW H} {ps:List MemPlace} (hval:Value.okWide Tryz.prog w r b0 66 v) (h:DataW.Trod enc Tryz.prog w 0 sp held 66 v d ps):∃ cs x0 x1 x2 x3,v=.agg cs/\zb1 w cs.toList x0 x1 x2 x3:=by
 obtain ⟨fuel,h⟩:=h;simp only [Value.okWide,Tryz.underlying66] at hval;obtain ⟨cs,rfl,-⟩:=hval;simp only [Value.cells] at h;obtain ⟨xs,n,rfl,-,hl,hx,hf⟩:=DataW.trod_array Tryz.underlying66 h;have hl2:cs.toList.length=12:=hl.trans (by kernel_rfl);obtain ⟨l,hcl⟩:∃ l,cs.toList=l:=⟨_,rfl⟩;rw [hcl] at hl2;simp only [hcl] at hf;obtain ⟨a0,a1,a2,a3,a4,a5,a6,a7,a8,a9,a10,a11,rfl⟩:=qcy hl2;rw [show Tryz.prog.cellsOf 65=3 by kernel_rfl] at hf;have f0:=hf 0 (by omega);have f1:=hf 1 (by omega);have f2:=hf 2 (by omega);have f3:=hf 3 (by omega);rw [List.getElem?_eq_getElem (by omega)] at f0 f1 f2 f3;simp only [Nat.zero_mul,Nat.reduceMul,List.drop_zero,List.drop_succ_cons,List.take_succ_cons,List.take_zero] at f0 f1 f2 f3;obtain ⟨n0,A0,ds0,c0,B0,es0,d0,e0,p0,q0⟩:=xaw f0;obtain ⟨n1,A1,ds1,c1,B1,es1,d1,e1,p1,q1⟩:=xaw f1;obtain ⟨n2,A2,ds2,c2,B2,es2,d2,e2,p2,q2⟩:=xaw f2;obtain ⟨n3,A3,ds3,c3,B3,es3,d3,e3,p3,q3⟩:=xaw f3;simp only [List.cons.injEq,and_true] at e0 e1 e2 e3;obtain ⟨rfl,rfl,rfl⟩:=e0;obtain ⟨rfl,rfl,rfl⟩:=e1;obtain ⟨rfl,rfl,rfl⟩:=e2;obtain ⟨rfl,rfl,rfl⟩:=e3;refine ⟨cs,⟨n0,ds0,es0⟩,⟨n1,ds1,es1⟩,⟨n2,ds2,es2⟩,⟨n3,ds3,es3⟩,rfl,A0,c0,B0,d0,A1,c1,B1,d1,A2,c2,B2,d2,A3,c3,B3,d3,?_,⟨p0,q0⟩,⟨p1,q1⟩,⟨p2,q2⟩,⟨p3,q3⟩⟩;exact hcl
end
end Go.Proofs.YtcfcjabgkfehlaaGreat

/- The last step of every law that leaves its arguments alone. -/
namespace Go.Proofs.YtcfcjabgkfehlaaGreat
open Go.ChangeShapes Go.WideShapes Go.ChangeAt Go.RowKit
theorem ucd {H : Type} {enc : TypeId × Value -> H} {P : Program} {f : Func} {s : ChangeSpec} {apart fresh handsOn again : Bool} {W W' : World} {args : Array Value} {v : Value} {ds gs : List (DataW H)} {before pa pv : List MemPlace}
 (hW:DataW.Whole enc P f.params.toList s.vars apart W args.toList ds gs before) (hx:Ext W W')
 (hres:∀ (b:Nat) (sp:Nat->Bool) (hd:Bool),DataW.TrodAll enc P W' b sp hd f.resultTypes.toList (v.resultList f.resultTypes.size) (s.fn H (ds ++ gs)).results [])
 (hargs:∀ sp:Nat->Bool,(∀ p ∈ before,sp p.block=true)->DataW.TrodAll enc P W' 0 sp true f.params.toList args.toList (s.fn H (ds ++ gs)).args pa)
 (hvars:∀ sp:Nat->Bool,(∀ p ∈ before,sp p.block=true)->DataW.TrodVars enc P W' sp s.vars (s.fn H (ds ++ gs)).vars pv) (hps:before=pa ++ pv)
 (hok:∀ (j:Nat) (t:TypeId) (r:Value),f.resultTypes[j]?=some t->(v.resultList f.resultTypes.size)[j]?=some r->Value.okWide P W' .any 0 t r) :
 s.post enc P f apart fresh handsOn again W args v W':=by
 have low:∀ p ∈ before,p.block < W.heap.size:=fun p hp=>hW.lt p hp
 have old:∀ p ∈ before,(fun b=>decide (b < W.heap.size)) p.block=true:=fun p hp=>by simpa using low p hp
 refine ⟨ds,gs,before,[],pa,pv,hW,hres _ _ _,hargs _ old,hvars _ old,World.keptBut_mono (fun p hp=>⟨hp,?_⟩) (Below.frame hx (· ∈ before)),fun _=>?_⟩
 · exact .inr (List.mem_append.1 (hps ▸ hp))
 · obtain ⟨_,_,_,_,_,hz,hn⟩:=hW;refine ⟨hok,_,_,([] ++ pa) ++ pv,⟨[] ++ pa,pv,trodAll_append (hargs _ (fun _ _=>rfl)) (hres _ _ _),hvars _ (fun _ _=>rfl),rfl,fun b off hp=>?_,fun ha=>?_⟩,?_⟩
   · have hin:MemPlace.cell b off ∈ before:=by rw [hps]; simpa using hp
     rw [hx.frozen (low _ hin)];exact hz b off hin
   · have h:=hn ha;rw [hps] at h;simpa using h
   · exact fun p hp _=>by rw [hps]; simpa using hp
theorem uce:ownKnob Tryz.prog.godebug=none:=by kernel_rfl
theorem wcf:laidOutB Tryz.prog=true:=by kernel_rfl
theorem zbf {H:Type} {enc:TypeId × Value->H} {W W':World} {t:TypeId} (hr:Tryz.prog.readableRec t=true) (hrow:t < Tryz.prog.types.size) {v:Value} {d:DataW H} {ps:List MemPlace} (h:DataW.Trod enc Tryz.prog W 0 (fun _=>true) true t v d ps) (hx:Ext W W') (hlt:∀ x ∈ ps,x.block < W.heap.size) {sp:Nat->Bool} (hs:∀ x ∈ ps,sp x.block=true):DataW.Trod enc Tryz.prog W' 0 sp true t v d ps:=
 WideElems.Trod_stays wcf hr hrow h (fun x hx'=>Below.same hx (hlt x hx')) hs
end Go.Proofs.YtcfcjabgkfehlaaGreat

/- EvaluateFixes: for every matrix, every four fractions and every number the statement answers true, and the arguments stay as they are. No condition. -/
set_option maxRecDepth 100000
set_option maxHeartbeats 8000000
namespace Go.Proofs.YtcfcjabgkfehlaaGreat
open Go.ChangeShapes Go.WideShapes Go.ChangeAt Go.RowKit
theorem ucv:Tryz.prog.readableRec 63=true:=by kernel_rfl
theorem ycu:Tryz.prog.readableRec 66=true:=by kernel_rfl
theorem vcv:63 < Tryz.prog.types.size:=of_decide_eq_true (by kernel_rfl)
theorem zcu:66 < Tryz.prog.types.size:=of_decide_eq_true (by kernel_rfl)
theorem xbm (os:Os) (started:os.Started) (H:Type) (enc:TypeId × Value->H) :
 ReturnsInHanded {} Tryz.checked os 8 .any (Rows.evaluateFixesSpec.pre6 enc Tryz.prog Tryz.f8 Rows.evaluateFixesRow.domain false) (Rows.evaluateFixesSpec.post enc Tryz.prog Tryz.f8 false true false false):=by
 refine returnsInHanded_of_change (C := Tryz.checked) uce started (by kernel_rfl) Tryz.func8
  (ChangeSpec.witness6 (enc:=enc) (C:=Tryz.checked) false ⟨#[],#[.agg #[.int .i64 0,.int .i64 0,.int .i64 0,.bool false,.slice none 0 0,.slice none 0 0,.slice none 0 0],.agg #[.bool false,.slice none 0 0,.slice none 0 0,.bool false,.slice none 0 0,.slice none 0 0,.bool false,.slice none 0 0,.slice none 0 0,.bool false,.slice none 0 0,.slice none 0 0],.int .u8 0],[]⟩ 8 (by kernel_rfl) (by kernel_rfl) (by kernel_rfl) (by kernel_rfl)) ?_
 intro W base args ds gs before hval0 hW _ _;have hval:∀ (j:Nat) t v,Tryz.f8.params[j]?=some t->args[j]?=some v->Value.okWide Tryz.prog W .any base t v:=hval0;have hW':=hW;have low:∀ p ∈ before,p.block < W.heap.size:=fun p hp=>hW.lt p hp
 obtain ⟨p,q,hA0,hV,rfl,-,-⟩:=hW;have hA:DataW.TrodAll enc Tryz.prog W 0 (fun _=>true) true Tryz.f8.params.toList args.toList ds p:=hA0;rw [Tryz.params8] at hA hval;obtain ⟨v0,vs0,d0,ds0,p0,q0,hargs,rfl,rfl,h0,r0⟩:=trodAll_cons hA;obtain ⟨v1,vs1,d1,ds1,p1,q1,rfl,rfl,rfl,h1,r1⟩:=trodAll_cons r0;obtain ⟨v2,vs2,d2,ds2,p2,q2,rfl,rfl,rfl,h2,r2⟩:=trodAll_cons r1;obtain ⟨rfl,rfl,rfl⟩:=trodAll_nil r2;obtain rfl:args=#[v0,v1,v2]:=by cases args; simp_all
 obtain ⟨rfl,rfl⟩:=trodVars_none hV;obtain ⟨t,ht⟩:=vbq (hval 0 63 v0 rfl rfl) h0;obtain ⟨cs,x0,x1,x2,x3,rfl,hr⟩:=kbx (hval 1 66 v1 rfl rfl) h1;obtain ⟨wh,rfl,rfl,rfl,wf⟩:=Go.ChangeShapes.open_int Tryz.underlying5 (hval 2 5 v2 rfl rfl) h2;clear hA0 hval0;simp only [List.append_nil] at hW' low;have hkb:0<=wh/\wh < 256:=by
  have h:=wf;simp [Lit.wf] at h;have e1:IntKind.u8.min=0:=by decide
  have e2:IntKind.u8.max=255:=by decide
  omega
 refine (ybl hkb.1 hkb.2 t v0 ht hr).mono fun e W' ⟨he,hx⟩=>?_
 subst he
 exact ⟨_, rfl, ucd (pa := p0 ++ p1) (pv := []) hW' hx (fun _ _ _ => (trodAll_cons_mk (shut_bool Tryz.underlying4 _) trodAll_mk0))
  (fun sp hs=>by
    have:=trodAll_cons_mk (zbf ucv vcv h0 hx (fun x hx'=>low x (List.mem_append_left _ hx')) (fun x hx'=>hs x (List.mem_append_left _ hx'))) (trodAll_cons_mk (zbf ycu zcu h1 hx (fun x hx'=>low x (List.mem_append_right _ hx')) (fun x hx'=>hs x (List.mem_append_right _ hx'))) (trodAll_cons_mk (Go.ChangeShapes.shut_int Tryz.underlying5 wf) trodAll_mk0));simp only [List.append_nil] at this
    exact this) (fun _ _=>rfl) (by simp)
  (ok_one (by kernel_rfl) rfl (okWide_bool_mk Tryz.underlying4 _))⟩
theorem jbz:Rows.evaluateFixesRow.holds Tryz.pinned (OpenSpec.ofChange Rows.evaluateFixesSpec):=
 OpenClaim.holds_of_wide 8 Tryz.f8 rfl rfl rfl rfl rfl rfl rfl ⟨rfl, rfl, rfl, rfl, rfl⟩ rfl rfl rfl rfl rfl (by kernel_rfl) Tryz.func8 (by kernel_rfl)
  (of_decide_eq_true (by kernel_rfl)) (by unfold Func.isWrapper; first | (rw [if_pos (by decide +kernel)]; kernel_rfl) | (rw [if_neg (by decide +kernel)]; exact ⟨rfl,rfl⟩))
  (fun os started H enc _=>xbm os started H enc)
theorem fixes_proved:Rows.EvaluateFixesSaid:=jbz
#print axioms fixes_proved
end Go.Proofs.YtcfcjabgkfehlaaGreat
