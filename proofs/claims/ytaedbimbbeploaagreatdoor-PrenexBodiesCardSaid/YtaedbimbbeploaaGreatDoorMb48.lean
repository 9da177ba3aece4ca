/- Short lists. -/
import Derived.Test.YtaedbimbbeploaaGreatDoorMb0
import Derived.Test.YtaedbimbbeploaaGreatDoorMb10
import Derived.Deep.Slices
import Derived.ChangeSlices
import Derived.Carry
import Derived.OpenShut
import Derived.ProofKit
import Derived.Test.YtaedbimbbeploaaGreatDoorMRow
import Derived.Test.YtaedbimbbeploaaGreatDoorMb15
import Derived.Test.YtaedbimbbeploaaGreatDoorMb36
import Derived.Test.YtaedbimbbeploaaGreatDoorMb47
set_option linter.unusedSimpArgs false
set_option linter.unusedVariables false

namespace Go.Proofs.YtaedbimbbeploaaGreatDoor
open Go.RowKit
theorem len0 {α:Type} {l:List α} (h:l.length=0):l=[]:=List.eq_nil_of_length_eq_zero h
theorem len1 {α:Type} {l:List α} (h:l.length=1):∃ x,l=[x]:=by
 cases l with
 | nil=>simp at h
 | cons x r=>exact ⟨x,by rw [len0 (l:=r) (by simpa using h)]⟩
theorem gcj {α:Type} {l:List α} (h:l.length=2):∃ x y,l=[x,y]:=by
 cases l with
 | nil=>simp at h
 | cons x r =>
   obtain ⟨y,rfl⟩:=len1 (l:=r) (by simpa using h);exact ⟨x,y,rfl⟩
end Go.Proofs.YtaedbimbbeploaaGreatDoor

/- Reading the arguments: numbers. -/
namespace Go.Proofs.YtaedbimbbeploaaGreatDoor
open Go.ChangeShapes Go.WideShapes Go.RowKit
theorem cell_lt {w:World} {a:Addr} {v:Value} (h:w.cell? a=some v):a.block < w.heap.size:=by
 unfold World.cell? at h
 split at h
 · rename_i hh;exact (Array.getElem?_eq_some_iff.1 hh).1
 · cases h
theorem ja2 (a:Addr) (n:Nat):a.add (n+1)=⟨a.block,a.off+(n+1),none⟩:=by simp [Addr.add]
theorem kaq (a:Addr):a.add 0=a:=by simp [Addr.add]
theorem ucj {α:Type} {l:List α} (h:l.length=3):∃ x y z,l=[x,y,z]:=by
 cases l with
 | nil=>simp at h
 | cons x r =>
   obtain ⟨y,z,rfl⟩:=gcj (l:=r) (by simpa using h);exact ⟨x,y,z,rfl⟩
theorem ybp {α:Type} {l:List α} (h:l.length=4):∃ x y z u,l=[x,y,z,u]:=by
 cases l with
 | nil=>simp at h
 | cons x r =>
   obtain ⟨y,z,u,rfl⟩:=ucj (l:=r) (by simpa using h);exact ⟨x,y,z,u,rfl⟩
theorem len8 {α:Type} {l:List α} (h:l.length=8):∃ a b c d e f g i,l=[a,b,c,d,e,f,g,i]:=by
 obtain ⟨a,b,c,d,h1⟩:=ybp (l:=l.take 4) (by rw [List.length_take]; omega);obtain ⟨e,f,g,i,h2⟩:=ybp (l:=l.drop 4) (by rw [List.length_drop]; omega);exact ⟨a,b,c,d,e,f,g,i,by rw [<- List.take_append_drop 4 l,h1,h2]; rfl⟩
section
variable {H:Type} {enc:TypeId × Value->H} {w:World} {sp:Nat->Bool} {held:Bool}
theorem ucd {fuel:Nat} {cs:List Value} {x:DataW H × List MemPlace} (h:DataW.trod enc Tryz.prog w 0 sp held fuel 23 cs=some x):∃ A ds c,cs=[.slice A ds.length c]/\jb w (.slice A ds.length c) ds:=by
 rcases open_ints Tryz.underlying23 Tryz.underlying180 (by kernel_rfl) h with ⟨rfl,-⟩ | ⟨a,len,cap,zs,rfl,-,hlc,hcm,hzl,-,hcell,hwf⟩
 · exact ⟨none,[],0,rfl,jb.nil w⟩
 · have hle:len<=zs.length:=by rw [hzl]; split <;> omega
   have hlen:((zs.take len).map Int.toNat).length=len:=by rw [List.length_map,List.length_take]; omega
   refine ⟨some a,(zs.take len).map Int.toNat,cap,by rw [hlen],?_⟩;refine ⟨some a,cap,rfl,by rw [hlen]; exact hlc,by unfold maxLen at hcm; omega,?_,fun hp=>⟨a,rfl,?_,?_⟩⟩
   · intro d hd;obtain ⟨z,hz,rfl⟩:=List.mem_map.1 hd;have:=bounds_u32 (hwf z (List.mem_of_mem_take hz));show z.toNat < 4294967296;omega
   · rw [hlen] at hp;have:=cell_lt (hcell 0 (by omega))
     rwa [kaq] at this
   · intro j hj;rw [hlen] at hj;have hj2:j < zs.length:=by omega
     rw [hcell j hj2];have hb:=bounds_u32 (hwf zs[j] (List.getElem_mem hj2));simp only [List.getElem_map,List.getElem_take];rw [List.getD_eq_getElem?_getD,List.getElem?_eq_getElem hj2];simp only [Option.getD_some]
     congr 2
     omega
theorem wb5 {fuel:Nat} {cs:List Value} {x:DataW H × List MemPlace} (h:DataW.trod enc Tryz.prog w 0 sp held fuel 25 cs=some x):∃ neg A ds c,cs=[.bool neg,.slice A ds.length c]/\jb w (.slice A ds.length c) ds:=by
 obtain ⟨xs,n,rfl,-,hl,hx,hf⟩:=DataW.trod_struct Tryz.underlying25 h;have hl2:cs.length=2:=hl.trans (by kernel_rfl);have hx2:xs.length=2:=hx;obtain ⟨c0,c1,rfl⟩:=gcj hl2;obtain ⟨x0,x1,rfl⟩:=gcj hx2;have f0:DataW.trod enc Tryz.prog w 0 sp held n 4 ((List.drop 0 [c0,c1]).take (Tryz.prog.cellsOf 4))=some x0:=hf 0 _ rfl;have f1:DataW.trod enc Tryz.prog w 0 sp held n 23 ((List.drop 1 [c0,c1]).take (Tryz.prog.cellsOf 23))=some x1:=hf 1 _ rfl;rw [show Tryz.prog.cellsOf 4=1 by kernel_rfl] at f0;rw [show Tryz.prog.cellsOf 23=1 by kernel_rfl] at f1;simp only [List.drop_zero,List.drop_succ_cons,List.take_succ_cons,List.take_zero,List.getElem?_cons_zero,List.getElem?_cons_succ] at f0 f1;obtain ⟨b,e,-⟩:=DataW.trod_bool Tryz.underlying4 f0;obtain ⟨A,ds,c,e1,hn⟩:=ucd f1;simp only [List.cons.injEq,and_true] at e e1;exact ⟨b,A,ds,c,by rw [e,e1],hn⟩
end
end Go.Proofs.YtaedbimbbeploaaGreatDoor

/- Reading the arguments: polynomials and matrices that came in. -/
set_option maxRecDepth 100000
set_option maxHeartbeats 8000000
namespace Go.Proofs.YtaedbimbbeploaaGreatDoor
open Go.ChangeShapes Go.WideShapes Go.RowKit
section
variable {H:Type} {enc:TypeId × Value->H} {w:World} {sp:Nat->Bool} {held:Bool}
theorem gcm {a:Addr} {r:Pl × Value × Value} (h:w.cells? 0 a 4=some (plC r)):kab w a r.1 r.2.1 r.2.2/\a.block < w.heap.size:=by
 have hc:=(World.cells?_some h).2.2;have c0:=hc 0 (by omega);have c1:=hc 1 (by omega);have c2:=hc 2 (by omega);have c3:=hc 3 (by omega);rw [kaq] at c0;rw [ja2] at c1 c2 c3;exact ⟨⟨c0,c1,c2,c3⟩,cell_lt c0⟩
theorem gb5 (fuel:Nat):∀ (cs:List Value) (x:DataW H × List MemPlace),DataW.trod enc Tryz.prog w 0 sp held fuel 42 cs=some x->∃ r:Pl × Value × Value,cs=plC r/\PlV w (fun _=>True) r.1 (plV r.1 r.2.1 r.2.2):=by
 induction fuel using Nat.strongRecOn with
 | _ fuel ih =>
 intro cs x h;obtain ⟨xs,n,rfl,-,hl,hx,hf⟩:=DataW.trod_struct Tryz.underlying42 h;have hk:Tryz.prog.cellsOf 42=4:=by kernel_rfl
 have hl2:cs.length=4:=hl.trans hk;have hx2:xs.length=3:=hx;obtain ⟨c0,c1,c2,c3,rfl⟩:=ybp hl2;obtain ⟨x0,x1,x2,rfl⟩:=ucj hx2;have f0:DataW.trod enc Tryz.prog w 0 sp held n 3 ((List.drop 0 [c0,c1,c2,c3]).take (Tryz.prog.cellsOf 3))=some x0:=hf 0 _ rfl;have f1:DataW.trod enc Tryz.prog w 0 sp held n 25 ((List.drop 1 [c0,c1,c2,c3]).take (Tryz.prog.cellsOf 25))=some x1:=hf 1 _ rfl;have f2:DataW.trod enc Tryz.prog w 0 sp held n 40 ((List.drop 3 [c0,c1,c2,c3]).take (Tryz.prog.cellsOf 40))=some x2:=hf 2 _ rfl;rw [show Tryz.prog.cellsOf 3=1 by kernel_rfl] at f0;rw [show Tryz.prog.cellsOf 25=2 by kernel_rfl] at f1;rw [show Tryz.prog.cellsOf 40=1 by kernel_rfl] at f2;simp only [List.drop_zero,List.drop_succ_cons,List.take_succ_cons,List.take_zero,List.getElem?_cons_zero,List.getElem?_cons_succ] at f0 f1 f2;obtain ⟨lv,e0,-⟩:=DataW.trod_int Tryz.underlying3 f0;obtain ⟨neg,A,ds,c,e1,hn⟩:=wb5 f1;simp only [List.cons.injEq,and_true] at e0 e1;obtain ⟨e1,e2⟩:=e1;have hkids:∃ ks B m,c3=.slice B ks.length m/\ks.length<=m/\m<=9223372036854775807/\jd w (fun _=>True) ks B 0:=by
  rcases DataW.trod_slice Tryz.underlying40 f2 with ⟨e8,-⟩ | ⟨a,len,cap,elems,rest,n',hfu,e8,-,-,hlc,hcm,hel,hat,-⟩
  · simp only [List.cons.injEq,and_true] at e8;exact ⟨[],none,0,e8,by simp,by omega,by unfold jd; trivial⟩
  · simp only [List.cons.injEq,and_true] at e8;rw [hk] at hat;have each:∀ i:Nat,∃ t:Pl,i < len->∃ s K,kab w (a.add (i * 4)) t s K/\a.block < w.heap.size/\PlV w (fun _=>True) t (plV t s K):=by
     intro i
     by_cases hi:i < len
     · have h1:=hat i hi;rw [List.getElem?_eq_getElem (by omega)] at h1;obtain ⟨cs',hc,ht⟩:=Option.bind_eq_some_iff.1 h1;obtain ⟨r,rfl,hr⟩:=ih n' (by omega) cs' _ ht;obtain ⟨h2,h3⟩:=gcm hc;rw [ja] at h3;exact ⟨r.1,fun _=>⟨r.2.1,r.2.2,h2,h3,hr⟩⟩
     · exact ⟨Pl.zero,fun h=>absurd h hi⟩
    refine ⟨(List.range len).map (fun i=>Classical.choose (each i)),some a,cap,by simpa using e8,by simpa using hlc,by unfold maxLen at hcm; omega,jd.of _ _ _ fun i hi=>?_⟩;simp only [List.length_map,List.length_range] at hi;obtain ⟨s,K,h1,h2,h3⟩:=Classical.choose_spec (each i) hi;simp only [List.getElem_map,List.getElem_range,Nat.zero_add];exact ⟨a,s,K,rfl,h2,trivial,h1,h3⟩
 obtain ⟨ks,B,m,e8,hm1,hm2,hat⟩:=hkids;refine ⟨(.mk lv neg ds ks,c2,c3),?_,?_⟩
 · unfold plC;rw [e0,e1]
   rfl
 · have:=PlV.mk (w:=w) (p:=fun _=>True) (t:=.mk lv neg ds ks) (s:=c2) (A:=B) (c:=m) (by rw [e2]; exact hn) hm1 hm2 hat;rw [e8];exact this
theorem wcm {a:Addr} {r:Mx × Value × Value × Value} (h:w.cells? 0 a 7=some (mxC r)):jak w a r.1 r.2.1 r.2.2.1 r.2.2.2/\a.block < w.heap.size:=by
 have hc:=(World.cells?_some h).2.2;have c0:=hc 0 (by omega);have c1:=hc 1 (by omega);have c2:=hc 2 (by omega);have c3:=hc 3 (by omega);have c4:=hc 4 (by omega);have c5:=hc 5 (by omega);have c6:=hc 6 (by omega);rw [kaq] at c0;rw [ja2] at c1 c2 c3 c4 c5 c6;exact ⟨⟨c0,c1,c2,c3,c4,c5,c6⟩,cell_lt c0⟩
theorem gav {α:Type} {l:List α} (h:l.length=7):∃ a b c d e f g,l=[a,b,c,d,e,f,g]:=by
 obtain ⟨a,b,c,d,h1⟩:=ybp (l:=l.take 4) (by rw [List.length_take]; omega);obtain ⟨e,f,g,h2⟩:=ucj (l:=l.drop 4) (by rw [List.length_drop]; omega);exact ⟨a,b,c,d,e,f,g,by rw [<- List.take_append_drop 4 l,h1,h2]; rfl⟩
theorem vbs (fuel:Nat):∀ (cs:List Value) (x:DataW H × List MemPlace),DataW.trod enc Tryz.prog w 0 sp held fuel 45 cs=some x->∃ r:Mx × Value × Value × Value,cs=mxC r/\MxV w (fun _=>True) r.1 (mxV r.1 r.2.1 r.2.2.1 r.2.2.2):=by
 induction fuel using Nat.strongRecOn with
 | _ fuel ih =>
 intro cs x h;obtain ⟨xs,n,rfl,-,hl,hx,hf⟩:=DataW.trod_struct Tryz.underlying45 h;have hk:Tryz.prog.cellsOf 45=7:=by kernel_rfl
 have hl2:cs.length=7:=hl.trans hk;have hx2:xs.length=4:=hx;obtain ⟨c0,c1,c2,c3,c4,c5,c6,rfl⟩:=gav hl2;obtain ⟨x0,x1,x2,x3,rfl⟩:=ybp hx2;have f0:DataW.trod enc Tryz.prog w 0 sp held n 3 ((List.drop 0 [c0,c1,c2,c3,c4,c5,c6]).take (Tryz.prog.cellsOf 3))=some x0:=hf 0 _ rfl;have f1:DataW.trod enc Tryz.prog w 0 sp held n 26 ((List.drop 1 [c0,c1,c2,c3,c4,c5,c6]).take (Tryz.prog.cellsOf 26))=some x1:=hf 1 _ rfl;have f2:DataW.trod enc Tryz.prog w 0 sp held n 42 ((List.drop 2 [c0,c1,c2,c3,c4,c5,c6]).take (Tryz.prog.cellsOf 42))=some x2:=hf 2 _ rfl;have f3:DataW.trod enc Tryz.prog w 0 sp held n 43 ((List.drop 6 [c0,c1,c2,c3,c4,c5,c6]).take (Tryz.prog.cellsOf 43))=some x3:=hf 3 _ rfl;rw [show Tryz.prog.cellsOf 3=1 by kernel_rfl] at f0;rw [show Tryz.prog.cellsOf 26=1 by kernel_rfl] at f1;rw [show Tryz.prog.cellsOf 42=4 by kernel_rfl] at f2;rw [show Tryz.prog.cellsOf 43=1 by kernel_rfl] at f3;simp only [List.drop_zero,List.drop_succ_cons,List.take_succ_cons,List.take_zero,List.getElem?_cons_zero,List.getElem?_cons_succ] at f0 f1 f2 f3;obtain ⟨kind,e0,-⟩:=DataW.trod_int Tryz.underlying3 f0;obtain ⟨rel,e1,-⟩:=DataW.trod_int Tryz.underlying26 f1;obtain ⟨⟨pl,ps,pA⟩,e2,hp⟩:=gb5 n _ _ f2;simp only [plC,List.cons.injEq,and_true] at e0 e1 e2;obtain ⟨e2,e3,e4,e5⟩:=e2;have hkids:∃ ks B m,c6=.slice B ks.length m/\ks.length<=m/\m<=9223372036854775807/\jg w (fun _=>True) ks B 0:=by
  rcases DataW.trod_slice Tryz.underlying43 f3 with ⟨e8,-⟩ | ⟨a,len,cap,elems,rest,n',hfu,e8,-,-,hlc,hcm,hel,hat,-⟩
  · simp only [List.cons.injEq,and_true] at e8;exact ⟨[],none,0,e8,by simp,by omega,by unfold jg; trivial⟩
  · simp only [List.cons.injEq,and_true] at e8;rw [hk] at hat;have each:∀ i:Nat,∃ t:Mx,i < len->∃ s A K,jak w (a.add (i * 7)) t s A K/\a.block < w.heap.size/\MxV w (fun _=>True) t (mxV t s A K):=by
     intro i
     by_cases hi:i < len
     · have h1:=hat i hi;rw [List.getElem?_eq_getElem (by omega)] at h1;obtain ⟨cs',hc,ht⟩:=Option.bind_eq_some_iff.1 h1;obtain ⟨r,rfl,hr⟩:=ih n' (by omega) cs' _ ht;obtain ⟨h2,h3⟩:=wcm hc;rw [ja] at h3;exact ⟨r.1,fun _=>⟨r.2.1,r.2.2.1,r.2.2.2,h2,h3,hr⟩⟩
     · exact ⟨.mk 0 0 Pl.zero [],fun h=>absurd h hi⟩
    refine ⟨(List.range len).map (fun i=>Classical.choose (each i)),some a,cap,by simpa using e8,by simpa using hlc,by unfold maxLen at hcm; omega,jg.of _ _ _ fun i hi=>?_⟩;simp only [List.length_map,List.length_range] at hi;obtain ⟨s,A,K,h1,h2,h3⟩:=Classical.choose_spec (each i) hi;simp only [List.getElem_map,List.getElem_range,Nat.zero_add];exact ⟨a,s,A,K,rfl,h2,trivial,h1,h3⟩
 obtain ⟨ks,B,m,e8,hm1,hm2,hat⟩:=hkids;refine ⟨(.mk kind rel pl ks,c4,c5,c6),?_,?_⟩
 · unfold mxC;rw [e0,e1,e2,e3]
   rfl
 · have:=MxV.mk (w:=w) (p:=fun _=>True) (t:=.mk kind rel pl ks) (s:=c4) (A:=c5) (K:=B) (c:=m) (by rw [e4,e5]; exact hp) hm1 hm2 hat;rw [e8];exact this
theorem jbu {r:Reach} {b0:Nat} {v:Value} {d:DataW H} {ps:List MemPlace} (hval:Value.okWide Tryz.prog w r b0 45 v) (h:DataW.Trod enc Tryz.prog w 0 sp held 45 v d ps):∃ t,MxV w (fun _=>True) t v:=by
 obtain ⟨fuel,h⟩:=h;obtain ⟨r,e,ht⟩:=vbs fuel _ _ h;simp only [Value.okWide,Tryz.underlying45] at hval;obtain ⟨cs,rfl,-⟩:=hval;refine ⟨r.1,?_⟩;have:Value.agg cs=mxV r.1 r.2.1 r.2.2.1 r.2.2.2:=by
  unfold mxV
  congr 1
  exact Array.toList_inj.1 e
 rw [this]; exact ht
end
end Go.Proofs.YtaedbimbbeploaaGreatDoor

/- Law 38: awake: the prenex form of forall x. x < y. -/
set_option maxRecDepth 100000
set_option maxHeartbeats 8000000
namespace Go.Proofs.YtaedbimbbeploaaGreatDoor
open Go.RowKit
def nx:ByteArray:=⟨#[120]⟩
def ny:ByteArray:=⟨#[121]⟩
def f38:Fm:=.quant true nx (.atom (.name nx) 1 (.name ny))
theorem gcu:f38.nmE=0:=by decide +kernel
theorem za8:f38.free=[ny]:=by decide +kernel
def gbn:Pl:=.mk 2 false [] [.mk 1 false [] [Pl.zero,Pl.const (-1)],Pl.const 1]
theorem kch:(Pl.mk 1 false [] [Pl.zero,Pl.const (-1)]).Can:=by
 refine ua0 (by omega) (by omega) (by simp) (wag fun c hc=>?_) (by
  have h1:=vaf (n:=1) (by decide)
  simp [Pl.const,Pl.zero])
 simp only [List.mem_cons,List.not_mem_nil,or_false] at hc;rcases hc with rfl | rfl
 · exact ⟨by simp [Pl.zero,Pl.lv],Pl.zero_can⟩
 · exact ⟨by simp [Pl.const,Pl.lv],kad _⟩
theorem vch:gbn.Can:=by
 refine ua0 (by omega) (by omega) (by simp) (wag fun c hc=>?_) (by
  have h1:=vaf (n:=1) (by decide);simp [Pl.const,Pl.zero];intro e;rw [e] at h1
  simp at h1)
 simp only [List.mem_cons,List.not_mem_nil,or_false] at hc;rcases hc with rfl | rfl
 · exact ⟨by simp [Pl.lv],kch⟩
 · exact ⟨by simp [Pl.const,Pl.lv],kad _⟩
theorem var_val (ρ:Int->Rat) (n:Int) (h:1<=n/\n<=4):(Pl.var n).val ρ=ρ n:=by
 unfold Pl.var;rw [if_pos h,Pl.mk_val ρ _ _ _ (by omega) h.2,qh,qh,qh,Pl.zero_val,Pl.const_val]
 push_cast
 grind
theorem zcs:(Pl.var 2).add (Pl.var 1).opp=gbn:=Pl.val_uniq (Pl.add_can _ _) vch fun ρ=>by
 rw [Pl.add_val,Pl.opp_val,var_val ρ 2 (by omega),var_val ρ 1 (by omega)];unfold gbn;rw [Pl.mk_val ρ _ _ _ (by omega) (by omega),qh,qh,qh,Pl.mk_val ρ _ _ _ (by omega) (by omega),qh,qh,qh,Pl.zero_val,Pl.const_val,Pl.const_val]
 push_cast
 grind
theorem jbd:(xy f38 true f38.st).1=ubc 1 gbn/\(xy f38 true f38.st).2.all=[true]/\(xy f38 true f38.st).2.names=[ny,nx]:=by
 unfold Fm.st;rw [za8];refine ⟨?_,rfl,rfl⟩;rw [<- zcs]
 rfl
theorem xa6 (w:World):Calls Tryz.prog 9 #[] w (qaj true w):=by
 go_enter Tryz.func9,Tryz.ntmps9;go_wp2_with fail;obtain ⟨W,hW⟩:∃ W,w.alloc (.cells #[.bool true,.string ⟨#[120]⟩,.iface 93 (.agg #[.iface 91 (.agg #[.string ⟨#[120]⟩]),.int .i64 1,.iface 91 (.agg #[.string ⟨#[121]⟩])])] 95)=W:=⟨_,rfl⟩;have hWx:Ext w W:=by rw [<- hW]; exact (Ext.refl w).alloc _
 have hfv:FmV W 0 f38 (.iface 95 (.agg #[.bool true,.string ⟨#[120]⟩,.iface 93 (.agg #[.iface 91 (.agg #[.string ⟨#[120]⟩]),.int .i64 1,.iface 91 (.agg #[.string ⟨#[121]⟩])])])):=
  ⟨_,rfl,_,_,rfl,rfl,rfl⟩
 have HWX:=Lib.hid hWx;rw [hW];clear hW hWx;refine (xcx (w0:=W) (L:=0) (by omega) f38 (Ext.refl W) hfv (by decide) rfl gcu ⟨by decide,by decide⟩ (by rw [za8]; decide) ⟨⟨jbe _ _ _,jbe _ _ _⟩,qcg vcr⟩ (fun w1 _ gb bl _ hlo=>vca hlo (kcj (fun _=>va0) (fun _=>va0)))).mono ?_;rintro e w1 ⟨u,rfl,x1,hp⟩;rw [za8,jbd.1,jbd.2.1,jbd.2.2] at hp;obtain ⟨A1,c1,A2,c2,A0,n0,c0,B,n1,c3,K,n2,c4,rfl,hA,hN,-⟩:=hp;obtain ⟨a1,y1,rfl,k1,rfl⟩:=SlR.get_ hA 0 (by simp);obtain ⟨a2,y2,rfl,k2,rfl⟩:=SlR.get_ hN 0 (by simp);obtain ⟨a2',y3,e2,k3,rfl⟩:=SlR.get_ hN 1 (by simp);injection e2 with e2
 subst e2;simp only [List.getElem_cons_zero,List.getElem_cons_succ] at k1 k2 k3;have hb1:=cell_lt k1;have hb2:=cell_lt k2;have hb3:=cell_lt k3;rw [ja] at hb1 hb2 hb3;rw [kaq] at k1 k2;rw [show (1:Nat)=0+1 from rfl,ja2] at k3;simp only [Nat.zero_add] at k3;have j2:ny=⟨#[121]⟩:=rfl;have j3:nx=⟨#[120]⟩:=rfl;rw [j2] at k2;rw [j3] at k3;clear j2 j3;have X1:=Lib.hid (HWX.out.trans x1);clear hA hN x1 hfv;unfold pxC;simp only [List.length_cons,List.length_nil,Nat.zero_add,Nat.reduceAdd,ubc,Mx.kind,Mx.rel,Mx.p,gbn,Pl.lv,Pl.neg];go_wp2_with fail;go_ret;exact ⟨rfl,X1.out.alloc _⟩
end Go.Proofs.YtaedbimbbeploaaGreatDoor
