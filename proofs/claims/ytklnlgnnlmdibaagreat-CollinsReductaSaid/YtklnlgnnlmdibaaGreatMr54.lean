/- CollinsReducta: for every sum of terms and every level the statement answers true, and the arguments stay as they are. No condition. -/
import Derived.Test.YtklnlgnnlmdibaaGreatMr0
import Derived.Test.YtklnlgnnlmdibaaGreatMr7
import Derived.Deep.Slices
import Derived.ChangeSlices
import Derived.Carry
import Derived.OpenShut
import Derived.ProofKit
import Derived.Test.YtklnlgnnlmdibaaGreatMr13
import Derived.WalkKit
import Derived.Below
import Derived.ChangeSame
import Derived.Test.YtklnlgnnlmdibaaGreatRows
import Derived.Test.YtklnlgnnlmdibaaGreatRightRd
set_option linter.unusedSimpArgs false
set_option linter.unusedVariables false

namespace Go.Proofs.YtklnlgnnlmdibaaGreat
open Go.RowKit
theorem len0 {α:Type} {l:List α} (h:l.length=0):l=[]:=List.eq_nil_of_length_eq_zero h
theorem len1 {α:Type} {l:List α} (h:l.length=1):∃ x,l=[x]:=by
 cases l with
 | nil=>simp at h
 | cons x r=>exact ⟨x,by rw [len0 (l:=r) (by simpa using h)]⟩
theorem wbv {α:Type} {l:List α} (h:l.length=2):∃ x y,l=[x,y]:=by
 cases l with
 | nil=>simp at h
 | cons x r =>
   obtain ⟨y,rfl⟩:=len1 (l:=r) (by simpa using h);exact ⟨x,y,rfl⟩
end Go.Proofs.YtklnlgnnlmdibaaGreat

/- Reading the arguments: numbers. -/
namespace Go.Proofs.YtklnlgnnlmdibaaGreat
open Go.ChangeShapes Go.WideShapes Go.RowKit
theorem cell_lt {w:World} {a:Addr} {v:Value} (h:w.cell? a=some v):a.block < w.heap.size:=by
 unfold World.cell? at h
 split at h
 · rename_i hh;exact (Array.getElem?_eq_some_iff.1 hh).1
 · cases h
theorem qb5 (a:Addr) (n:Nat):a.add (n+1)=⟨a.block,a.off+(n+1),none⟩:=by simp [Addr.add]
theorem vbd (a:Addr):a.add 0=a:=by simp [Addr.add]
theorem gco {α:Type} {l:List α} (h:l.length=3):∃ x y z,l=[x,y,z]:=by
 cases l with
 | nil=>simp at h
 | cons x r =>
   obtain ⟨y,z,rfl⟩:=wbv (l:=r) (by simpa using h);exact ⟨x,y,z,rfl⟩
theorem wca {α:Type} {l:List α} (h:l.length=4):∃ x y z u,l=[x,y,z,u]:=by
 cases l with
 | nil=>simp at h
 | cons x r =>
   obtain ⟨y,z,u,rfl⟩:=gco (l:=r) (by simpa using h);exact ⟨x,y,z,u,rfl⟩
theorem len8 {α:Type} {l:List α} (h:l.length=8):∃ a b c d e f g i,l=[a,b,c,d,e,f,g,i]:=by
 obtain ⟨a,b,c,d,h1⟩:=wca (l:=l.take 4) (by rw [List.length_take]; omega);obtain ⟨e,f,g,i,h2⟩:=wca (l:=l.drop 4) (by rw [List.length_drop]; omega);exact ⟨a,b,c,d,e,f,g,i,by rw [<- List.take_append_drop 4 l,h1,h2]; rfl⟩
section
variable {H:Type} {enc:TypeId × Value->H} {w:World} {sp:Nat->Bool} {held:Bool}
theorem zb6 {fuel:Nat} {cs:List Value} {x:DataW H × List MemPlace} (h:DataW.trod enc Tryz.prog w 0 sp held fuel 31 cs=some x):∃ A ds c,cs=[.slice A ds.length c]/\jc w (.slice A ds.length c) ds:=by
 rcases open_ints Tryz.underlying31 Tryz.underlying90 (by kernel_rfl) h with ⟨rfl,-⟩ | ⟨a,len,cap,zs,rfl,-,hlc,hcm,hzl,-,hcell,hwf⟩
 · exact ⟨none,[],0,rfl,jc.nil w⟩
 · have hle:len<=zs.length:=by rw [hzl]; split <;> omega
   have hlen:((zs.take len).map Int.toNat).length=len:=by rw [List.length_map,List.length_take]; omega
   refine ⟨some a,(zs.take len).map Int.toNat,cap,by rw [hlen],?_⟩;refine ⟨some a,cap,rfl,by rw [hlen]; exact hlc,by unfold maxLen at hcm; omega,?_,fun hp=>⟨a,rfl,?_,?_⟩⟩
   · intro d hd;obtain ⟨z,hz,rfl⟩:=List.mem_map.1 hd;have:=bounds_u32 (hwf z (List.mem_of_mem_take hz));show z.toNat < 4294967296;omega
   · rw [hlen] at hp;have:=cell_lt (hcell 0 (by omega))
     rwa [vbd] at this
   · intro j hj;rw [hlen] at hj;have hj2:j < zs.length:=by omega
     rw [hcell j hj2];have hb:=bounds_u32 (hwf zs[j] (List.getElem_mem hj2));simp only [List.getElem_map,List.getElem_take];rw [List.getD_eq_getElem?_getD,List.getElem?_eq_getElem hj2];simp only [Option.getD_some]
     congr 2
     omega
theorem xby {fuel:Nat} {cs:List Value} {x:DataW H × List MemPlace} (h:DataW.trod enc Tryz.prog w 0 sp held fuel 33 cs=some x):∃ neg A ds c,cs=[.bool neg,.slice A ds.length c]/\jc w (.slice A ds.length c) ds:=by
 obtain ⟨xs,n,rfl,-,hl,hx,hf⟩:=DataW.trod_struct Tryz.underlying33 h;have hl2:cs.length=2:=hl.trans (by kernel_rfl);have hx2:xs.length=2:=hx;obtain ⟨c0,c1,rfl⟩:=wbv hl2;obtain ⟨x0,x1,rfl⟩:=wbv hx2;have f0:DataW.trod enc Tryz.prog w 0 sp held n 4 ((List.drop 0 [c0,c1]).take (Tryz.prog.cellsOf 4))=some x0:=hf 0 _ rfl;have f1:DataW.trod enc Tryz.prog w 0 sp held n 31 ((List.drop 1 [c0,c1]).take (Tryz.prog.cellsOf 31))=some x1:=hf 1 _ rfl;rw [show Tryz.prog.cellsOf 4=1 by kernel_rfl] at f0;rw [show Tryz.prog.cellsOf 31=1 by kernel_rfl] at f1;simp only [List.drop_zero,List.drop_succ_cons,List.take_succ_cons,List.take_zero,List.getElem?_cons_zero,List.getElem?_cons_succ] at f0 f1;obtain ⟨b,e,-⟩:=DataW.trod_bool Tryz.underlying4 f0;obtain ⟨A,ds,c,e1,hn⟩:=zb6 f1;simp only [List.cons.injEq,and_true] at e e1;exact ⟨b,A,ds,c,by rw [e,e1],hn⟩
end
end Go.Proofs.YtklnlgnnlmdibaaGreat

/- Reading the arguments: sums of terms that came in. -/
set_option maxRecDepth 100000
set_option maxHeartbeats 8000000
namespace Go.Proofs.YtklnlgnnlmdibaaGreat
open Go.ChangeShapes Go.WideShapes Go.RowKit
theorem uco {α:Type} {l:List α} (h:l.length=6):∃ a b c d e f,l=[a,b,c,d,e,f]:=by
 match l,h with
 | [a,b,c,d,e,f],_=>exact ⟨a,b,c,d,e,f,rfl⟩
section
variable {H:Type} {enc:TypeId × Value->H} {w:World} {sp:Nat->Bool} {held:Bool}
theorem yby {fuel:Nat} {cs:List Value} {x:DataW H × List MemPlace} (h:DataW.trod enc Tryz.prog w 0 sp held fuel 75 cs=some x):∃ m:Mo,cs=[.int .i64 m.a,.int .i64 m.b,.int .i64 m.c,.int .i64 m.d]:=by
 obtain ⟨xs,n,rfl,-,hl,hx,hf⟩:=DataW.trod_array Tryz.underlying75 h;have hl2:cs.length=4:=hl.trans (by kernel_rfl);obtain ⟨a0,a1,a2,a3,rfl⟩:=wca hl2;rw [show Tryz.prog.cellsOf 3=1 by kernel_rfl] at hf;have f0:=hf 0 (by omega);have f1:=hf 1 (by omega);have f2:=hf 2 (by omega);have f3:=hf 3 (by omega);rw [List.getElem?_eq_getElem (by omega)] at f0 f1 f2 f3;simp only [Nat.zero_mul,Nat.one_mul,Nat.reduceMul,List.drop_zero,List.drop_succ_cons,List.take_succ_cons,List.take_zero] at f0 f1 f2 f3;obtain ⟨z0,e0,-⟩:=DataW.trod_int Tryz.underlying3 f0;obtain ⟨z1,e1,-⟩:=DataW.trod_int Tryz.underlying3 f1;obtain ⟨z2,e2,-⟩:=DataW.trod_int Tryz.underlying3 f2;obtain ⟨z3,e3,-⟩:=DataW.trod_int Tryz.underlying3 f3;simp only [List.cons.injEq,and_true] at e0 e1 e2 e3;exact ⟨⟨z0,z1,z2,z3⟩,by rw [e0,e1,e2,e3]⟩
theorem zby {fuel:Nat} {cs:List Value} {x:DataW H × List MemPlace} (h:DataW.trod enc Tryz.prog w 0 sp held fuel 93 cs=some x):∃ neg A ds c m,cs=tmC neg (.slice A ds.length c) m/\jc w (.slice A ds.length c) ds:=by
 obtain ⟨xs,n,rfl,-,hl,hx,hf⟩:=DataW.trod_struct Tryz.underlying93 h;have hl2:cs.length=6:=hl.trans (by kernel_rfl);have hx2:xs.length=2:=hx;obtain ⟨c0,c1,c2,c3,c4,c5,rfl⟩:=uco hl2;obtain ⟨x0,x1,rfl⟩:=wbv hx2;have f0:DataW.trod enc Tryz.prog w 0 sp held n 33 ((List.drop 0 [c0,c1,c2,c3,c4,c5]).take (Tryz.prog.cellsOf 33))=some x0:=hf 0 _ rfl;have f1:DataW.trod enc Tryz.prog w 0 sp held n 75 ((List.drop 2 [c0,c1,c2,c3,c4,c5]).take (Tryz.prog.cellsOf 75))=some x1:=hf 1 _ rfl;rw [show Tryz.prog.cellsOf 33=2 by kernel_rfl] at f0;rw [show Tryz.prog.cellsOf 75=4 by kernel_rfl] at f1;simp only [List.drop_zero,List.drop_succ_cons,List.take_succ_cons,List.take_zero,List.getElem?_cons_zero,List.getElem?_cons_succ] at f0 f1;obtain ⟨neg,A,ds,c,e,hn⟩:=xby f0;obtain ⟨m,e1⟩:=yby f1;refine ⟨neg,A,ds,c,m,?_,hn⟩;simp only [List.cons.injEq,and_true] at e e1;obtain ⟨rfl,rfl⟩:=e;obtain ⟨rfl,rfl,rfl,rfl⟩:=e1
 rfl
theorem qbx {a:Addr} {b:Bool} {s:Value} {m:Mo} (hc:w.cells? 0 a 6=some (tmC b s m)):jam w a b s m/\a.block < w.heap.size:=by
 have hcc:=(World.cells?_some hc).2.2;have k0:=hcc 0 (by omega);have k1:=hcc 1 (by omega);have k2:=hcc 2 (by omega);have k3:=hcc 3 (by omega);have k4:=hcc 4 (by omega);have k5:=hcc 5 (by omega);rw [vbd] at k0;rw [qb5] at k1 k2 k3 k4 k5;exact ⟨⟨k0,k1,k2,k3,k4,k5⟩,cell_lt k0⟩
theorem zbt {fuel:Nat} {A:Option Addr} {n c:Nat} {x:DataW H × List MemPlace} (h:DataW.trod enc Tryz.prog w 0 sp held fuel 41 [.slice A n c]=some x):∃ ts,jak w (.slice A n c) ts:=by
 rcases DataW.trod_slice Tryz.underlying41 h with ⟨e8,-⟩ | ⟨a,len,cap,elems,rest,n',hfu,e8,-,-,hlc,hcm,hel,hat,-⟩
 · simp only [List.cons.injEq,and_true] at e8;rw [e8];exact ⟨[],none,0,rfl,by simp,by omega,fun j hj=>absurd hj (by simp)⟩
 · simp only [List.cons.injEq,and_true] at e8;rw [e8];rw [show Tryz.prog.cellsOf 93=6 by kernel_rfl] at hat;have each:∀ i:Nat,∃ t:qaf,i < len->∃ B c',a.block < w.heap.size/\jam w (a.add (i * 6)) t.neg (.slice B t.ds.length c') t.mo/\jc w (.slice B t.ds.length c') t.ds:=by
    intro i
    by_cases hi:i < len
    · have h1:=hat i hi;rw [List.getElem?_eq_getElem (by omega)] at h1;obtain ⟨cs',hc,ht⟩:=Option.bind_eq_some_iff.1 h1;obtain ⟨neg,B,ds,c',m,rfl,hn⟩:=zby ht;obtain ⟨h2,h3⟩:=qbx hc;rw [ja] at h3;exact ⟨⟨neg,ds,m⟩,fun _=>⟨B,c',h3,h2,hn⟩⟩
    · exact ⟨⟨false,[],Mo.one⟩,fun h=>absurd h hi⟩
   refine ⟨(List.range len).map (fun i=>Classical.choose (each i)),some a,cap,by simp,by simpa using hlc,by unfold maxLen at hcm; omega,fun j hj=>?_⟩;simp only [List.length_map,List.length_range] at hj;obtain ⟨B,c',h1,h2,h3⟩:=Classical.choose_spec (each j) hj;simp only [List.getElem_map,List.getElem_range];exact ⟨a,B,c',rfl,h1,h2,h3⟩
theorem jbv {r:Reach} {b0:Nat} {v:Value} {d:DataW H} {ps:List MemPlace} (hval:Value.okWide Tryz.prog w r b0 41 v) (h:DataW.Trod enc Tryz.prog w 0 sp held 41 v d ps):∃ ts,jak w v ts:=by
 obtain ⟨fuel,h⟩:=h;obtain ⟨A,n,c,rfl⟩:=okWide_slice Tryz.underlying41 hval;simp only [Value.cells] at h;exact zbt h
end
end Go.Proofs.YtklnlgnnlmdibaaGreat

/- The last step of every law that leaves its arguments alone. -/
namespace Go.Proofs.YtklnlgnnlmdibaaGreat
open Go.ChangeShapes Go.WideShapes Go.ChangeAt Go.RowKit
theorem ub9 {H : Type} {enc : TypeId × Value -> H} {P : Program} {f : Func} {s : ChangeSpec} {apart fresh handsOn again : Bool} {W W' : World} {args : Array Value} {v : Value} {ds gs : List (DataW H)} {before pa pv : List MemPlace}
 (hW:DataW.Whole enc P f.params.toList s.vars apart W args.toList ds gs before) (hx:Ext W W')
 (hres:∀ (b:Nat) (sp:Nat->Bool) (hd:Bool),DataW.TrodAll enc P W' b sp hd f.resultTypes.toList (v.resultList f.resultTypes.size) (s.fn H (ds ++ gs)).results [])
 (hargs:∀ sp:Nat->Bool,(∀ p ∈ before,sp p.block=true)->DataW.TrodAll enc P W' 0 sp true f.params.toList args.toList (s.fn H (ds ++ gs)).args pa)
 (hvars:∀ sp:Nat->Bool,(∀ p ∈ before,sp p.block=true)->DataW.TrodVars enc P W' sp s.vars (s.fn H (ds ++ gs)).vars pv) (hps:before=pa ++ pv)
 (hok:∀ (j:Nat) (t:TypeId) (r:Value),f.resultTypes[j]?=some t->(v.resultList f.resultTypes.size)[j]?=some r->Value.okWide P W' .any 0 t r) :
 s.post enc P f apart fresh handsOn again W args v W':=by
 have low:∀ p ∈ before,p.block < W.heap.size:=fun p hp=>hW.lt p hp
 have old:∀ p ∈ before,(fun b=>decide (b < W.heap.size)) p.block=true:=fun p hp=>by simpa using low p hp
 refine ⟨ds,gs,before,[],pa,pv,hW,hres _ _ _,hargs _ old,hvars _ old,World.keptBut_mono (fun p hp=>⟨hp,?_⟩) (Below.frame hx (· ∈ before)),fun _=>?_⟩
 · exact .inr (List.mem_append.1 (hps ▸ hp))
 · obtain ⟨_,_,_,_,_,hz,hn⟩:=hW;refine ⟨hok,_,_,([] ++ pa) ++ pv,⟨[] ++ pa,pv,trodAll_append (hargs _ (fun _ _=>rfl)) (hres _ _ _),hvars _ (fun _ _=>rfl),rfl,fun b off hp=>?_,fun ha=>?_⟩,?_⟩
   · have hin:MemPlace.cell b off ∈ before:=by rw [hps]; simpa using hp
     rw [hx.frozen (low _ hin)];exact hz b off hin
   · have h:=hn ha;rw [hps] at h;simpa using h
   · exact fun p hp _=>by rw [hps]; simpa using hp
theorem qca:ownKnob Tryz.prog.godebug=none:=by kernel_rfl
theorem zcb:laidOutB Tryz.prog=true:=by kernel_rfl
theorem yb5 {H:Type} {enc:TypeId × Value->H} {W W':World} {t:TypeId} (hr:Tryz.prog.readableRec t=true) (hrow:t < Tryz.prog.types.size) {v:Value} {d:DataW H} {ps:List MemPlace} (h:DataW.Trod enc Tryz.prog W 0 (fun _=>true) true t v d ps) (hx:Ext W W') (hlt:∀ x ∈ ps,x.block < W.heap.size) {sp:Nat->Bool} (hs:∀ x ∈ ps,sp x.block=true):DataW.Trod enc Tryz.prog W' 0 sp true t v d ps:=
 WideElems.Trod_stays zcb hr hrow h (fun x hx'=>Below.same hx (hlt x hx')) hs
end Go.Proofs.YtklnlgnnlmdibaaGreat

/- CollinsReducta: for every sum of terms and every level the statement answers true, and the arguments stay as they are. No condition. -/
set_option maxRecDepth 100000
set_option maxHeartbeats 8000000
namespace Go.Proofs.YtklnlgnnlmdibaaGreat
open Go.ChangeShapes Go.WideShapes Go.ChangeAt Go.RowKit
theorem vck:Tryz.prog.readableRec 41=true:=by kernel_rfl
theorem kck:41 < Tryz.prog.types.size:=of_decide_eq_true (by kernel_rfl)
theorem ka9 (os:Os) (started:os.Started) (H:Type) (enc:TypeId × Value->H) :
 ReturnsInHanded {} Tryz.checked os 4 .any (Rows.collinsReductaSpec.pre6 enc Tryz.prog Tryz.f4 Rows.collinsReductaRow.domain false) (Rows.collinsReductaSpec.post enc Tryz.prog Tryz.f4 false true false false):=by
 refine returnsInHanded_of_change (C := Tryz.checked) qca started (by kernel_rfl) Tryz.func4
  (ChangeSpec.witness6 (enc:=enc) (C:=Tryz.checked) false ⟨#[],#[.slice none 0 0,.int .i64 0],[]⟩ 8 (by kernel_rfl) (by kernel_rfl) (by kernel_rfl) (by kernel_rfl)) ?_
 intro W base args ds gs before hval0 hW _ _;have hval:∀ (j:Nat) t v,Tryz.f4.params[j]?=some t->args[j]?=some v->Value.okWide Tryz.prog W .any base t v:=hval0;have hW':=hW;have low:∀ p ∈ before,p.block < W.heap.size:=fun p hp=>hW.lt p hp
 obtain ⟨p,q,hA0,hV,rfl,-,-⟩:=hW;have hA:DataW.TrodAll enc Tryz.prog W 0 (fun _=>true) true Tryz.f4.params.toList args.toList ds p:=hA0;rw [Tryz.params4] at hA hval;obtain ⟨v0,vs0,d0,ds0,p0,q0,hargs,rfl,rfl,h0,r0⟩:=trodAll_cons hA;obtain ⟨v1,vs1,d1,ds1,p1,q1,rfl,rfl,rfl,h1,r1⟩:=trodAll_cons r0;obtain ⟨rfl,rfl,rfl⟩:=trodAll_nil r1;obtain rfl:args=#[v0,v1]:=by cases args; simp_all
 obtain ⟨rfl,rfl⟩:=trodVars_none hV;obtain ⟨ts,ht⟩:=jbv (hval 0 41 v0 rfl rfl) h0;obtain ⟨l,rfl,rfl,rfl,wf⟩:=Go.ChangeShapes.open_int Tryz.underlying3 (hval 1 3 v1 rfl rfl) h1;clear hA0 hval0;simp only [List.append_nil] at hW' low;refine (yba (l:=l) v0 ht).mono fun e W' ⟨he,hx⟩=>?_
 subst he
 exact ⟨_, rfl, ub9 (pa := p0) (pv := []) hW' hx (fun _ _ _ => (trodAll_cons_mk (shut_bool Tryz.underlying4 _) trodAll_mk0))
  (fun sp hs=>by
    have:=trodAll_cons_mk (yb5 vck kck h0 hx (fun x hx'=>low x hx') (fun x hx'=>hs x hx')) (trodAll_cons_mk (Go.ChangeShapes.shut_int Tryz.underlying3 wf) trodAll_mk0);simp only [List.append_nil] at this
    exact this) (fun _ _=>rfl) (by simp)
  (ok_one (by kernel_rfl) rfl (okWide_bool_mk Tryz.underlying4 _))⟩
theorem ybh:Rows.collinsReductaRow.holds Tryz.pinned (OpenSpec.ofChange Rows.collinsReductaSpec):=
 OpenClaim.holds_of_wide 4 Tryz.f4 rfl rfl rfl rfl rfl rfl rfl ⟨rfl, rfl, rfl, rfl, rfl⟩ rfl rfl rfl rfl rfl (by kernel_rfl) Tryz.func4 (by kernel_rfl)
  (of_decide_eq_true (by kernel_rfl)) (by unfold Func.isWrapper; first | (rw [if_pos (by decide +kernel)]; kernel_rfl) | (rw [if_neg (by decide +kernel)]; exact ⟨rfl,rfl⟩))
  (fun os started H enc _=>ka9 os started H enc)
theorem reducta_proved:Rows.CollinsReductaSaid:=ybh
#print axioms reducta_proved
end Go.Proofs.YtklnlgnnlmdibaaGreat
