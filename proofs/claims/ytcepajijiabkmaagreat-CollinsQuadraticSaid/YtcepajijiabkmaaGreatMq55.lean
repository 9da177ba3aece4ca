/- CollinsQuadratic: for every three sums of terms the statement answers true, and the arguments stay as they are. No condition. -/
import Derived.Deep.Slices
import Derived.OpenShut
import Derived.ProofKit
import Derived.Test.YtcepajijiabkmaaGreatMq54
set_option linter.unusedSimpArgs false
set_option linter.unusedVariables false

namespace Go.Proofs.YtcepajijiabkmaaGreat
open Go.RowKit
theorem len0 {α:Type} {l:List α} (h:l.length=0):l=[]:=List.eq_nil_of_length_eq_zero h
theorem len1 {α:Type} {l:List α} (h:l.length=1):∃ x,l=[x]:=by
 cases l with
 | nil=>simp at h
 | cons x r=>exact ⟨x,by rw [len0 (l:=r) (by simpa using h)]⟩
theorem ycc {α:Type} {l:List α} (h:l.length=2):∃ x y,l=[x,y]:=by
 cases l with
 | nil=>simp at h
 | cons x r =>
   obtain ⟨y,rfl⟩:=len1 (l:=r) (by simpa using h);exact ⟨x,y,rfl⟩
open Go.ChangeShapes Go.WideShapes
theorem cell_lt {w:World} {a:Addr} {v:Value} (h:w.cell? a=some v):a.block < w.heap.size:=by
 unfold World.cell? at h
 split at h
 · rename_i hh;exact (Array.getElem?_eq_some_iff.1 hh).1
 · cases h
theorem ycn (a:Addr) (n:Nat):a.add (n+1)=⟨a.block,a.off+(n+1),none⟩:=by simp [Addr.add]
theorem zbo (a:Addr):a.add 0=a:=by simp [Addr.add]
theorem zc9 {α:Type} {l:List α} (h:l.length=3):∃ x y z,l=[x,y,z]:=by
 cases l with
 | nil=>simp at h
 | cons x r =>
   obtain ⟨y,z,rfl⟩:=ycc (l:=r) (by simpa using h);exact ⟨x,y,z,rfl⟩
theorem uct {α:Type} {l:List α} (h:l.length=4):∃ x y z u,l=[x,y,z,u]:=by
 cases l with
 | nil=>simp at h
 | cons x r =>
   obtain ⟨y,z,u,rfl⟩:=zc9 (l:=r) (by simpa using h);exact ⟨x,y,z,u,rfl⟩
theorem len8 {α:Type} {l:List α} (h:l.length=8):∃ a b c d e f g i,l=[a,b,c,d,e,f,g,i]:=by
 obtain ⟨a,b,c,d,h1⟩:=uct (l:=l.take 4) (by rw [List.length_take]; omega);obtain ⟨e,f,g,i,h2⟩:=uct (l:=l.drop 4) (by rw [List.length_drop]; omega);exact ⟨a,b,c,d,e,f,g,i,by rw [<- List.take_append_drop 4 l,h1,h2]; rfl⟩
section
variable {H:Type} {enc:TypeId × Value->H} {w:World} {sp:Nat->Bool} {held:Bool}
theorem zco {fuel:Nat} {cs:List Value} {x:DataW H × List MemPlace} (h:DataW.trod enc Tryz.prog w 0 sp held fuel 28 cs=some x):∃ A ds c,cs=[.slice A ds.length c]/\jb w (.slice A ds.length c) ds:=by
 rcases open_ints Tryz.underlying28 Tryz.underlying84 (by kernel_rfl) h with ⟨rfl,-⟩ | ⟨a,len,cap,zs,rfl,-,Xj,fC,dR,-,ai,hwf⟩
 · exact ⟨none,[],0,rfl,jb.nil w⟩
 · have hle:len<=zs.length:=by rw [dR]; split <;> omega
   have hlen:((zs.take len).map Int.toNat).length=len:=by rw [List.length_map,List.length_take]; omega
   refine ⟨some a,(zs.take len).map Int.toNat,cap,by rw [hlen],?_⟩;refine ⟨some a,cap,rfl,by rw [hlen]; exact Xj,by unfold maxLen at fC; omega,?_,fun hp=>⟨a,rfl,?_,?_⟩⟩
   · intro d hd;obtain ⟨z,hz,rfl⟩:=List.mem_map.1 hd;have:=bounds_u32 (hwf z (List.mem_of_mem_take hz));show z.toNat < 4294967296;omega
   · rw [hlen] at hp;have:=cell_lt (ai 0 (by omega))
     rwa [zbo] at this
   · intro j hj;rw [hlen] at hj;have lQ:j < zs.length:=by omega
     rw [ai j lQ];have hb:=bounds_u32 (hwf zs[j] (List.getElem_mem lQ));simp only [List.getElem_map,List.getElem_take];rw [List.getD_eq_getElem?_getD,List.getElem?_eq_getElem lQ];simp only [Option.getD_some]
     congr 2
     omega
theorem kcf {fuel:Nat} {cs:List Value} {x:DataW H × List MemPlace} (h:DataW.trod enc Tryz.prog w 0 sp held fuel 30 cs=some x):∃ neg A ds c,cs=[.bool neg,.slice A ds.length c]/\jb w (.slice A ds.length c) ds:=by
 obtain ⟨xs,n,rfl,-,hl,hx,hf⟩:=DataW.trod_struct Tryz.underlying30 h;have dK:cs.length=2:=hl.trans (by kernel_rfl);have aO:xs.length=2:=hx;obtain ⟨c0,c1,rfl⟩:=ycc dK;obtain ⟨x0,x1,rfl⟩:=ycc aO;have f0:DataW.trod enc Tryz.prog w 0 sp held n 4 ((List.drop 0 [c0,c1]).take (Tryz.prog.cellsOf 4))=some x0:=hf 0 _ rfl;have f1:DataW.trod enc Tryz.prog w 0 sp held n 28 ((List.drop 1 [c0,c1]).take (Tryz.prog.cellsOf 28))=some x1:=hf 1 _ rfl;rw [show Tryz.prog.cellsOf 4=1 by kernel_rfl] at f0;rw [show Tryz.prog.cellsOf 28=1 by kernel_rfl] at f1;simp only [List.drop_zero,List.drop_succ_cons,List.take_succ_cons,List.take_zero,List.getElem?_cons_zero,List.getElem?_cons_succ] at f0 f1;obtain ⟨b,e,-⟩:=DataW.trod_bool Tryz.underlying4 f0;obtain ⟨A,ds,c,e1,hn⟩:=zco f1;simp only [List.cons.injEq,and_true] at e e1;exact ⟨b,A,ds,c,by rw [e,e1],hn⟩
end
end Go.Proofs.YtcepajijiabkmaaGreat

set_option maxRecDepth 100000
set_option maxHeartbeats 8000000
namespace Go.Proofs.YtcepajijiabkmaaGreat
open Go.ChangeShapes Go.WideShapes Go.RowKit
theorem wc8 {α:Type} {l:List α} (h:l.length=6):∃ a b c d e f,l=[a,b,c,d,e,f]:=by
 match l,h with
 | [a,b,c,d,e,f],_=>exact ⟨a,b,c,d,e,f,rfl⟩
section
variable {H:Type} {enc:TypeId × Value->H} {w:World} {sp:Nat->Bool} {held:Bool}
theorem jcf {fuel:Nat} {cs:List Value} {x:DataW H × List MemPlace} (h:DataW.trod enc Tryz.prog w 0 sp held fuel 61 cs=some x):∃ m:Mo,cs=[.int .i64 m.a,.int .i64 m.b,.int .i64 m.c,.int .i64 m.d]:=by
 obtain ⟨xs,n,rfl,-,hl,hx,hf⟩:=DataW.trod_array Tryz.underlying61 h;have dK:cs.length=4:=hl.trans (by kernel_rfl);obtain ⟨a0,a1,a2,a3,rfl⟩:=uct dK;rw [show Tryz.prog.cellsOf 3=1 by kernel_rfl] at hf;have f0:=hf 0 (by omega);have f1:=hf 1 (by omega);have f2:=hf 2 (by omega);have f3:=hf 3 (by omega);rw [List.getElem?_eq_getElem (by omega)] at f0 f1 f2 f3;simp only [Nat.zero_mul,Nat.one_mul,Nat.reduceMul,List.drop_zero,List.drop_succ_cons,List.take_succ_cons,List.take_zero] at f0 f1 f2 f3;obtain ⟨z0,e0,-⟩:=DataW.trod_int Tryz.underlying3 f0;obtain ⟨z1,e1,-⟩:=DataW.trod_int Tryz.underlying3 f1;obtain ⟨z2,e2,-⟩:=DataW.trod_int Tryz.underlying3 f2;obtain ⟨z3,e3,-⟩:=DataW.trod_int Tryz.underlying3 f3;simp only [List.cons.injEq,and_true] at e0 e1 e2 e3;exact ⟨⟨z0,z1,z2,z3⟩,by rw [e0,e1,e2,e3]⟩
theorem qcf {fuel:Nat} {cs:List Value} {x:DataW H × List MemPlace} (h:DataW.trod enc Tryz.prog w 0 sp held fuel 76 cs=some x):∃ neg A ds c m,cs=tmC neg (.slice A ds.length c) m/\jb w (.slice A ds.length c) ds:=by
 obtain ⟨xs,n,rfl,-,hl,hx,hf⟩:=DataW.trod_struct Tryz.underlying76 h;have dK:cs.length=6:=hl.trans (by kernel_rfl);have aO:xs.length=2:=hx;obtain ⟨c0,c1,c2,c3,c4,c5,rfl⟩:=wc8 dK;obtain ⟨x0,x1,rfl⟩:=ycc aO;have f0:DataW.trod enc Tryz.prog w 0 sp held n 30 ((List.drop 0 [c0,c1,c2,c3,c4,c5]).take (Tryz.prog.cellsOf 30))=some x0:=hf 0 _ rfl;have f1:DataW.trod enc Tryz.prog w 0 sp held n 61 ((List.drop 2 [c0,c1,c2,c3,c4,c5]).take (Tryz.prog.cellsOf 61))=some x1:=hf 1 _ rfl;rw [show Tryz.prog.cellsOf 30=2 by kernel_rfl] at f0;rw [show Tryz.prog.cellsOf 61=4 by kernel_rfl] at f1;simp only [List.drop_zero,List.drop_succ_cons,List.take_succ_cons,List.take_zero,List.getElem?_cons_zero,List.getElem?_cons_succ] at f0 f1;obtain ⟨neg,A,ds,c,e,hn⟩:=kcf f0;obtain ⟨m,e1⟩:=jcf f1;refine ⟨neg,A,ds,c,m,?_,hn⟩;simp only [List.cons.injEq,and_true] at e e1;obtain ⟨rfl,rfl⟩:=e;obtain ⟨rfl,rfl,rfl,rfl⟩:=e1
 rfl
theorem qce {a:Addr} {b:Bool} {s:Value} {m:Mo} (hc:w.cells? 0 a 6=some (tmC b s m)):vak w a b s m/\a.block < w.heap.size:=by
 have jO:=(World.cells?_some hc).2.2;have k0:=jO 0 (by omega);have k1:=jO 1 (by omega);have k2:=jO 2 (by omega);have k3:=jO 3 (by omega);have k4:=jO 4 (by omega);have k5:=jO 5 (by omega);rw [zbo] at k0;rw [ycn] at k1 k2 k3 k4 k5;exact ⟨⟨k0,k1,k2,k3,k4,k5⟩,cell_lt k0⟩
theorem yb9 {fuel:Nat} {A:Option Addr} {n c:Nat} {x:DataW H × List MemPlace} (h:DataW.trod enc Tryz.prog w 0 sp held fuel 23 [.slice A n c]=some x):∃ ts,kaj w (.slice A n c) ts:=by
 rcases DataW.trod_slice Tryz.underlying23 h with ⟨e8,-⟩ | ⟨a,len,cap,elems,rest,n',hfu,e8,-,-,Xj,fC,lT,aK,-⟩
 · simp only [List.cons.injEq,and_true] at e8;rw [e8];exact ⟨[],none,0,rfl,by simp,by omega,fun j hj=>absurd hj (by simp)⟩
 · simp only [List.cons.injEq,and_true] at e8;rw [e8];rw [show Tryz.prog.cellsOf 76=6 by kernel_rfl] at aK;have each:∀ i:Nat,∃ t:gag,i < len->∃ B c',a.block < w.heap.size/\vak w (a.add (i * 6)) t.neg (.slice B t.ds.length c') t.mo/\jb w (.slice B t.ds.length c') t.ds:=by
    intro i
    by_cases hi:i < len
    · have h1:=aK i hi;rw [List.getElem?_eq_getElem (by omega)] at h1;obtain ⟨cs',hc,ht⟩:=Option.bind_eq_some_iff.1 h1;obtain ⟨neg,B,ds,c',m,rfl,hn⟩:=qcf ht;obtain ⟨h2,h3⟩:=qce hc;rw [ja] at h3;exact ⟨⟨neg,ds,m⟩,fun _=>⟨B,c',h3,h2,hn⟩⟩
    · exact ⟨⟨false,[],Mo.one⟩,fun h=>absurd h hi⟩
   refine ⟨(List.range len).map (fun i=>Classical.choose (each i)),some a,cap,by simp,by simpa using Xj,by unfold maxLen at fC; omega,fun j hj=>?_⟩;simp only [List.length_map,List.length_range] at hj;obtain ⟨B,c',h1,h2,h3⟩:=Classical.choose_spec (each j) hj;simp only [List.getElem_map,List.getElem_range];exact ⟨a,B,c',rfl,h1,h2,h3⟩
theorem wa0 {r:Reach} {b0:Nat} {v:Value} {d:DataW H} {ps:List MemPlace} (aH:Value.okWide Tryz.prog w r b0 23 v) (h:DataW.Trod enc Tryz.prog w 0 sp held 23 v d ps):∃ ts,kaj w v ts:=by
 obtain ⟨fuel,h⟩:=h;obtain ⟨A,n,c,rfl⟩:=okWide_slice Tryz.underlying23 aH;simp only [Value.cells] at h;exact yb9 h
end
open Go.ChangeAt
theorem xcs {H : Type} {enc : TypeId × Value -> H} {P : Program} {f : Func} {s : ChangeSpec} {apart fresh handsOn again : Bool} {W W' : World} {args : Array Value} {v : Value} {ds gs : List (DataW H)} {before pa pv : List MemPlace}
 (hW:DataW.Whole enc P f.params.toList s.vars apart W args.toList ds gs before) (hx:Ext W W')
 (kJ:∀ (b:Nat) (sp:Nat->Bool) (hd:Bool),DataW.TrodAll enc P W' b sp hd f.resultTypes.toList (v.resultList f.resultTypes.size) (s.fn H (ds ++ gs)).results [])
 (AU:∀ sp:Nat->Bool,(∀ p ∈ before,sp p.block=true)->DataW.TrodAll enc P W' 0 sp true f.params.toList args.toList (s.fn H (ds ++ gs)).args pa)
 (EH:∀ sp:Nat->Bool,(∀ p ∈ before,sp p.block=true)->DataW.TrodVars enc P W' sp s.vars (s.fn H (ds ++ gs)).vars pv) (uG:before=pa ++ pv)
 (jX:∀ (j:Nat) (t:TypeId) (r:Value),f.resultTypes[j]?=some t->(v.resultList f.resultTypes.size)[j]?=some r->Value.okWide P W' .any 0 t r) :
 s.post enc P f apart fresh handsOn again W args v W':=by
 have low:∀ p ∈ before,p.block < W.heap.size:=fun p hp=>hW.lt p hp
 have old:∀ p ∈ before,(fun b=>decide (b < W.heap.size)) p.block=true:=fun p hp=>by simpa using low p hp
 refine ⟨ds,gs,before,[],pa,pv,hW,kJ _ _ _,AU _ old,EH _ old,World.keptBut_mono (fun p hp=>⟨hp,?_⟩) (Below.frame hx (· ∈ before)),fun _=>?_⟩
 · exact .inr (List.mem_append.1 (uG ▸ hp))
 · obtain ⟨_,_,_,_,_,hz,hn⟩:=hW;refine ⟨jX,_,_,([] ++ pa) ++ pv,⟨[] ++ pa,pv,trodAll_append (AU _ (fun _ _=>rfl)) (kJ _ _ _),EH _ (fun _ _=>rfl),rfl,fun b off hp=>?_,fun ha=>?_⟩,?_⟩
   · have nK:MemPlace.cell b off ∈ before:=by rw [uG]; simpa using hp
     rw [hx.frozen (low _ nK)];exact hz b off nK
   · have h:=hn ha;rw [uG] at h;simpa using h
   · exact fun p hp _=>by rw [uG]; simpa using hp
theorem ucs:ownKnob Tryz.prog.godebug=none:=by kernel_rfl
theorem gct:laidOutB Tryz.prog=true:=by kernel_rfl
theorem ya6 {H:Type} {enc:TypeId × Value->H} {W W':World} {t:TypeId} (hr:Tryz.prog.readableRec t=true) (ae:t < Tryz.prog.types.size) {v:Value} {d:DataW H} {ps:List MemPlace} (h:DataW.Trod enc Tryz.prog W 0 (fun _=>true) true t v d ps) (hx:Ext W W') (af:∀ x ∈ ps,x.block < W.heap.size) {sp:Nat->Bool} (hs:∀ x ∈ ps,sp x.block=true):DataW.Trod enc Tryz.prog W' 0 sp true t v d ps:=
 WideElems.Trod_stays gct hr ae h (fun x ed=>Below.same hx (af x ed)) hs
theorem zbr:Tryz.prog.readableRec 23=true:=by kernel_rfl
theorem wbq:23 < Tryz.prog.types.size:=of_decide_eq_true (by kernel_rfl)
theorem wbb (os:Os) (started:os.Started) (H:Type) (enc:TypeId × Value->H) :
 ReturnsInHanded {} Tryz.checked os 3 .any (Rows.collinsQuadraticSpec.pre6 enc Tryz.prog Tryz.f3 Rows.collinsQuadraticRow.domain false) (Rows.collinsQuadraticSpec.post enc Tryz.prog Tryz.f3 false true false false):=by
 refine returnsInHanded_of_change (C := Tryz.checked) ucs started (by kernel_rfl) Tryz.func3
  (ChangeSpec.witness6 (enc:=enc) (C:=Tryz.checked) false ⟨#[],#[.slice none 0 0,.slice none 0 0,.slice none 0 0],[]⟩ 8 (by kernel_rfl) (by kernel_rfl) (by kernel_rfl) (by kernel_rfl)) ?_
 intro W base args ds gs before hval0 hW _ _;have aH:∀ (j:Nat) t v,Tryz.f3.params[j]?=some t->args[j]?=some v->Value.okWide Tryz.prog W .any base t v:=hval0;have bg:=hW;have low:∀ p ∈ before,p.block < W.heap.size:=fun p hp=>hW.lt p hp
 obtain ⟨p,q,hA0,hV,rfl,-,-⟩:=hW;have hA:DataW.TrodAll enc Tryz.prog W 0 (fun _=>true) true Tryz.f3.params.toList args.toList ds p:=hA0;rw [Tryz.params3] at hA aH;obtain ⟨v0,vs0,d0,ds0,p0,q0,AU,rfl,rfl,h0,r0⟩:=trodAll_cons hA;obtain ⟨v1,vs1,d1,ds1,p1,q1,rfl,rfl,rfl,h1,r1⟩:=trodAll_cons r0;obtain ⟨v2,vs2,d2,ds2,p2,q2,rfl,rfl,rfl,h2,r2⟩:=trodAll_cons r1;obtain ⟨rfl,rfl,rfl⟩:=trodAll_nil r2;obtain rfl:args=#[v0,v1,v2]:=by cases args; simp_all
 obtain ⟨rfl,rfl⟩:=trodVars_none hV;obtain ⟨ts,ht⟩:=wa0 (aH 0 23 v0 rfl rfl) h0;obtain ⟨us,hu⟩:=wa0 (aH 1 23 v1 rfl rfl) h1;obtain ⟨ws,hw⟩:=wa0 (aH 2 23 v2 rfl rfl) h2;clear hA0 hval0;simp only [List.append_nil] at bg low;refine (zbd v0 v1 v2 ht hu hw).mono fun e W' ⟨he,hx⟩=>?_
 subst he
 exact ⟨_, rfl, xcs (pa := p0 ++ (p1 ++ p2)) (pv := []) bg hx (fun _ _ _ => (trodAll_cons_mk (shut_bool Tryz.underlying4 _) trodAll_mk0))
  (fun sp hs=>by
    have:=trodAll_cons_mk (ya6 zbr wbq h0 hx (fun x ed=>low x (List.mem_append_left _ ed)) (fun x ed=>hs x (List.mem_append_left _ ed))) (trodAll_cons_mk (ya6 zbr wbq h1 hx (fun x ed=>low x (List.mem_append_right _ (List.mem_append_left _ ed))) (fun x ed=>hs x (List.mem_append_right _ (List.mem_append_left _ ed)))) (trodAll_cons_mk (ya6 zbr wbq h2 hx (fun x ed=>low x (List.mem_append_right _ (List.mem_append_right _ ed))) (fun x ed=>hs x (List.mem_append_right _ (List.mem_append_right _ ed)))) trodAll_mk0));simp only [List.append_nil] at this
    exact this) (fun _ _=>rfl) (by simp)
  (ok_one (by kernel_rfl) rfl (okWide_bool_mk Tryz.underlying4 _))⟩
theorem wbi:Rows.collinsQuadraticRow.holds Tryz.pinned (OpenSpec.ofChange Rows.collinsQuadraticSpec):=
 OpenClaim.holds_of_wide 3 Tryz.f3 rfl rfl rfl rfl rfl rfl rfl ⟨rfl, rfl, rfl, rfl, rfl⟩ rfl rfl rfl rfl rfl (by kernel_rfl) Tryz.func3 (by kernel_rfl)
  (of_decide_eq_true (by kernel_rfl)) (by unfold Func.isWrapper; first | (rw [if_pos (by decide +kernel)]; kernel_rfl) | (rw [if_neg (by decide +kernel)]; exact ⟨rfl,rfl⟩))
  (fun os started H enc _=>wbb os started H enc)
theorem quadratic_proved:Rows.CollinsQuadraticSaid:=wbi
#print axioms quadratic_proved
end Go.Proofs.YtcepajijiabkmaaGreat
