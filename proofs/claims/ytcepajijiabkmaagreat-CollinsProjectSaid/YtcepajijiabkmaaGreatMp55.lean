/- CollinsProject: for every list of sums of terms and every level the statement answers true, and the arguments stay as they are. No condition. -/
import Derived.Deep.Slices
import Derived.OpenShut
import Derived.ProofKit
import Derived.Test.YtcepajijiabkmaaGreatMp54
set_option linter.unusedSimpArgs false
set_option linter.unusedVariables false

namespace Go.Proofs.YtcepajijiabkmaaGreat
open Go.RowKit
theorem len0 {α:Type} {l:List α} (h:l.length=0):l=[]:=rL h
theorem len1 {α:Type} {l:List α} (h:l.length=1):∃ x,l=[x]:=by
 cases l with
 | nil=>simp at h
 | cons x r=>exact ⟨x,by rw [len0 (l:=r) (by simpa using h)]⟩
theorem vbx {α:Type} {l:List α} (h:l.length=2):∃ x y,l=[x,y]:=by
 cases l with
 | nil=>simp at h
 | cons x r =>
   obtain ⟨y,rfl⟩:=len1 (l:=r) (by simpa using h);exact ⟨x,y,rfl⟩
open Go.ChangeShapes Go.WideShapes
theorem cell_lt {w:World} {a:Addr} {v:Value} (h:w.cell? a=some v):a.block < w.heap.size:=by
 unfold World.cell? at h
 split at h
 · rename_i hh;exact (rB.1 hh).1
 · cases h
theorem ycr (a:Addr) (n:Nat):a.add (n+1)=⟨a.block,a.off+(n+1),none⟩:=by simp [Addr.add]
theorem ya8 (a:Addr):a.add 0=a:=by simp [Addr.add]
theorem xde {α:Type} {l:List α} (h:l.length=3):∃ x y z,l=[x,y,z]:=by
 cases l with
 | nil=>simp at h
 | cons x r =>
   obtain ⟨y,z,rfl⟩:=vbx (l:=r) (by simpa using h);exact ⟨x,y,z,rfl⟩
theorem ycx {α:Type} {l:List α} (h:l.length=4):∃ x y z u,l=[x,y,z,u]:=by
 cases l with
 | nil=>simp at h
 | cons x r =>
   obtain ⟨y,z,u,rfl⟩:=xde (l:=r) (by simpa using h);exact ⟨x,y,z,u,rfl⟩
theorem len8 {α:Type} {l:List α} (h:l.length=8):∃ a b c d e f g i,l=[a,b,c,d,e,f,g,i]:=by
 obtain ⟨a,b,c,d,h1⟩:=ycx (l:=l.take 4) (by rw [pA]; omega);obtain ⟨e,f,g,i,h2⟩:=ycx (l:=l.drop 4) (by rw [re]; omega);exact ⟨a,b,c,d,e,f,g,i,by rw [<- wj 4 l,h1,h2]; rfl⟩
section
variable {H:Type} {enc:TypeId × Value->H} {w:World} {sp:Nat->Bool} {held:Bool}
theorem wcr {fuel:Nat} {cs:List Value} {x:DataW H × List MemPlace} (h:DataW.trod enc Tryz.prog w 0 sp held fuel 28 cs=some x):∃ A ds c,cs=[.slice A ds.length c]/\jc w (.slice A ds.length c) ds:=by
 rcases open_ints SD Tryz.underlying84 (by kernel_rfl) h with ⟨rfl,-⟩ | ⟨a,len,cap,zs,rfl,-,Sl,gU,eG,-,aj,hwf⟩
 · exact ⟨none,[],0,rfl,jc.nil w⟩
 · have hle:len<=zs.length:=by rw [eG]; split <;> omega
   have hlen:((zs.take len).map Int.toNat).length=len:=by rw [px,pA]; omega
   refine ⟨some a,(zs.take len).map Int.toNat,cap,by rw [hlen],?_⟩;refine ⟨some a,cap,rfl,by rw [hlen]; exact Sl,by unfold maxLen at gU; omega,?_,fun hp=>⟨a,rfl,?_,?_⟩⟩
   · intro d hd;obtain ⟨z,hz,rfl⟩:=pZ.1 hd;have:=bounds_u32 (hwf z (tl hz));show z.toNat < 4294967296;omega
   · rw [hlen] at hp;have:=cell_lt (aj 0 (by omega))
     rwa [ya8] at this
   · intro j hj;rw [hlen] at hj;have oH:j < zs.length:=by omega
     rw [aj j oH];have hb:=bounds_u32 (hwf zs[j] (pt oH));simp only [rK,tz];rw [pr,po oH];simp only [Pf]
     congr 2
     omega
theorem uci {fuel:Nat} {cs:List Value} {x:DataW H × List MemPlace} (h:DataW.trod enc Tryz.prog w 0 sp held fuel 30 cs=some x):∃ neg A ds c,cs=[.bool neg,.slice A ds.length c]/\jc w (.slice A ds.length c) ds:=by
 obtain ⟨xs,n,rfl,-,hl,hx,hf⟩:=DataW.trod_struct Tryz.underlying30 h;have dC:cs.length=2:=hl.trans (by kernel_rfl);have aN:xs.length=2:=hx;obtain ⟨c0,c1,rfl⟩:=vbx dC;obtain ⟨x0,x1,rfl⟩:=vbx aN;have f0:DataW.trod enc Tryz.prog w 0 sp held n 4 ((List.drop 0 [c0,c1]).take (Tryz.prog.cellsOf 4))=some x0:=hf 0 _ rfl;have f1:DataW.trod enc Tryz.prog w 0 sp held n 28 ((List.drop 1 [c0,c1]).take (Tryz.prog.cellsOf 28))=some x1:=hf 1 _ rfl;rw [show Tryz.prog.cellsOf 4=1 by kernel_rfl] at f0;rw [show Tryz.prog.cellsOf 28=1 by kernel_rfl] at f1;simp only [Pw,List.drop_succ_cons,Sc,s9,Ra,Sk] at f0 f1;obtain ⟨b,e,-⟩:=DataW.trod_bool SR f0;obtain ⟨A,ds,c,e1,hn⟩:=wcr f1;simp only [so,and_true] at e e1;exact ⟨b,A,ds,c,by rw [e,e1],hn⟩
end
end Go.Proofs.YtcepajijiabkmaaGreat

set_option maxRecDepth 100000
set_option maxHeartbeats 8000000
namespace Go.Proofs.YtcepajijiabkmaaGreat
open Go.ChangeShapes Go.WideShapes Go.RowKit
theorem zde {α:Type} {l:List α} (h:l.length=6):∃ a b c d e f,l=[a,b,c,d,e,f]:=by
 match l,h with
 | [a,b,c,d,e,f],_=>exact ⟨a,b,c,d,e,f,rfl⟩
section
variable {H:Type} {enc:TypeId × Value->H} {w:World} {sp:Nat->Bool} {held:Bool}
theorem vci {fuel:Nat} {cs:List Value} {x:DataW H × List MemPlace} (h:DataW.trod enc Tryz.prog w 0 sp held fuel 61 cs=some x):∃ m:Mo,cs=[.int .i64 m.a,.int .i64 m.b,.int .i64 m.c,.int .i64 m.d]:=by
 obtain ⟨xs,n,rfl,-,hl,hx,hf⟩:=DataW.trod_array wT h;have dC:cs.length=4:=hl.trans (by kernel_rfl);obtain ⟨a0,a1,a2,a3,rfl⟩:=ycx dC;rw [show Tryz.prog.cellsOf 3=1 by kernel_rfl] at hf;have f0:=hf 0 (by omega);have f1:=hf 1 (by omega);have f2:=hf 2 (by omega);have f3:=hf 3 (by omega);rw [po (by omega)] at f0 f1 f2 f3;simp only [sY,tr,Nat.reduceMul,Pw,List.drop_succ_cons,Sc,s9] at f0 f1 f2 f3;obtain ⟨z0,e0,-⟩:=DataW.trod_int Tryz.underlying3 f0;obtain ⟨z1,e1,-⟩:=DataW.trod_int Tryz.underlying3 f1;obtain ⟨z2,e2,-⟩:=DataW.trod_int Tryz.underlying3 f2;obtain ⟨z3,e3,-⟩:=DataW.trod_int Tryz.underlying3 f3;simp only [so,and_true] at e0 e1 e2 e3;exact ⟨⟨z0,z1,z2,z3⟩,by rw [e0,e1,e2,e3]⟩
theorem kci {fuel:Nat} {cs:List Value} {x:DataW H × List MemPlace} (h:DataW.trod enc Tryz.prog w 0 sp held fuel 76 cs=some x):∃ neg A ds c m,cs=tmC neg (.slice A ds.length c) m/\jc w (.slice A ds.length c) ds:=by
 obtain ⟨xs,n,rfl,-,hl,hx,hf⟩:=DataW.trod_struct Tryz.underlying76 h;have dC:cs.length=6:=hl.trans (by kernel_rfl);have aN:xs.length=2:=hx;obtain ⟨c0,c1,c2,c3,c4,c5,rfl⟩:=zde dC;obtain ⟨x0,x1,rfl⟩:=vbx aN;have f0:DataW.trod enc Tryz.prog w 0 sp held n 30 ((List.drop 0 [c0,c1,c2,c3,c4,c5]).take (Tryz.prog.cellsOf 30))=some x0:=hf 0 _ rfl;have f1:DataW.trod enc Tryz.prog w 0 sp held n 61 ((List.drop 2 [c0,c1,c2,c3,c4,c5]).take (Tryz.prog.cellsOf 61))=some x1:=hf 1 _ rfl;rw [show Tryz.prog.cellsOf 30=2 by kernel_rfl] at f0;rw [show Tryz.prog.cellsOf 61=4 by kernel_rfl] at f1;simp only [Pw,List.drop_succ_cons,Sc,s9,Ra,Sk] at f0 f1;obtain ⟨neg,A,ds,c,e,hn⟩:=uci f0;obtain ⟨m,e1⟩:=vci f1;refine ⟨neg,A,ds,c,m,?_,hn⟩;simp only [so,and_true] at e e1;obtain ⟨rfl,rfl⟩:=e;obtain ⟨rfl,rfl,rfl,rfl⟩:=e1
 rfl
theorem qch {a:Addr} {b:Bool} {s:Value} {m:Mo} (hc:w.cells? 0 a 6=some (tmC b s m)):kal w a b s m/\a.block < w.heap.size:=by
 have kW:=(World.cells?_some hc).2.2;have k0:=kW 0 (by omega);have k1:=kW 1 (by omega);have k2:=kW 2 (by omega);have k3:=kW 3 (by omega);have k4:=kW 4 (by omega);have k5:=kW 5 (by omega);rw [ya8] at k0;rw [ycr] at k1 k2 k3 k4 k5;exact ⟨⟨k0,k1,k2,k3,k4,k5⟩,cell_lt k0⟩
theorem qbg {fuel:Nat} {A:Option Addr} {n c:Nat} {x:DataW H × List MemPlace} (h:DataW.trod enc Tryz.prog w 0 sp held fuel 23 [.slice A n c]=some x):∃ ts,uaq w (.slice A n c) ts:=by
 rcases DataW.trod_slice Tryz.underlying23 h with ⟨e8,-⟩ | ⟨a,len,cap,elems,rest,n',hfu,e8,-,-,Sl,gU,lZ,aK,-⟩
 · simp only [so,and_true] at e8;rw [e8];exact ⟨[],none,0,rfl,by simp,by omega,fun j hj=>absurd hj (by simp)⟩
 · simp only [so,and_true] at e8;rw [e8];rw [show Tryz.prog.cellsOf 76=6 by kernel_rfl] at aK;have each:∀ i:Nat,∃ t:kaf,i < len->∃ B c',a.block < w.heap.size/\kal w (a.add (i * 6)) t.neg (.slice B t.ds.length c') t.mo/\jc w (.slice B t.ds.length c') t.ds:=by
    intro i
    by_cases hi:i < len
    · have h1:=aK i hi;rw [po (by omega)] at h1;obtain ⟨cs',hc,ht⟩:=Option.bind_eq_some_iff.1 h1;obtain ⟨neg,B,ds,c',m,rfl,hn⟩:=kci ht;obtain ⟨h2,h3⟩:=qch hc;rw [ja] at h3;exact ⟨⟨neg,ds,m⟩,fun _=>⟨B,c',h3,h2,hn⟩⟩
    · exact ⟨⟨false,[],Mo.one⟩,fun h=>absurd h hi⟩
   refine ⟨(List.range len).map (fun i=>Classical.choose (each i)),some a,cap,by simp,by simpa using Sl,by unfold maxLen at gU; omega,fun j hj=>?_⟩;simp only [px,tt] at hj;obtain ⟨B,c',h1,h2,h3⟩:=Classical.choose_spec (each j) hj;simp only [rK,tF];exact ⟨a,B,c',rfl,h1,h2,h3⟩
end
section
variable {H:Type} {enc:TypeId × Value->H} {w:World} {sp:Nat->Bool} {held:Bool}
theorem kcm {r:Reach} {b0:Nat} {v:Value} {d:DataW H} {ps:List MemPlace} (aJ:Value.okWide Tryz.prog w r b0 48 v) (h:DataW.Trod enc Tryz.prog w 0 sp held 48 v d ps):∃ L,ybn w v L:=by
 obtain ⟨fuel,h⟩:=h;obtain ⟨A,n,c,rfl⟩:=okWide_slice Tryz.underlying48 aJ;simp only [Value.cells] at h;rcases DataW.trod_slice Tryz.underlying48 h with ⟨e8,-⟩ | ⟨a,len,cap,elems,rest,n',hfu,e8,-,-,Sl,gU,lZ,aK,-⟩
 · simp only [so,and_true] at e8;rw [e8];exact ⟨[],none,0,rfl,by simp,by omega,fun j hj=>absurd hj (by simp)⟩
 · simp only [so,and_true] at e8;rw [e8];rw [show Tryz.prog.cellsOf 23=1 by kernel_rfl] at aK;have each:∀ i:Nat,∃ t:List kaf,i < len->∃ u,a.block < w.heap.size/\w.cell? (a.add i)=some u/\uaq w u t:=by
    intro i
    by_cases hi:i < len
    · have h1:=aK i hi;rw [po (by omega)] at h1;obtain ⟨cs',hc,ht⟩:=Option.bind_eq_some_iff.1 h1;rw [ua] at hc;have kW:=(World.cells?_some hc).2.2;have nV:cs'.length=1:=(World.cells?_some hc).2.1;obtain ⟨u,rfl⟩:=len1 nV;have k0:=kW 0 (by omega);rw [ya8] at k0;rcases DataW.trod_slice Tryz.underlying23 ht with ⟨e9,-⟩ | ⟨a2,vbx,cap2,acd,adY,n2,ajn,e9,-⟩
      · simp only [so,and_true] at e9;subst e9;obtain ⟨ts,AQ⟩:=qbg ht;have hb:=cell_lt k0;rw [ja] at hb;exact ⟨ts,fun _=>⟨_,hb,k0,AQ⟩⟩
      · simp only [so,and_true] at e9;subst e9;obtain ⟨ts,AQ⟩:=qbg ht;have hb:=cell_lt k0;rw [ja] at hb;exact ⟨ts,fun _=>⟨_,hb,k0,AQ⟩⟩
    · exact ⟨[],fun h=>absurd h hi⟩
   refine ⟨(List.range len).map (fun i=>Classical.choose (each i)),some a,cap,by simp,by simpa using Sl,by unfold maxLen at gU; omega,fun j hj=>?_⟩;simp only [px,tt] at hj;obtain ⟨u,h1,h2,h3⟩:=Classical.choose_spec (each j) hj;simp only [rK,tF];exact ⟨a,u,rfl,h1,h2,h3⟩
end
open Go.ChangeAt
theorem ucv {H : Type} {enc : TypeId × Value -> H} {P : Program} {f : Func} {s : ChangeSpec} {apart fresh handsOn again : Bool} {W W' : World} {args : Array Value} {v : Value} {ds gs : List (DataW H)} {before pa pv : List MemPlace}
 (hW:DataW.Whole enc P f.params.toList s.vars apart W args.toList ds gs before) (hx:Ext W W')
 (mO:∀ (b:Nat) (sp:Nat->Bool) (hd:Bool),DataW.TrodAll enc P W' b sp hd f.resultTypes.toList (v.resultList f.resultTypes.size) (s.fn H (ds ++ gs)).results [])
 (CX:∀ sp:Nat->Bool,(∀ p ∈ before,sp p.block=true)->DataW.TrodAll enc P W' 0 sp true f.params.toList args.toList (s.fn H (ds ++ gs)).args pa)
 (GG:∀ sp:Nat->Bool,(∀ p ∈ before,sp p.block=true)->DataW.TrodVars enc P W' sp s.vars (s.fn H (ds ++ gs)).vars pv) (wQ:before=pa ++ pv)
 (lU:∀ (j:Nat) (t:TypeId) (r:Value),f.resultTypes[j]?=some t->(v.resultList f.resultTypes.size)[j]?=some r->Value.okWide P W' .any 0 t r) :
 s.post enc P f apart fresh handsOn again W args v W':=by
 have low:∀ p ∈ before,p.block < W.heap.size:=fun p hp=>hW.lt p hp
 have old:∀ p ∈ before,(fun b=>decide (b < W.heap.size)) p.block=true:=fun p hp=>by simpa using low p hp
 refine ⟨ds,gs,before,[],pa,pv,hW,mO _ _ _,CX _ old,GG _ old,World.keptBut_mono (fun p hp=>⟨hp,?_⟩) (Below.frame hx (· ∈ before)),fun _=>?_⟩
 · exact .inr (rj.1 (wQ ▸ hp))
 · obtain ⟨_,_,_,_,_,hz,hn⟩:=hW;refine ⟨lU,_,_,([] ++ pa) ++ pv,⟨[] ++ pa,pv,trodAll_append (CX _ (fun _ _=>rfl)) (mO _ _ _),GG _ (fun _ _=>rfl),rfl,fun b off hp=>?_,fun ha=>?_⟩,?_⟩
   · have pY:MemPlace.cell b off ∈ before:=by rw [wQ]; simpa using hp
     rw [hx.frozen (low _ pY)];exact hz b off pY
   · have h:=hn ha;rw [wQ] at h;simpa using h
   · exact fun p hp _=>by rw [wQ]; simpa using hp
theorem ycw:ownKnob Tryz.prog.godebug=none:=by kernel_rfl
theorem xcx:laidOutB Tryz.prog=true:=by kernel_rfl
theorem wcq {H:Type} {enc:TypeId × Value->H} {W W':World} {t:TypeId} (hr:Tryz.prog.readableRec t=true) (ae:t < Tryz.prog.types.size) {v:Value} {d:DataW H} {ps:List MemPlace} (h:DataW.Trod enc Tryz.prog W 0 (fun _=>true) true t v d ps) (hx:Ext W W') (af:∀ x ∈ ps,x.block < W.heap.size) {sp:Nat->Bool} (hs:∀ x ∈ ps,sp x.block=true):DataW.Trod enc Tryz.prog W' 0 sp true t v d ps:=
 WideElems.Trod_stays xcx hr ae h (fun x iY=>Below.same hx (af x iY)) hs
theorem zc5:Tryz.prog.readableRec 48=true:=by kernel_rfl
theorem wc4:48 < Tryz.prog.types.size:=of_decide_eq_true (by kernel_rfl)
theorem qbl (os:Os) (started:os.Started) (H:Type) (enc:TypeId × Value->H) :
 ReturnsInHanded {} Tryz.checked os 4 .any (Rows.collinsProjectSpec.pre6 enc Tryz.prog Tryz.f4 Rows.collinsProjectRow.domain false) (Rows.collinsProjectSpec.post enc Tryz.prog Tryz.f4 false true false false):=by
 refine returnsInHanded_of_change (C := Tryz.checked) ycw started (by kernel_rfl) Tryz.func4
  (ChangeSpec.witness6 (enc:=enc) (C:=Tryz.checked) false ⟨#[],#[.slice none 0 0,.int .i64 0],[]⟩ 8 (by kernel_rfl) (by kernel_rfl) (by kernel_rfl) (by kernel_rfl)) ?_
 intro W base args ds gs before hval0 hW _ _;have aJ:∀ (j:Nat) t v,Tryz.f4.params[j]?=some t->args[j]?=some v->Value.okWide Tryz.prog W .any base t v:=hval0;have bJ:=hW;have low:∀ p ∈ before,p.block < W.heap.size:=fun p hp=>hW.lt p hp
 obtain ⟨p,q,hA0,hV,rfl,-,-⟩:=hW;have hA:DataW.TrodAll enc Tryz.prog W 0 (fun _=>true) true Tryz.f4.params.toList args.toList ds p:=hA0;rw [Tryz.params4] at hA aJ;obtain ⟨v0,vs0,d0,ds0,p0,q0,CX,rfl,rfl,h0,r0⟩:=trodAll_cons hA;obtain ⟨v1,vs1,d1,ds1,p1,q1,rfl,rfl,rfl,h1,r1⟩:=trodAll_cons r0;obtain ⟨rfl,rfl,rfl⟩:=trodAll_nil r1;obtain rfl:args=#[v0,v1]:=by cases args; simp_all
 obtain ⟨rfl,rfl⟩:=trodVars_none hV;obtain ⟨ts,ht⟩:=kcm (aJ 0 48 v0 rfl rfl) h0;obtain ⟨l,rfl,rfl,rfl,wf⟩:=Go.ChangeShapes.open_int Tryz.underlying3 (aJ 1 3 v1 rfl rfl) h1;clear hA0 hval0;simp only [si] at bJ low;refine (qbm (l:=l) v0 ht).mono fun e W' ⟨he,hx⟩=>?_
 subst he
 exact ⟨_, rfl, ucv (pa := p0) (pv := []) bJ hx (fun _ _ _ => (trodAll_cons_mk (shut_bool SR _) trodAll_mk0))
  (fun sp hs=>by
    have:=trodAll_cons_mk (wcq zc5 wc4 h0 hx (fun x iY=>low x iY) (fun x iY=>hs x iY)) (trodAll_cons_mk (Go.ChangeShapes.shut_int Tryz.underlying3 wf) trodAll_mk0);simp only [si] at this
    exact this) (fun _ _=>rfl) (by simp)
  (ok_one (by kernel_rfl) rfl (okWide_bool_mk SR _))⟩
theorem vbv:Rows.collinsProjectRow.holds Tryz.pinned (OpenSpec.ofChange Rows.collinsProjectSpec):=
 OpenClaim.holds_of_wide 4 Tryz.f4 rfl rfl rfl rfl rfl rfl rfl ⟨rfl, rfl, rfl, rfl, rfl⟩ rfl rfl rfl rfl rfl (by kernel_rfl) Tryz.func4 (by kernel_rfl)
  (of_decide_eq_true (by kernel_rfl)) (by unfold Func.isWrapper; first | (rw [if_pos (by decide +kernel)]; kernel_rfl) | (rw [if_neg (by decide +kernel)]; exact ⟨rfl,rfl⟩))
  (fun os started H enc _=>qbl os started H enc)
theorem project_proved:Rows.CollinsProjectSaid:=vbv
#print axioms project_proved
end Go.Proofs.YtcepajijiabkmaaGreat
