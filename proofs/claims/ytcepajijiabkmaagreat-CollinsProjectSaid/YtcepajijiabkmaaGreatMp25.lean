/- make([]Poly, n) and copy: rows of polynomials known by all their cells. -/
import Derived.Test.YtcepajijiabkmaaGreatMp15
set_option linter.unusedSimpArgs false
set_option linter.unusedVariables false
set_option maxRecDepth 100000
set_option maxHeartbeats 8000000
namespace Go.Proofs.YtcepajijiabkmaaGreat
open Go.RowKit
def zaa:Pl × Value × Value:=(Pl.zero,.slice none 0 0,.slice none 0 0)
def ka9 (W:World) (R:Nat) (rs:List (Pl × Value × Value)):Prop:=W.heap[R]?=some (.cells (uo rs).toArray 33 (0,0))
theorem ka9.qaL {W:World} {R:Nat} {q:Nat->Prop} {rs:List (Pl × Value × Value)} (h:ka9 W R rs) (he:∀ r ∈ rs,(∃ A0 n0 c0 A1 n1 c1,r.2=(.slice A0 n0 c0,.slice A1 n1 c1))/\PlV W (fun b=>q b/\b ≠ R) r.1 (plV r.1 r.2.1 r.2.2)):xh W q R (rs.map fun r=>r.1):=by
 have hc:∀ i,i < rs.length->∀ j,j < 4->∀ u,(plC (rs.getD i zaa))[j]?=some u->W.cell? ⟨R,i * 4+j,none⟩=some u:=fun i hi j hj u hu=>by
  rw [cell_of_row _ _ (i * 4+j) _ _ (0,0) h];rw [pr,po hi] at hu;rw [List.getElem?_toArray,xam rs i hi j hj];exact hu
 refine ⟨(rB.1 h).1,fun i=>by simp [World.frozen?,show W.heap[R]?=_ from h],fun i hi=>?_⟩;rw [px] at hi;obtain ⟨⟨A0,n0,c0,A1,n1,c1,e⟩,hp⟩:=he rs[i] (pt hi);have jB:rs.getD i zaa=rs[i]:=by rw [pr,po hi]; rfl
 rw [rK];rw [e] at hp;have lD:=hc i hi;rw [jB] at lD;refine ⟨A0,n0,c0,A1,n1,c1,⟨?_,?_,?_,?_⟩,hp⟩
 · have:=lD 0 (by omega) _ rfl
   rwa [s8] at this
 · exact lD 1 (by omega) _ rfl
 · have:=lD 2 (by omega) _ rfl;rw [e] at this;exact this
 · have:=lD 3 (by omega) _ rfl;rw [e] at this;exact this
theorem ja1 (W:World) (q:Nat->Prop) (n:Nat):∀ r ∈ List.replicate n zaa,(∃ A0 n0 c0 A1 n1 c1,r.2=(.slice A0 n0 c0,.slice A1 n1 c1))/\PlV W q r.1 (plV r.1 r.2.1 r.2.2):=fun r hr=>by
 rw [Sg hr];exact ⟨⟨none,0,0,none,0,0,rfl⟩,Pl.xt W q none 0 (by omega)⟩
theorem wa5 (n:Nat) (h1:n<=1099511627776) (w:World) :
 ∃ w',(Instr.makeSlice 31 (.int .i64 n) (.int .i64 n)).run Tryz.prog w=.ok (.slice (some ⟨w.heap.size,0,none⟩) n n) w'/\Ext w w'/\w'.heap.size=w.heap.size+1/\ka9 w' w.heap.size (List.replicate n zaa):=by
 obtain ⟨i0,hi,iV,iI,iH⟩:=info_parts kax;refine ⟨w.alloc (.cells (madeCells (Value.agg #[.int .i64 0,.bool false,.slice none 0 0,.slice none 0 0]).cells (n * i0.size)) 33),?_,(Ext.refl w).alloc _,by simp,?_⟩
 · have:=run_make w 31 33 i0 _ Tryz.underlying31 hi iV .i64 .i64 n n (by omega) (by omega) (by rw [iH]; omega) (by omega);rw [sT] at this;exact this
 · unfold ka9;rw [heap_alloc_new w _]
   congr 2
   rw [iI];unfold madeCells;apply Array.ext_getElem?;intro j;rw [Sq,RW,List.getElem?_toArray]
   by_cases hj:j < n * 4
   · rw [if_pos hj];have hd:j / 4 * 4+j % 4=j:=by omega
     have hm:j % 4 < 4:=by omega
     have:=xam (List.replicate n zaa) (j / 4) (by rw [p8]; omega) (j % 4) hm;rw [hd,u7] at this;rw [this];show some ((#[Value.int .i64 0,.bool false,.slice none 0 0,.slice none 0 0]:Array Value)[j % 4]!)=_;rcases (show j % 4=0\/j % 4=1\/j % 4=2\/j % 4=3 by omega) with e | e | e | e <;> rw [e] <;> rfl
   · rw [if_neg hj,sA (by rw [jaa,p8]; omega)]
     rfl
theorem qba {W:World} {q q':Nat->Prop} {R n dc sc:Nat} {A:Option Addr} {cs:List Pl} (hR:ka9 W R (List.replicate n zaa)) (h:jd W q cs A 0) (hq:∀ b,q b->q' b/\b ≠ R) (hlen:cs.length<=n) (ty:TypeId) :
 ∃ W',(Builtin.copy_ #[31,31] ty #[.slice (some ⟨R,0,none⟩) n dc,.slice A cs.length sc]).run Tryz.prog W=.ok (.int .i64 cs.length) W'/\(∀ b,b ≠ R->W'.heap[b]?=W.heap[b]?)/\W'.heap.size=W.heap.size/\(∀ V,Ext V W->V.heap.size<=R->Ext V W')/\(∀ v ds,jc W v ds->jc W' v ds)/\xh W' q' R (cs ++ List.replicate (n - cs.length) Pl.zero):=by
 obtain ⟨i0,hi,iV,iI,iH⟩:=info_parts kax;have hu:=Tryz.underlying31
 by_cases fB:cs=[]
 · subst fB;refine ⟨W,?_,fun _ _=>rfl,rfl,fun _ h _=>h,fun _ _ h=>h,?_⟩
   · cases A with
     | none=>simp [Builtin.copy_,run_underlying hu,Builtin.lenOf,Builtin.firstCells,sizeOf,typeInfo,hi,storeCells]; rfl
     | some ad=>
       have hl:=run_loadCells_list (P:=Tryz.prog) W ad [] (fun j v hv=>by simp at hv);have mQ:(loadCells ad 0).run Tryz.prog W=.ok #[] W:=hl;simp [Builtin.copy_,run_underlying hu,Builtin.lenOf,Builtin.firstCells,sizeOf,typeInfo,hi,storeCells,mQ]; rfl
   · have:=hR.qaL (q:=q') (ja1 W _ n);rw [Sh] at this;simpa [zaa] using this
 · have di:=rA.2 fB;obtain ⟨ad,-,-,rfl,-⟩:=jd.xS cs A 0 h 0 di;obtain ⟨rs,rfl,e2,e3⟩:=jd.rows cs 0 h;rw [px] at hlen di ⊢;have EP:∀ j v,(uo rs)[j]?=some v->W.cell? (ad.add j)=some v:=fun j u hu=>by
    have hj:j < rs.length * 4:=by rw [<- jaa]; exact (wh.1 hu).1
    have hd:j / 4 * 4+j % 4=j:=by omega
    have hm:=e3 ad rfl (j / 4) (by omega);rw [rh] at hm;have hg:=xam rs (j / 4) (by omega) (j % 4) (by omega);rw [hd,hu] at hg;have:=hm.cells (j % 4) (by omega) u hg.symm
    rwa [hd] at this
   have jZ:∀ v ∈ uo rs,v.oneCell'=true:=fun u hu=>by
    simp only [uo,tg] at hu;obtain ⟨r,hr,hu⟩:=hu;obtain ⟨⟨A0,n0,c0,A1,n1,c1,er⟩,-⟩:=e2 r hr;simp only [plC,er,pQ,sM,or_false] at hu;rcases hu with rfl | rfl | rfl | rfl <;> rfl
   have hl:=run_loadCells_list (P:=Tryz.prog) W ad (uo rs) EP;have dV:=run_storeCells_at Tryz.prog R 0 33 (uo rs) 0 _ W hR (by simp [jaa]; omega) jZ;rw [jaa] at hl dV;have RN:Nat.min rs.length n=rs.length:=sh hlen;have ae:((uo (List.replicate n zaa)).toArray.toList.take (0+0) ++ uo rs ++ (uo (List.replicate n zaa)).toArray.toList.drop (0+0+rs.length * 4))=uo (rs ++ List.replicate (n - rs.length) zaa):=by
    have oZ:List.replicate n zaa=List.replicate rs.length zaa ++ List.replicate (n - rs.length) zaa:=by
     rw [SF,Nat.add_sub_cancel' hlen]
    rw [vav]
    conv=>lhs; rw [oZ,vav]
    simp [List.drop_append,jaa]
   rw [ae] at dV;have au:∀ v ds,jc W v ds->jc (W.setRow R (uo (rs ++ List.replicate (n - rs.length) zaa)).toArray) v ds:=fun v ds hv=>by
    refine jat (v:=.slice (some ⟨R,0,none⟩) 0 0) hv ⟨rfl,rfl,rfl,by simp [World.setRow],fun k _ hk=>setRow_other W R k _ (fun e=>hk (by rw [e]; rfl))⟩ ?_ (fun R' e=>?_)
    · intro R' cur T fr e hb u hu;have e':R=R':=by simpa [Value.ownBlock] using e
      subst e';rw [show W.heap[R]?=_ from hR] at hb;injection hb with hb
      injection hb with hb
      rw [<- hb] at hu;simp only [uo,tg] at hu;obtain ⟨r,hr,hu⟩:=hu;rw [Sg hr] at hu;simp only [plC,zaa,pQ,sM,or_false] at hu;rcases hu with rfl | rfl | rfl | rfl <;> rfl
    · have e':R=R':=by simpa [Value.ownBlock] using e
      subst e';exact ⟨_,_,_,hR⟩
   refine ⟨W.setRow R (uo (rs ++ List.replicate (n - rs.length) zaa)).toArray,?_,fun b hb=>?_,by simp [World.setRow],fun V hV hs=>?_,fun v ds hv=>?_,?_⟩
   · simp [Builtin.copy_,run_underlying hu,Builtin.lenOf,Builtin.firstCells,sizeOf,typeInfo,hi,iI,RN,hl,dV]; rfl
   · exact setRow_other W R b _ hb
   · exact Below.trans hV.below (⟨rfl,rfl,rfl,by simp [World.setRow],fun k hk=>setRow_other W R k _ (by omega)⟩:Below V.heap.size W (W.setRow R (uo (rs ++ List.replicate (n - rs.length) zaa)).toArray))
   · exact au v ds hv
   · have hf:ka9 (W.setRow R (uo (rs ++ List.replicate (n - rs.length) zaa)).toArray) R (rs ++ List.replicate (n - rs.length) zaa):=setRow_heap W R _ _ _ _ hR;have:=hf.qaL (q:=q') (fun r hr=>by
      rcases rj.1 hr with hr | hr
      · exact ⟨(e2 r hr).1,PlV.zd (by simp [World.setRow]) au (fun b _ hb=>⟨hq b hb,setRow_other W R b _ (hq b hb).2⟩) (e2 r hr).2⟩
      · exact ja1 _ _ _ r hr)
     rw [ux,Sh] at this;exact this
theorem wpList_copy_run {P : Program} {w : World} {ops : Array Oper} {rest : List Oper} {o : Oper} {a : Act} {Q : Exit -> Act -> World -> Prop} (jB : o.guard = none) (s x : Operand) (t t' : TypeId)
 (ho:o.op=.call { callee:=.builtin .copy,args:=#[s,x],argTypes:=#[t,t'] }) (vs vx v':Value) (w':World) (hs:a.eval s=vs) (hx:a.eval x=vx) (hr:(Builtin.copy_ #[t,t'] o.type #[vs,vx]).run P w=.ok v' w')
 (h:wpList P ops Q rest (a.put o.dst v') w'):wpList P ops Q (o :: rest) a w:=by
 refine wpList_plain jB fun K hK=>?_
 unfold Oper.wp execOp;simp only [ho,resolve,invoke,builtin,SO,Sem.run_pure,PF,List.map_toArray,sr,SP,hs,hx,hr];exact hK _ _ h
mutual
def Pl.yq (l : Int) : Pl -> Int
 | .mk lv _ _ cs=>if lv < l then 0 else if lv=l then cs.length - 1 else yw l 0 cs
def yw (l : Int) : Int -> List Pl -> Int
 | a,[]=>a
 | a,c :: r=>yw l (max a (c.yq l)) r
end
theorem qbw (l a:Int) (x y:List Pl):yw l a (x ++ y)=yw l (yw l a x) y:=by
 induction x generalizing a with
 | nil=>rfl
 | cons t x ih=>simp only [rI,yw]; exact ih _
theorem kce (l a:Int) (cs:List Pl) (k:Nat) (hk:k < cs.length):yw l a (cs.take (k+1))=max (yw l a (cs.take k)) (cs[k].yq l):=by
 rw [pC hk,qbw]; rfl
theorem ja2 (l : Int) : ∀ (cs : List Pl) (a : Int), a <= yw l a cs
 | [],a=>ub _
 | c :: r,a=>by rw [yw]; have:=ja2 l r (max a (c.yq l)); omega
theorem yax (l : Int) : ∀ (cs : List Pl) (a : Int) (c : Pl), c ∈ cs -> c.yq l <= yw l a cs
 | d :: r,a,c,h=>by
   rw [yw];rcases pQ.1 h with rfl | h
   · have:=ja2 l r (max a (c.yq l)); omega
   · exact yax l r _ c h
theorem xbw (l : Int) (n : Int) : ∀ (cs : List Pl) (a : Int), a <= n -> (∀ c ∈ cs, c.yq l <= n) -> yw l a cs <= n
 | [],a,h,_=>h
 | c :: r,a,h,hc=>by
   rw [yw];exact xbw l n r _ (by have:=hc c (by simp); omega) fun x hx=>hc x (by simp [hx])
theorem Pl.kB {l : Int} (hl : 1 <= l) {E : Nat} : ∀ p : Pl, p.Can -> p.ex E -> 0 <= p.yq l /\ p.yq l <= E
 | .mk lv n d cs,h,he=>by
   rw [Pl.yq]
   by_cases h1:lv < l
   · rw [if_pos h1]; omega
   · obtain ⟨-,-,h2,hk,-⟩:=h.kids (by omega);rw [Pl.ex] at he;obtain ⟨he1,he2⟩:=he.resolve_left (by omega);rw [if_neg h1]
     by_cases h3:lv=l
     · rw [if_pos h3]; omega
     · rw [if_neg h3];exact ⟨ja2 l cs 0,xbw l E cs 0 (by omega) fun c hc=>(Pl.kB hl c (hk.mem c hc).2 (zav he2 c hc)).2⟩
theorem Pl.Kk {p:Pl} {E:Nat} (h:p.Can) (he:p.ex E):Fit p E p.nr:=⟨h,he,Nat.lt_pow_self (by decide)⟩
theorem ycs {l:Int} {cs:List Pl} {E:Nat} (h:∀ c ∈ cs,c.ex E) (hl:cs.length<=E+1):(vaa l cs).ex E:=by
 have hm:∀ c ∈ zk cs,c.ex E:=fun c hc=>h c (gas hc)
 have hs:(zk cs).length<=E+1:=by
  have:∀ cs:List Pl,(zk cs).length<=cs.length:=fun cs=>by
   induction cs with
   | nil=>exact pj _
   | cons c r ih =>
     rw [zk]
     split
     · exact pS _
     · simpa using ih
  exact py (this cs) hl
 unfold vaa
 split
 · exact (Fit.zero (D:=0)).ex
 · rename_i c e;exact hm c (by rw [e]; simp)
 · rename_i c d r e;rw [Pl.ex];rw [e] at hs hm;exact .inr ⟨hs,ua8 hm⟩
theorem vbn : ∀ cs : List Pl, ql (zk cs) <= ql cs
 | []=>pj _
 | c :: r=>by
   have:=vbn r;rw [zk]
   split
   · rw [ql]; omega
   · rw [ql,ql]; omega
theorem zcs {l:Int} {cs:List Pl} (hl:0 < l):(vaa l cs).nr<=ql cs:=by
 have h:=vbn cs;unfold vaa
 split
 · have:Pl.zero.nr=0:=by { unfold Pl.zero; rw [Pl.nr,if_pos (ub _)]; rfl }
   omega
 · rename_i c e;rw [e,ql,ql] at h;omega
 · rename_i c d r e;rw [e] at h;rw [Pl.nr,if_neg (by omega)];exact h
theorem xbb {f : Pl -> Pl} {K : Nat} : ∀ cs : List Pl, (∀ c ∈ cs, (f c).nr <= c.nr * K) -> ql (cs.map f) <= ql cs * K
 | [],_=>by simp [ql]
 | c :: r,h=>by
   have h1:=xbb (f:=f) (K:=K) r fun x hx=>h x (by simp [hx])
   have h2:=h c (by simp);rw [sr,ql,ql,rN];omega
def hsum (x : Rat) : List Rat -> Rat
 | []=>0
 | a :: r=>a+x * hsum x r
theorem kag (ρ : Int -> Rat) (l : Int) : ∀ cs : List Pl, ve ρ l cs = hsum (ρ l) (cs.map (Pl.val ρ))
 | []=>rfl
 | c :: r=>by rw [ve,sr,hsum,kag ρ l r]
theorem vax {x : Rat} : ∀ {L : List Rat}, (∀ a ∈ L, a = 0) -> hsum x L = 0
 | [],_=>rfl
 | a :: r,h=>by rw [hsum,h a (by simp),vax fun b hb=>h b (by simp [hb])]; grind
theorem ya3 {x c : Rat} : ∀ (m : Nat) (f g : Nat -> Rat), hsum x ((List.range m).map fun i => f i + c * g i) = hsum x ((List.range m).map f) + c * hsum x ((List.range m).map g)
 | 0,f,g=>by simp only [List.range_zero,SP,hsum]; grind
 | m+1,f,g=>by
   have h:=ya3 (x:=x) (c:=c) m (fun i=>f (i+1)) (fun i=>g (i+1));rw [Sw];simp only [sr,wN,Function.comp_def,hsum,Nat.succ_eq_add_one];rw [h]
   grind
theorem uaz {α : Type} (d : α) : ∀ L : List α, (List.range L.length).map (fun i => L.getD i d) = L
 | []=>rfl
 | a :: r=>by
   rw [pL,Sw,sr,wN];have h:=uaz d r;simp only [Function.comp_def,Nat.succ_eq_add_one,ss,sP];rw [h]
def wt2 : Nat -> List Rat -> List Rat
 | _,[]=>[]
 | e,a :: r=>a * (2 ^ e - 1) :: wt2 (e+1) r
theorem xb8 : ∀ (e : Nat) (L : List Rat), (wt2 e L).length = L.length
 | _,[]=>rfl
 | e,a :: r=>by rw [wt2,pL,pL,xb8 (e+1) r]
theorem yb8 (x : Rat) : ∀ (e : Nat) (L : List Rat), hsum x (wt2 e L) = 2 ^ e * hsum (2 * x) L - hsum x L
 | e,[]=>by simp only [wt2,hsum]; grind
 | e,a :: r=>by
   rw [wt2,hsum,hsum,hsum,yb8 x (e+1) r,Pr]
   grind
theorem wcb:∀ e:Nat,1<=e->(2:Rat) ^ e - 1 ≠ 0:=fun e he h=>by
 have h1:((2:Nat):Rat) ^ e=((2 ^ e:Nat):Rat):=by push_cast; rfl
 have h2:((2 ^ e:Nat):Rat)=((1:Nat):Rat):=by rw [<- h1]; push_cast; grind
 have h3:2 ^ e=1:=by exact_mod_cast h2
 have h4:2 ^ 1<=2 ^ e:=rS (by decide) he;omega
theorem vbs : ∀ (e : Nat), 1 <= e -> ∀ L : List Rat, (∀ a ∈ wt2 e L, a = 0) -> ∀ a ∈ L, a = 0
 | _,_,[],_,a,ha=>by cases ha
 | e,he,b :: r,h,a,ha=>by
   rw [wt2] at h;rcases pQ.1 ha with rfl | ha
   · have h1:=h (a * (2 ^ e - 1)) (by simp);rcases Rat.mul_eq_zero.1 h1 with h2 | h2
     · exact h2
     · exact absurd h2 (wcb e he)
   · exact vbs (e+1) (by omega) r (fun c hc=>h c (by simp [hc])) a ha
theorem uby (n:Nat):∀ L:List Rat,L.length<=n->(∀ x,x ≠ 0->hsum x L=0)->∀ a ∈ L,a=0:=by
 induction n with
 | zero =>
   intro L hl _ a ha;cases L with
   | nil=>cases ha
   | cons b r=>simp at hl
 | succ n ih =>
   intro L hl h;cases L with
   | nil=>intro a ha; cases ha
   | cons b r =>
     have hr:∀ a ∈ r,a=0:=by
      refine vbs 1 (pj _) r (ih _ (by rw [xb8]; simp only [pL] at hl; omega) fun x hx=>?_);have h1:=h x hx;have h2:=h (2 * x) (fun e=>by rcases Rat.mul_eq_zero.1 e with e | e; exact absurd e (by decide); exact hx e);have h3:=yb8 x 0 (b :: r);rw [h1,h2,wt2,hsum] at h3;have h4:x * hsum x (wt2 1 r)=0:=by
       have:(b * ((2:Rat) ^ 0 - 1))=0:=by rw [Rat.pow_zero]; grind
       rw [this] at h3
       grind
      rcases Rat.mul_eq_zero.1 h4 with h5 | h5
      · exact absurd h5 hx
      · exact h5
     intro a ha;rcases pQ.1 ha with rfl | ha
     · have h1:=h 1 (by decide);rw [hsum,vax hr] at h1
       grind
     · exact hr a ha
def wab : Nat -> List Pl -> List Pl
 | 0,[]=>[Pl.zero]
 | 0,c :: _=>[c]
 | n+1,[]=>Pl.zero :: wab n []
 | n+1,c :: r=>c :: wab n r
theorem va2 : ∀ (n : Nat) (cs : List Pl), (wab n cs).length = n + 1
 | 0,[]=>rfl
 | 0,_ :: _=>rfl
 | n+1,[]=>by rw [wab,pL,va2 n]
 | n+1,_ :: r=>by rw [wab,pL,va2 n]
theorem kbe : ∀ (n : Nat) (cs : List Pl) (i : Nat), i <= n -> (wab n cs).getD i Pl.zero = cs.getD i Pl.zero
 | 0,[],0,_=>rfl
 | 0,_ :: _,0,_=>rfl
 | n+1,[],0,_=>rfl
 | n+1,[],i+1,h=>by rw [wab,ss,kbe n [] i (by omega)]; rfl
 | n+1,_ :: _,0,_=>rfl
 | n+1,_ :: r,i+1,h=>by rw [wab,ss,ss,kbe n r i (by omega)]
theorem yab : ∀ (n : Nat) (cs : List Pl) (c : Pl), c ∈ wab n cs -> c = Pl.zero \/ c ∈ cs
 | 0,[],c,h=>by simp [wab] at h; exact .inl h
 | 0,d :: _,c,h=>by simp [wab] at h; exact .inr (by simp [h])
 | n+1,[],c,h=>by
   rw [wab] at h;rcases pQ.1 h with h | h
   · exact .inl h
   · exact yab n [] c h
 | n+1,d :: r,c,h=>by
   rw [wab] at h;rcases pQ.1 h with h | h
   · exact .inr (by simp [h])
   · rcases yab n r c h with h | h
     · exact .inl h
     · exact .inr (by simp [h])
theorem ka2 (ρ : Int -> Rat) (l : Int) : ∀ (n : Nat) (cs : List Pl), cs.length <= n + 1 -> ve ρ l (wab n cs) = ve ρ l cs
 | 0,[],_=>by simp only [wab,ve,Pl.qu]; grind
 | 0,[c],_=>rfl
 | n+1,[],_=>by
   have h:=ka2 ρ l n [] (by simp);simp only [wab,ve] at h ⊢;rw [h,Pl.qu]
   grind
 | n+1,c :: r,h=>by rw [wab,ve,ve,ka2 ρ l n r (by simpa using h)]
mutual
def Pl.zm (l : Int) (n : Nat) : Pl -> List Pl
 | .mk lv ng ds cs=>if lv < l then wab n [.mk lv ng ds cs] else if lv=l then wab n cs else (List.range (n+1)).map fun i=>.mk lv false [] (yah l n i cs)
def yah (l : Int) (n i : Nat) : List Pl -> List Pl
 | []=>[]
 | c :: r=>(c.zm l n).getD i Pl.zero :: yah l n i r
end
theorem xaj (l : Int) (n i : Nat) : ∀ cs : List Pl, yah l n i cs = cs.map fun c => (c.zm l n).getD i Pl.zero
 | []=>rfl
 | c :: r=>by rw [yah,xaj l n i r]; rfl
theorem Pl.xz (l:Int) (n:Nat) (p:Pl):(p.zm l n).length=n+1:=by
 cases p;rw [Pl.zm]
 split
 · exact va2 _ _
 · split
   · exact va2 _ _
   · simp
theorem ja4 {α:Type} (f:Nat->α) (d:α) {n i:Nat} (h:i < n):((List.range n).map f).getD i d=f i:=by
 rw [pr,ue,List.getElem?_range h]; rfl
theorem Pl.Ys (l:Int) (n:Nat) (lv:Int) (ng:Bool) (ds:List Nat) (cs:List Pl) (h:l < lv) {i:Nat} (hi:i<=n):((Pl.mk lv ng ds cs).zm l n).getD i Pl.zero=.mk lv false [] (yah l n i cs):=by
 rw [Pl.zm,if_neg (by omega),if_neg (by omega)];exact ja4 _ _ (by omega)
theorem vbq {ρ : Int -> Rat} {l lv : Int} {n : Nat} : ∀ cs : List Pl, (∀ c ∈ cs, ve ρ l (c.zm l n) = c.val ρ) -> hsum (ρ l) ((List.range (n + 1)).map fun i => ve ρ lv (yah l n i cs)) = ve ρ lv cs
 | [],_=>by
   simp only [yah,ve];exact vax (by intro a ha; obtain ⟨_,_,rfl⟩:=pZ.1 ha; rfl)
 | c :: r,h=>by
   have h1:∀ i,ve ρ lv (yah l n i (c :: r))=((c.zm l n).getD i Pl.zero).val ρ+ρ lv * ve ρ lv (yah l n i r):=fun i=>by rw [yah,ve]
   simp only [h1];rw [ya3 (n+1) (fun i=>((c.zm l n).getD i Pl.zero).val ρ) (fun i=>ve ρ lv (yah l n i r)),vbq r fun d hd=>h d (by simp [hd]),ve]
   congr 1
   rw [<- h c (by simp),kag]
   congr 1
   have h2:=uaz Pl.zero (c.zm l n);rw [c.xz] at h2
   conv=>rhs; rw [<- h2,wN]
   rfl
theorem Pl.K0 {ρ : Int -> Rat} {l : Int} {n : Nat} (hl : 1 <= l) : ∀ p : Pl, p.Can -> p.yq l <= n -> ve ρ l (p.zm l n) = p.val ρ
 | .mk lv ng ds cs,h,hd=>by
   have h4:=h.qq;simp only [Pl.lv] at h4;rw [Pl.yq] at hd;rw [Pl.zm]
   by_cases h1:lv < l
   · rw [if_pos h1,ka2 ρ l n _ (by simp),ve,ve]; grind
   · obtain ⟨-,-,h2,hk,-⟩:=h.kids (by omega);rw [if_neg h1] at hd ⊢;rw [Pl.mk_val ρ _ _ _ (by omega) h4.2]
     by_cases h3:lv=l
     · rw [if_pos h3] at hd ⊢;rw [ka2 ρ l n cs (by omega),h3]
     · rw [if_neg h3] at hd ⊢;rw [kag,wN];have h5:((List.range (n+1)).map (Pl.val ρ ∘ fun i=>Pl.mk lv false [] (yah l n i cs)))=(List.range (n+1)).map fun i=>ve ρ lv (yah l n i cs):=by
        refine S7 fun i _=>?_
        exact Pl.mk_val ρ _ _ _ (by omega) h4.2
       rw [h5];exact vbq cs fun c hc=>Pl.K0 hl c (hk.mem c hc).2 (Int.le_trans (yax l cs 0 c hc) hd)
def ug (l:Int) (p:Pl):Prop:=∀ ρ ρ':Int->Rat,(∀ j,j ≠ l->ρ j=ρ' j)->p.val ρ=p.val ρ'
theorem jak {ρ ρ' : Int -> Rat} {l : Int} (hl : ρ l = ρ' l) : ∀ cs : List Pl, (∀ c ∈ cs, c.val ρ = c.val ρ') -> ve ρ l cs = ve ρ' l cs
 | [],_=>rfl
 | c :: r,h=>by rw [ve,ve,h c (by simp),hl,jak hl r fun d hd=>h d (by simp [hd])]
theorem Pl.kj {ρ ρ' : Int -> Rat} : ∀ p : Pl, p.Can -> (∀ j, j <= p.lv -> ρ j = ρ' j) -> p.val ρ = p.val ρ'
 | .mk lv ng ds cs,h,he=>by
   simp only [Pl.lv] at he;have h4:=h.qq;simp only [Pl.lv] at h4
   by_cases h0:lv<=0
   · rw [Pl.val,Pl.val,if_pos h0,if_pos h0]
   · obtain ⟨-,-,h2,hk,-⟩:=h.kids (by omega);rw [Pl.mk_val ρ _ _ _ (by omega) h4.2,Pl.mk_val ρ' _ _ _ (by omega) h4.2];exact jak (he lv (ub _)) cs fun c hc=>Pl.kj c (hk.mem c hc).2 fun j hj=>he j (by have:=(hk.mem c hc).1; omega)
theorem jar {l:Int} {p:Pl} (h:p.Can) (hl:p.lv < l):ug l p:=fun ρ ρ' he=>p.kj h fun j hj=>he j (by omega)
theorem vat (l:Int):ug l Pl.zero:=fun ρ ρ' _=>by rw [Pl.qu,Pl.qu]
theorem Pl.Xs {l : Int} {n : Nat} (hl : 1 <= l) : ∀ p : Pl, p.Can -> ∀ c ∈ p.zm l n, ug l c
 | .mk lv ng ds cs,h,c,hc=>by
   have h4:=h.qq;simp only [Pl.lv] at h4;rw [Pl.zm] at hc
   by_cases h1:lv < l
   · rw [if_pos h1] at hc;rcases yab _ _ _ hc with rfl | hc
     · exact vat l
     · rw [pD.1 hc];exact jar h h1
   · obtain ⟨-,-,h2,hk,-⟩:=h.kids (by omega);rw [if_neg h1] at hc
     by_cases h3:lv=l
     · rw [if_pos h3] at hc;rcases yab _ _ _ hc with rfl | hc
       · exact vat l
       · exact jar (hk.mem c hc).2 (by have:=(hk.mem c hc).1; omega)
     · rw [if_neg h3] at hc;obtain ⟨i,hi,rfl⟩:=pZ.1 hc;rw [xaj];intro ρ ρ' he;rw [Pl.mk_val ρ _ _ _ (by omega) h4.2,Pl.mk_val ρ' _ _ _ (by omega) h4.2];refine jak (he lv h3) _ fun d hd=>?_
       obtain ⟨c,hc,rfl⟩:=pZ.1 hd;have hlen:=c.xz l n;have jI:=SM.1 hi;rw [pr,po (by omega)];exact Pl.Xs hl c (hk.mem c hc).2 _ (pt _) ρ ρ' he
theorem ug.nf {l:Int} {p:Pl} (h:ug l p):ug l p.nf:=fun ρ ρ' he=>by rw [Pl.js,Pl.js]; exact h ρ ρ' he
theorem Pl.KB:Pl.zero.nf=Pl.zero:=Pl.q7 Pl.qS
theorem ga8 (x : Rat) (ρ : Int -> Rat) : ∀ (c : List Pl) (n : Nat), c.length <= n -> hsum x ((List.range n).map fun i => (c.getD i Pl.zero).val ρ) = hsum x (c.map (Pl.val ρ))
 | [],n,_=>by
   rw [vax]
   · rfl
   · intro a ha;obtain ⟨i,-,rfl⟩:=pZ.1 ha;rw [Rb,Pl.qu]
 | d :: r,0,h=>by simp at h
 | d :: r,n+1,h=>by
   rw [Sw,sr,wN,hsum,sr,hsum,sP]
   congr 2
   have:=ga8 x ρ r n (by simpa using h);simpa [Function.comp_def] using this
theorem ga7 {l:Int} {a b:List Pl} (ha:∀ c ∈ a,ug l c) (hb:∀ c ∈ b,ug l c) (h:∀ ρ,ve ρ l a=ve ρ l b) (i:Nat) (ρ:Int->Rat):(a.getD i Pl.zero).val ρ=(b.getD i Pl.zero).val ρ:=by
 obtain ⟨n,hn⟩:=n_m (max a.length b.length);have pad:∀ (c:List Pl),c.length<=n->(∀ x ∈ c,ug l x)->∀ x:Rat,hsum x ((List.range n).map fun i=>(c.getD i Pl.zero).val ρ)=ve (fun j=>if j=l then x else ρ j) l c:=by
  intro c hc hi x;rw [kag];have e1:c.map (Pl.val fun j=>if j=l then x else ρ j)=c.map (Pl.val ρ):=S7 fun d hd=>hi d hd _ _ fun j hj=>by rw [if_neg hj]
  rw [e1,if_pos rfl];exact ga8 x ρ c n hc
 have hz:=uby n ((List.range n).map fun i=>(a.getD i Pl.zero).val ρ+(-1) * (b.getD i Pl.zero).val ρ) (by simp) (fun x _=>by
  rw [ya3 n (fun i=>(a.getD i Pl.zero).val ρ) (fun i=>(b.getD i Pl.zero).val ρ),pad a (by omega) ha,pad b (by omega) hb,h]
  grind)
 by_cases hi:i < n
 · have:=hz _ (pZ.2 ⟨i,SM.2 hi,rfl⟩)
   grind
 · rw [pr,pr,sA (by omega),sA (by omega)]
structure kam (l : Int) (p : Pl) (L : List Pl) : Prop where
 can:∀ c ∈ L,c.Can
 ind:∀ c ∈ L,ug l c
 val:∀ ρ,ve ρ l L=p.val ρ
 last:L.getLast? ≠ some Pl.zero
theorem gag {L:List Pl} (h:L.getLast? ≠ some Pl.zero) (hn:L ≠ []):L.getD (L.length - 1) Pl.zero ≠ Pl.zero:=by
 intro e;apply h;have hl:L.length - 1 < L.length:=by have:=rA.2 hn; omega
 rw [sC,po hl];rw [pr,po hl] at e;exact congrArg some e
theorem kam.uniq {l:Int} {p:Pl} {a b:List Pl} (ha:kam l p a) (hb:kam l p b):a=b:=by
 have hc:∀ i,a.getD i Pl.zero=b.getD i Pl.zero:=fun i=>by
  refine Pl.qz ?_ ?_ fun ρ=>ga7 ha.ind hb.ind (fun ρ=>by rw [ha.val,hb.val]) i ρ
  · rw [pr]
    by_cases hi:i < a.length
    · rw [po hi]; exact ha.can _ (pt hi)
    · rw [sA (by omega)]; exact Pl.qS
  · rw [pr]
    by_cases hi:i < b.length
    · rw [po hi]; exact hb.can _ (pt hi)
    · rw [sA (by omega)]; exact Pl.qS
 have hlen:∀ {a b:List Pl},a.getLast? ≠ some Pl.zero->(∀ i,a.getD i Pl.zero=b.getD i Pl.zero)->a.length<=b.length:=by
  intro a b h1 h2
  by_cases hn:a=[]
  · rw [hn]; simp
  · have h3:=gag h1 hn
    by_cases h4:a.length<=b.length
    · exact h4
    · exfalso
      apply h3;rw [h2,pr,sA (by omega)]
      rfl
 have e:a.length=b.length:=Nat.le_antisymm (hlen ha.last hc) (hlen hb.last fun i=>(hc i).symm);refine sR e fun i h1 h2=>?_
 have:=hc i;rw [pr,pr,po h1,po h2] at this;exact this
def Pl.xi (l:Int) (p:Pl):List Pl:=if p.zp=true then [] else if 1<=l/\l<=4 then (p.zm l (p.yq l).toNat).map Pl.nf else [p]
theorem xbe (ρ:Int->Rat) (l:Int) (cs:List Pl):ve ρ l (cs.map Pl.nf)=ve ρ l cs:=by
 rw [kag,kag,wN]
 congr 1
 exact S7 fun c _=>Pl.js ρ c
theorem ycm {l:Int} (hl:0 < l) (h4:l<=4) {ks:List Pl} (hk:∀ c ∈ ks,c.Can/\c.lv < l) (h:∀ ρ,ve ρ l ks=0):∀ c ∈ ks,c=Pl.zero:=by
 intro c hc;obtain ⟨i,hi,rfl⟩:=tj hc;refine Pl.qz (hk _ hc).1 Pl.qS fun ρ=>?_
 have:=ga7 (l:=l) (a:=ks) (b:=[]) (fun c hc=>jar (hk c hc).1 (hk c hc).2) (fun c hc=>by cases hc) (fun ρ=>by rw [h]; rfl) i ρ;rw [pr,po hi,Rb] at this;exact this
end Go.Proofs.YtcepajijiabkmaaGreat
