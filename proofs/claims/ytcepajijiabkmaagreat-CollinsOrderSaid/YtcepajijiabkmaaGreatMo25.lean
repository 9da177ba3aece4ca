/- make([]Poly, n) and copy: rows of polynomials known by all their cells. -/
import Derived.Test.YtcepajijiabkmaaGreatMo15
set_option linter.all false
set_option maxRecDepth 100000
set_option maxHeartbeats 8000000
namespace Go.Proofs.YtcepajijiabkmaaGreat
open Go.RowKit
def waa:Pl × Value × Value:=(Pl.zero,.slice none 0 0,.slice none 0 0)
def ubb (W:World) (R:Nat) (rs:List (Pl × Value × Value)):Prop:=W.heap[R]?=some (.cells (ul rs).toArray 33 (0,0))
theorem ubb.qaM {W:World} {R:Nat} {q:Nat->Prop} {rs:List (Pl × Value × Value)} (h:ubb W R rs) (he:∀ r ∈ rs,(∃ A0 n0 c0 A1 n1 c1,r.2=(.slice A0 n0 c0,.slice A1 n1 c1))/\PlV W (fun b=>q b/\b ≠ R) r.1 (plV r.1 r.2.1 r.2.2)):jh W q R (rs.map fun r=>r.1):=by
 have hc:∀ i,i < rs.length->∀ j,j < 4->∀ u,(plC (rs.getD i waa))[j]?=some u->W.cell? ⟨R,i * 4+j,none⟩=some u:=fun i hi j hj u hu=>by
  rw [cell_of_row _ _ (i * 4+j) _ _ (0,0) h];rw [po,pr hi] at hu;rw [WD,qan rs i hi j hj];exact hu
 refine ⟨(rB.1 h).1,fun i=>by simp [World.frozen?,show W.heap[R]?=_ from h],fun i hi=>?_⟩;rw [pw] at hi;obtain ⟨⟨A0,n0,c0,A1,n1,c1,e⟩,hp⟩:=he rs[i] (pt hi);have jJ:rs.getD i waa=rs[i]:=by rw [po,pr hi]; rfl
 rw [rN];rw [e] at hp;have lD:=hc i hi;rw [jJ] at lD;refine ⟨A0,n0,c0,A1,n1,c1,⟨?_,?_,?_,?_⟩,hp⟩
 · have:=lD 0 (by omega) _ rfl
   rwa [s9] at this
 · exact lD 1 (by omega) _ rfl
 · have:=lD 2 (by omega) _ rfl;rw [e] at this;exact this
 · have:=lD 3 (by omega) _ rfl;rw [e] at this;exact this
theorem qa3 (W:World) (q:Nat->Prop) (n:Nat):∀ r ∈ List.replicate n waa,(∃ A0 n0 c0 A1 n1 c1,r.2=(.slice A0 n0 c0,.slice A1 n1 c1))/\PlV W q r.1 (plV r.1 r.2.1 r.2.2):=fun r hr=>by
 rw [St hr];exact ⟨⟨none,0,0,none,0,0,rfl⟩,Pl.xt W q none 0 (by omega)⟩
theorem ga7 (n:Nat) (h1:n<=1099511627776) (w:World) :
 ∃ w',(Instr.makeSlice 31 (.int .i64 n) (.int .i64 n)).run Tryz.prog w=.ok (.slice (some ⟨w.heap.size,0,none⟩) n n) w'/\Ext w w'/\w'.heap.size=w.heap.size+1/\ubb w' w.heap.size (List.replicate n waa):=by
 obtain ⟨i0,hi,iV,iJ,iI⟩:=info_parts yaz;refine ⟨w.alloc (.cells (madeCells (Value.agg #[.int .i64 0,.bool false,.slice none 0 0,.slice none 0 0]).cells (n * i0.size)) 33),?_,(Ext.refl w).alloc _,by simp,?_⟩
 · have:=run_make w 31 33 i0 _ T6 hi iV .i64 .i64 n n (by omega) (by omega) (by rw [iI]; omega) (by omega);rw [sX] at this;exact this
 · unfold ubb;rw [heap_alloc_new w _]
   congr 2
   rw [iJ];unfold madeCells;apply Array.ext_getElem?;intro j;rw [SF,Sc,WD]
   by_cases hj:j < n * 4
   · rw [if_pos hj];have hd:j / 4 * 4+j % 4=j:=by omega
     have hm:j % 4 < 4:=by omega
     have:=qan (List.replicate n waa) (j / 4) (by rw [ra]; omega) (j % 4) hm;rw [hd,we] at this;rw [this];show some ((#[Value.int .i64 0,.bool false,.slice none 0 0,.slice none 0 0]:Array Value)[j % 4]!)=_;rcases (show j % 4=0\/j % 4=1\/j % 4=2\/j % 4=3 by omega) with e | e | e | e <;> rw [e] <;> rfl
   · rw [if_neg hj,sE (by rw [ku,ra]; omega)]
     rfl
theorem kbc {W:World} {q q':Nat->Prop} {R n dc sc:Nat} {A:Option Addr} {cs:List Pl} (hR:ubb W R (List.replicate n waa)) (h:jd W q cs A 0) (hq:∀ b,q b->q' b/\b ≠ R) (hlen:cs.length<=n) (ty:TypeId) :
 ∃ W',(Builtin.copy_ #[31,31] ty #[.slice (some ⟨R,0,none⟩) n dc,.slice A cs.length sc]).run Tryz.prog W=.ok (.int .i64 cs.length) W'/\(∀ b,b ≠ R->W'.heap[b]?=W.heap[b]?)/\W'.heap.size=W.heap.size/\(∀ V,Ext V W->V.heap.size<=R->Ext V W')/\(∀ v ds,jc W v ds->jc W' v ds)/\jh W' q' R (cs ++ List.replicate (n - cs.length) Pl.zero):=by
 obtain ⟨i0,hi,iV,iJ,iI⟩:=info_parts yaz;have hu:=T6
 by_cases fD:cs=[]
 · subst fD;refine ⟨W,?_,fun _ _=>rfl,rfl,fun _ h _=>h,fun _ _ h=>h,?_⟩
   · cases A with
     | none=>simp [Builtin.copy_,run_underlying hu,Builtin.lenOf,Builtin.firstCells,sizeOf,typeInfo,hi,storeCells]; rfl
     | some ad=>
       have hl:=run_loadCells_list (P:=Tryz.prog) W ad [] (fun j v hv=>by simp at hv);have mX:(loadCells ad 0).run Tryz.prog W=.ok #[] W:=hl;simp [Builtin.copy_,run_underlying hu,Builtin.lenOf,Builtin.firstCells,sizeOf,typeInfo,hi,storeCells,mX]; rfl
   · have:=hR.qaM (q:=q') (qa3 W _ n);rw [Sw] at this;simpa [waa] using this
 · have dw:=rA.2 fD;obtain ⟨ad,-,-,rfl,-⟩:=jd.xS cs A 0 h 0 dw;obtain ⟨rs,rfl,e2,e3⟩:=jd.rows cs 0 h;rw [pw] at hlen dw ⊢;have ET:∀ j v,(ul rs)[j]?=some v->W.cell? (ad.add j)=some v:=fun j u hu=>by
    have hj:j < rs.length * 4:=by rw [<- ku]; exact (wk.1 hu).1
    have hd:j / 4 * 4+j % 4=j:=by omega
    have hm:=e3 ad rfl (j / 4) (by omega);rw [ri] at hm;have hg:=qan rs (j / 4) (by omega) (j % 4) (by omega);rw [hd,hu] at hg;have:=hm.cells (j % 4) (by omega) u hg.symm
    rwa [hd] at this
   have jV:∀ v ∈ ul rs,v.oneCell'=true:=fun u hu=>by
    simp only [ul,rL] at hu;obtain ⟨r,hr,hu⟩:=hu;obtain ⟨⟨A0,n0,c0,A1,n1,c1,er⟩,-⟩:=e2 r hr;simp only [plC,er,pN,sr,or_false] at hu;rcases hu with rfl | rfl | rfl | rfl <;> rfl
   have hl:=run_loadCells_list (P:=Tryz.prog) W ad (ul rs) ET;have dV:=run_storeCells_at Tryz.prog R 0 33 (ul rs) 0 _ W hR (by simp [ku]; omega) jV;rw [ku] at hl dV;have RN:Nat.min rs.length n=rs.length:=so hlen;have ae:((ul (List.replicate n waa)).toArray.toList.take (0+0) ++ ul rs ++ (ul (List.replicate n waa)).toArray.toList.drop (0+0+rs.length * 4))=ul (rs ++ List.replicate (n - rs.length) waa):=by
    have oZ:List.replicate n waa=List.replicate rs.length waa ++ List.replicate (n - rs.length) waa:=by
     rw [SU,Nat.add_sub_cancel' hlen]
    rw [zax]
    conv=>lhs; rw [oZ,zax]
    simp [List.drop_append,ku]
   rw [ae] at dV;have ax:∀ v ds,jc W v ds->jc (W.setRow R (ul (rs ++ List.replicate (n - rs.length) waa)).toArray) v ds:=fun v ds hv=>by
    refine kau (v:=.slice (some ⟨R,0,none⟩) 0 0) hv ⟨rfl,rfl,rfl,by simp [World.setRow],fun k _ hk=>setRow_other W R k _ (fun e=>hk (by rw [e]; rfl))⟩ ?_ (fun R' e=>?_)
    · intro R' cur T fr e hb u hu;have e':R=R':=by simpa [Value.ownBlock] using e
      subst e';rw [show W.heap[R]?=_ from hR] at hb;injection hb with hb
      injection hb with hb
      rw [<- hb] at hu;simp only [ul,rL] at hu;obtain ⟨r,hr,hu⟩:=hu;rw [St hr] at hu;simp only [plC,waa,pN,sr,or_false] at hu;rcases hu with rfl | rfl | rfl | rfl <;> rfl
    · have e':R=R':=by simpa [Value.ownBlock] using e
      subst e';exact ⟨_,_,_,hR⟩
   refine ⟨W.setRow R (ul (rs ++ List.replicate (n - rs.length) waa)).toArray,?_,fun b hb=>?_,by simp [World.setRow],fun V hV hs=>?_,fun v ds hv=>?_,?_⟩
   · simp [Builtin.copy_,run_underlying hu,Builtin.lenOf,Builtin.firstCells,sizeOf,typeInfo,hi,iJ,RN,hl,dV]; rfl
   · exact setRow_other W R b _ hb
   · exact Below.trans hV.below (⟨rfl,rfl,rfl,by simp [World.setRow],fun k hk=>setRow_other W R k _ (by omega)⟩:Below V.heap.size W (W.setRow R (ul (rs ++ List.replicate (n - rs.length) waa)).toArray))
   · exact ax v ds hv
   · have hf:ubb (W.setRow R (ul (rs ++ List.replicate (n - rs.length) waa)).toArray) R (rs ++ List.replicate (n - rs.length) waa):=setRow_heap W R _ _ _ _ hR;have:=hf.qaM (q:=q') (fun r hr=>by
      rcases pT.1 hr with hr | hr
      · exact ⟨(e2 r hr).1,PlV.zd (by simp [World.setRow]) ax (fun b _ hb=>⟨hq b hb,setRow_other W R b _ (hq b hb).2⟩) (e2 r hr).2⟩
      · exact qa3 _ _ _ r hr)
     rw [uc,Sw] at this;exact this
theorem wpList_copy_run {P : Program} {w : World} {ops : Array Oper} {rest : List Oper} {o : Oper} {a : Act} {Q : Exit -> Act -> World -> Prop} (jJ : o.guard = none) (s x : Operand) (t t' : TypeId)
 (ho:o.op=.call { callee:=.builtin .copy,args:=#[s,x],argTypes:=#[t,t'] }) (vs vx v':Value) (w':World) (hs:a.eval s=vs) (hx:a.eval x=vx) (hr:(Builtin.copy_ #[t,t'] o.type #[vs,vx]).run P w=.ok v' w')
 (h:wpList P ops Q rest (a.put o.dst v') w'):wpList P ops Q (o :: rest) a w:=by
 refine wpList_plain jJ fun K hK=>?_
 unfold Oper.wp execOp;simp only [ho,resolve,invoke,builtin,Tx,Sem.run_pure,RT,List.map_toArray,ss,Ss,hs,hx,hr];exact hK _ _ h
mutual
def Pl.yq (l : Int) : Pl -> Int
 | .mk lv _ _ cs=>if lv < l then 0 else if lv=l then cs.length - 1 else vw l 0 cs
def vw (l : Int) : Int -> List Pl -> Int
 | a,[]=>a
 | a,c :: r=>vw l (max a (c.yq l)) r
end
theorem zb0 (l a:Int) (x y:List Pl):vw l a (x ++ y)=vw l (vw l a x) y:=by
 induction x generalizing a with
 | nil=>rfl
 | cons t x ih=>simp only [rI,vw]; exact ih _
theorem wci (l a:Int) (cs:List Pl) (k:Nat) (hk:k < cs.length):vw l a (cs.take (k+1))=max (vw l a (cs.take k)) (cs[k].yq l):=by
 rw [pC hk,zb0]; rfl
theorem qa4 (l : Int) : ∀ (cs : List Pl) (a : Int), a <= vw l a cs
 | [],a=>uv _
 | c :: r,a=>by rw [vw]; have:=qa4 l r (max a (c.yq l)); omega
theorem vay (l : Int) : ∀ (cs : List Pl) (a : Int) (c : Pl), c ∈ cs -> c.yq l <= vw l a cs
 | d :: r,a,c,h=>by
   rw [vw];rcases pN.1 h with rfl | h
   · have:=qa4 l r (max a (c.yq l)); omega
   · exact vay l r _ c h
theorem wbz (l : Int) (n : Int) : ∀ (cs : List Pl) (a : Int), a <= n -> (∀ c ∈ cs, c.yq l <= n) -> vw l a cs <= n
 | [],a,h,_=>h
 | c :: r,a,h,hc=>by
   rw [vw];exact wbz l n r _ (by have:=hc c (by simp); omega) fun x hx=>hc x (by simp [hx])
theorem Pl.kI {l : Int} (hl : 1 <= l) {E : Nat} : ∀ p : Pl, p.Can -> p.ex E -> 0 <= p.yq l /\ p.yq l <= E
 | .mk lv n d cs,h,he=>by
   rw [Pl.yq]
   by_cases h1:lv < l
   · rw [if_pos h1]; omega
   · obtain ⟨-,-,h2,hk,-⟩:=h.kids (by omega);rw [Pl.ex] at he;obtain ⟨he1,he2⟩:=he.resolve_left (by omega);rw [if_neg h1]
     by_cases h3:lv=l
     · rw [if_pos h3]; omega
     · rw [if_neg h3];exact ⟨qa4 l cs 0,wbz l E cs 0 (by omega) fun c hc=>(Pl.kI hl c (hk.mem c hc).2 (qaw he2 c hc)).2⟩
theorem Pl.Kl {p:Pl} {E:Nat} (h:p.Can) (he:p.ex E):Fit p E p.nr:=⟨h,he,Nat.lt_pow_self (by decide)⟩
theorem jcx {l:Int} {cs:List Pl} {E:Nat} (h:∀ c ∈ cs,c.ex E) (hl:cs.length<=E+1):(vab l cs).ex E:=by
 have hm:∀ c ∈ zk cs,c.ex E:=fun c hc=>h c (yau hc)
 have hs:(zk cs).length<=E+1:=by
  have:∀ cs:List Pl,(zk cs).length<=cs.length:=fun cs=>by
   induction cs with
   | nil=>exact pj _
   | cons c r ih =>
     rw [zk]
     split
     · exact pZ _
     · simpa using ih
  exact py (this cs) hl
 unfold vab
 split
 · exact (Fit.zero (D:=0)).ex
 · rename_i c e;exact hm c (by rw [e]; simp)
 · rename_i c d r e;rw [Pl.ex];rw [e] at hs hm;exact .inr ⟨hs,wba hm⟩
theorem kbq : ∀ cs : List Pl, jm (zk cs) <= jm cs
 | []=>pj _
 | c :: r=>by
   have:=kbq r;rw [zk]
   split
   · rw [jm]; omega
   · rw [jm,jm]; omega
theorem qcx {l:Int} {cs:List Pl} (hl:0 < l):(vab l cs).nr<=jm cs:=by
 have h:=kbq cs;unfold vab
 split
 · have:Pl.zero.nr=0:=by { unfold Pl.zero; rw [Pl.nr,if_pos (uv _)]; rfl }
   omega
 · rename_i c e;rw [e,jm,jm] at h;omega
 · rename_i c d r e;rw [e] at h;rw [Pl.nr,if_neg (by omega)];exact h
theorem kbd {f : Pl -> Pl} {K : Nat} : ∀ cs : List Pl, (∀ c ∈ cs, (f c).nr <= c.nr * K) -> jm (cs.map f) <= jm cs * K
 | [],_=>by simp [jm]
 | c :: r,h=>by
   have h1:=kbd (f:=f) (K:=K) r fun x hx=>h x (by simp [hx])
   have h2:=h c (by simp);rw [ss,jm,jm,r5];omega
def hsum (x : Rat) : List Rat -> Rat
 | []=>0
 | a :: r=>a+x * hsum x r
theorem wah (ρ : Int -> Rat) (l : Int) : ∀ cs : List Pl, je ρ l cs = hsum (ρ l) (cs.map (Pl.val ρ))
 | []=>rfl
 | c :: r=>by rw [je,ss,hsum,wah ρ l r]
theorem xaz {x : Rat} : ∀ {L : List Rat}, (∀ a ∈ L, a = 0) -> hsum x L = 0
 | [],_=>rfl
 | a :: r,h=>by rw [hsum,h a (by simp),xaz fun b hb=>h b (by simp [hb])]; grind
theorem wa4 {x c : Rat} : ∀ (m : Nat) (f g : Nat -> Rat), hsum x ((List.range m).map fun i => f i + c * g i) = hsum x ((List.range m).map f) + c * hsum x ((List.range m).map g)
 | 0,f,g=>by simp only [List.range_zero,Ss,hsum]; grind
 | m+1,f,g=>by
   have h:=wa4 (x:=x) (c:=c) m (fun i=>f (i+1)) (fun i=>g (i+1));rw [SO];simp only [ss,Pa,paz,hsum,Nat.succ_eq_add_one];rw [h]
   grind
theorem va1 {α : Type} (d : α) : ∀ L : List α, (List.range L.length).map (fun i => L.getD i d) = L
 | []=>rfl
 | a :: r=>by
   rw [pH,SO,ss,Pa];have h:=va1 d r;simp only [paz,Nat.succ_eq_add_one,sA,sR];rw [h]
def wt2 : Nat -> List Rat -> List Rat
 | _,[]=>[]
 | e,a :: r=>a * (2 ^ e - 1) :: wt2 (e+1) r
theorem kcc : ∀ (e : Nat) (L : List Rat), (wt2 e L).length = L.length
 | _,[]=>rfl
 | e,a :: r=>by rw [wt2,pH,pH,kcc (e+1) r]
theorem jcc (x : Rat) : ∀ (e : Nat) (L : List Rat), hsum x (wt2 e L) = 2 ^ e * hsum (2 * x) L - hsum x L
 | e,[]=>by simp only [wt2,hsum]; grind
 | e,a :: r=>by
   rw [wt2,hsum,hsum,hsum,jcc x (e+1) r,Pu]
   grind
theorem jcg:∀ e:Nat,1<=e->(2:Rat) ^ e - 1 ≠ 0:=fun e he h=>by
 have h1:((2:Nat):Rat) ^ e=((2 ^ e:Nat):Rat):=by push_cast; rfl
 have h2:((2 ^ e:Nat):Rat)=((1:Nat):Rat):=by rw [<- h1]; push_cast; grind
 have h3:2 ^ e=1:=by exact_mod_cast h2
 have h4:2 ^ 1<=2 ^ e:=r8 (by decide) he;omega
theorem gbv : ∀ (e : Nat), 1 <= e -> ∀ L : List Rat, (∀ a ∈ wt2 e L, a = 0) -> ∀ a ∈ L, a = 0
 | _,_,[],_,a,ha=>by cases ha
 | e,he,b :: r,h,a,ha=>by
   rw [wt2] at h;rcases pN.1 ha with rfl | ha
   · have h1:=h (a * (2 ^ e - 1)) (by simp);rcases Wr.1 h1 with h2 | h2
     · exact h2
     · exact absurd h2 (jcg e he)
   · exact gbv (e+1) (by omega) r (fun c hc=>h c (by simp [hc])) a ha
theorem ub3 (n:Nat):∀ L:List Rat,L.length<=n->(∀ x,x ≠ 0->hsum x L=0)->∀ a ∈ L,a=0:=by
 induction n with
 | zero =>
   intro L hl _ a ha;cases L with
   | nil=>cases ha
   | cons b r=>simp at hl
 | succ n ih =>
   intro L hl h;cases L with
   | nil=>intro a ha; cases ha
   | cons b r =>
     have hr:∀ a ∈ r,a=0:=by
      refine gbv 1 (pj _) r (ih _ (by rw [kcc]; simp only [pH] at hl; omega) fun x hx=>?_);have h1:=h x hx;have h2:=h (2 * x) (fun e=>by rcases Wr.1 e with e | e; exact absurd e (by decide); exact hx e);have h3:=jcc x 0 (b :: r);rw [h1,h2,wt2,hsum] at h3;have h4:x * hsum x (wt2 1 r)=0:=by
       have:(b * ((2:Rat) ^ 0 - 1))=0:=by rw [Rat.pow_zero]; grind
       rw [this] at h3
       grind
      rcases Wr.1 h4 with h5 | h5
      · exact absurd h5 hx
      · exact h5
     intro a ha;rcases pN.1 ha with rfl | ha
     · have h1:=h 1 (by decide);rw [hsum,xaz hr] at h1
       grind
     · exact hr a ha
def wac : Nat -> List Pl -> List Pl
 | 0,[]=>[Pl.zero]
 | 0,c :: _=>[c]
 | n+1,[]=>Pl.zero :: wac n []
 | n+1,c :: r=>c :: wac n r
theorem ka4 : ∀ (n : Nat) (cs : List Pl), (wac n cs).length = n + 1
 | 0,[]=>rfl
 | 0,_ :: _=>rfl
 | n+1,[]=>by rw [wac,pH,ka4 n]
 | n+1,_ :: r=>by rw [wac,pH,ka4 n]
theorem gbg : ∀ (n : Nat) (cs : List Pl) (i : Nat), i <= n -> (wac n cs).getD i Pl.zero = cs.getD i Pl.zero
 | 0,[],0,_=>rfl
 | 0,_ :: _,0,_=>rfl
 | n+1,[],0,_=>rfl
 | n+1,[],i+1,h=>by rw [wac,sA,gbg n [] i (by omega)]; rfl
 | n+1,_ :: _,0,_=>rfl
 | n+1,_ :: r,i+1,h=>by rw [wac,sA,sA,gbg n r i (by omega)]
theorem yac : ∀ (n : Nat) (cs : List Pl) (c : Pl), c ∈ wac n cs -> c = Pl.zero \/ c ∈ cs
 | 0,[],c,h=>by simp [wac] at h; exact .inl h
 | 0,d :: _,c,h=>by simp [wac] at h; exact .inr (by simp [h])
 | n+1,[],c,h=>by
   rw [wac] at h;rcases pN.1 h with h | h
   · exact .inl h
   · exact yac n [] c h
 | n+1,d :: r,c,h=>by
   rw [wac] at h;rcases pN.1 h with h | h
   · exact .inr (by simp [h])
   · rcases yac n r c h with h | h
     · exact .inl h
     · exact .inr (by simp [h])
theorem ja4 (ρ : Int -> Rat) (l : Int) : ∀ (n : Nat) (cs : List Pl), cs.length <= n + 1 -> je ρ l (wac n cs) = je ρ l cs
 | 0,[],_=>by simp only [wac,je,Pl.qt]; grind
 | 0,[c],_=>rfl
 | n+1,[],_=>by
   have h:=ja4 ρ l n [] (by simp);simp only [wac,je] at h ⊢;rw [h,Pl.qt]
   grind
 | n+1,c :: r,h=>by rw [wac,je,je,ja4 ρ l n r (by simpa using h)]
mutual
def Pl.zm (l : Int) (n : Nat) : Pl -> List Pl
 | .mk lv ng ds cs=>if lv < l then wac n [.mk lv ng ds cs] else if lv=l then wac n cs else (List.range (n+1)).map fun i=>.mk lv false [] (jai l n i cs)
def jai (l : Int) (n i : Nat) : List Pl -> List Pl
 | []=>[]
 | c :: r=>(c.zm l n).getD i Pl.zero :: jai l n i r
end
theorem xak (l : Int) (n i : Nat) : ∀ cs : List Pl, jai l n i cs = cs.map fun c => (c.zm l n).getD i Pl.zero
 | []=>rfl
 | c :: r=>by rw [jai,xak l n i r]; rfl
theorem Pl.xz (l:Int) (n:Nat) (p:Pl):(p.zm l n).length=n+1:=by
 cases p;rw [Pl.zm]
 split
 · exact ka4 _ _
 · split
   · exact ka4 _ _
   · simp
theorem xa6 {α:Type} (f:Nat->α) (d:α) {n i:Nat} (h:i < n):((List.range n).map f).getD i d=f i:=by
 rw [po,tS,pak h]; rfl
theorem Pl.JN (l:Int) (n:Nat) (lv:Int) (ng:Bool) (ds:List Nat) (cs:List Pl) (h:l < lv) {i:Nat} (hi:i<=n):((Pl.mk lv ng ds cs).zm l n).getD i Pl.zero=.mk lv false [] (jai l n i cs):=by
 rw [Pl.zm,if_neg (by omega),if_neg (by omega)];exact xa6 _ _ (by omega)
theorem kbt {ρ : Int -> Rat} {l lv : Int} {n : Nat} : ∀ cs : List Pl, (∀ c ∈ cs, je ρ l (c.zm l n) = c.val ρ) -> hsum (ρ l) ((List.range (n + 1)).map fun i => je ρ lv (jai l n i cs)) = je ρ lv cs
 | [],_=>by
   simp only [jai,je];exact xaz (by intro a ha; obtain ⟨_,_,rfl⟩:=pS.1 ha; rfl)
 | c :: r,h=>by
   have h1:∀ i,je ρ lv (jai l n i (c :: r))=((c.zm l n).getD i Pl.zero).val ρ+ρ lv * je ρ lv (jai l n i r):=fun i=>by rw [jai,je]
   simp only [h1];rw [wa4 (n+1) (fun i=>((c.zm l n).getD i Pl.zero).val ρ) (fun i=>je ρ lv (jai l n i r)),kbt r fun d hd=>h d (by simp [hd]),je]
   congr 1
   rw [<- h c (by simp),wah]
   congr 1
   have h2:=va1 Pl.zero (c.zm l n);rw [c.xz] at h2
   conv=>rhs; rw [<- h2,Pa]
   rfl
theorem Pl.K0 {ρ : Int -> Rat} {l : Int} {n : Nat} (hl : 1 <= l) : ∀ p : Pl, p.Can -> p.yq l <= n -> je ρ l (p.zm l n) = p.val ρ
 | .mk lv ng ds cs,h,hd=>by
   have h4:=h.qq;simp only [Pl.lv] at h4;rw [Pl.yq] at hd;rw [Pl.zm]
   by_cases h1:lv < l
   · rw [if_pos h1,ja4 ρ l n _ (by simp),je,je]; grind
   · obtain ⟨-,-,h2,hk,-⟩:=h.kids (by omega);rw [if_neg h1] at hd ⊢;rw [Pl.mk_val ρ _ _ _ (by omega) h4.2]
     by_cases h3:lv=l
     · rw [if_pos h3] at hd ⊢;rw [ja4 ρ l n cs (by omega),h3]
     · rw [if_neg h3] at hd ⊢;rw [wah,Pa];have h5:((List.range (n+1)).map (Pl.val ρ ∘ fun i=>Pl.mk lv false [] (jai l n i cs)))=(List.range (n+1)).map fun i=>je ρ lv (jai l n i cs):=by
        refine Tg fun i _=>?_
        exact Pl.mk_val ρ _ _ _ (by omega) h4.2
       rw [h5];exact kbt cs fun c hc=>Pl.K0 hl c (hk.mem c hc).2 (Int.le_trans (vay l cs 0 c hc) hd)
def zh (l:Int) (p:Pl):Prop:=∀ ρ ρ':Int->Rat,(∀ j,j ≠ l->ρ j=ρ' j)->p.val ρ=p.val ρ'
theorem jal {ρ ρ' : Int -> Rat} {l : Int} (hl : ρ l = ρ' l) : ∀ cs : List Pl, (∀ c ∈ cs, c.val ρ = c.val ρ') -> je ρ l cs = je ρ' l cs
 | [],_=>rfl
 | c :: r,h=>by rw [je,je,h c (by simp),hl,jal hl r fun d hd=>h d (by simp [hd])]
theorem Pl.jz {ρ ρ' : Int -> Rat} : ∀ p : Pl, p.Can -> (∀ j, j <= p.lv -> ρ j = ρ' j) -> p.val ρ = p.val ρ'
 | .mk lv ng ds cs,h,he=>by
   simp only [Pl.lv] at he;have h4:=h.qq;simp only [Pl.lv] at h4
   by_cases h0:lv<=0
   · rw [Pl.val,Pl.val,if_pos h0,if_pos h0]
   · obtain ⟨-,-,h2,hk,-⟩:=h.kids (by omega);rw [Pl.mk_val ρ _ _ _ (by omega) h4.2,Pl.mk_val ρ' _ _ _ (by omega) h4.2];exact jal (he lv (uv _)) cs fun c hc=>Pl.jz c (hk.mem c hc).2 fun j hj=>he j (by have:=(hk.mem c hc).1; omega)
theorem uas {l:Int} {p:Pl} (h:p.Can) (hl:p.lv < l):zh l p:=fun ρ ρ' he=>p.jz h fun j hj=>he j (by omega)
theorem uau (l:Int):zh l Pl.zero:=fun ρ ρ' _=>by rw [Pl.qt,Pl.qt]
theorem Pl.Xs {l : Int} {n : Nat} (hl : 1 <= l) : ∀ p : Pl, p.Can -> ∀ c ∈ p.zm l n, zh l c
 | .mk lv ng ds cs,h,c,hc=>by
   have h4:=h.qq;simp only [Pl.lv] at h4;rw [Pl.zm] at hc
   by_cases h1:lv < l
   · rw [if_pos h1] at hc;rcases yac _ _ _ hc with rfl | hc
     · exact uau l
     · rw [pD.1 hc];exact uas h h1
   · obtain ⟨-,-,h2,hk,-⟩:=h.kids (by omega);rw [if_neg h1] at hc
     by_cases h3:lv=l
     · rw [if_pos h3] at hc;rcases yac _ _ _ hc with rfl | hc
       · exact uau l
       · exact uas (hk.mem c hc).2 (by have:=(hk.mem c hc).1; omega)
     · rw [if_neg h3] at hc;obtain ⟨i,hi,rfl⟩:=pS.1 hc;rw [xak];intro ρ ρ' he;rw [Pl.mk_val ρ _ _ _ (by omega) h4.2,Pl.mk_val ρ' _ _ _ (by omega) h4.2];refine jal (he lv h3) _ fun d hd=>?_
       obtain ⟨c,hc,rfl⟩:=pS.1 hd;have hlen:=c.xz l n;have jG:=S7.1 hi;rw [po,pr (by omega)];exact Pl.Xs hl c (hk.mem c hc).2 _ (pt _) ρ ρ' he
theorem zh.nf {l:Int} {p:Pl} (h:zh l p):zh l p.nf:=fun ρ ρ' he=>by rw [Pl.jt,Pl.jt]; exact h ρ ρ' he
theorem Pl.KB:Pl.zero.nf=Pl.zero:=Pl.q7 Pl.qT
theorem zbb (x : Rat) (ρ : Int -> Rat) : ∀ (c : List Pl) (n : Nat), c.length <= n -> hsum x ((List.range n).map fun i => (c.getD i Pl.zero).val ρ) = hsum x (c.map (Pl.val ρ))
 | [],n,_=>by
   rw [xaz]
   · rfl
   · intro a ha;obtain ⟨i,-,rfl⟩:=pS.1 ha;rw [Rr,Pl.qt]
 | d :: r,0,h=>by simp at h
 | d :: r,n+1,h=>by
   rw [SO,ss,Pa,hsum,ss,hsum,sR]
   congr 2
   have:=zbb x ρ r n (by simpa using h);simpa [paz] using this
theorem ga9 {l:Int} {a b:List Pl} (ha:∀ c ∈ a,zh l c) (hb:∀ c ∈ b,zh l c) (h:∀ ρ,je ρ l a=je ρ l b) (i:Nat) (ρ:Int->Rat):(a.getD i Pl.zero).val ρ=(b.getD i Pl.zero).val ρ:=by
 obtain ⟨n,hn⟩:=n_m (max a.length b.length);have pad:∀ (c:List Pl),c.length<=n->(∀ x ∈ c,zh l x)->∀ x:Rat,hsum x ((List.range n).map fun i=>(c.getD i Pl.zero).val ρ)=je (fun j=>if j=l then x else ρ j) l c:=by
  intro c hc hi x;rw [wah];have e1:c.map (Pl.val fun j=>if j=l then x else ρ j)=c.map (Pl.val ρ):=Tg fun d hd=>hi d hd _ _ fun j hj=>by rw [if_neg hj]
  rw [e1,if_pos rfl];exact zbb x ρ c n hc
 have hz:=ub3 n ((List.range n).map fun i=>(a.getD i Pl.zero).val ρ+(-1) * (b.getD i Pl.zero).val ρ) (by simp) (fun x _=>by
  rw [wa4 n (fun i=>(a.getD i Pl.zero).val ρ) (fun i=>(b.getD i Pl.zero).val ρ),pad a (by omega) ha,pad b (by omega) hb,h]
  grind)
 by_cases hi:i < n
 · have:=hz _ (pS.2 ⟨i,S7.2 hi,rfl⟩)
   grind
 · rw [po,po,sE (by omega),sE (by omega)]
structure uan (l : Int) (p : Pl) (L : List Pl) : Prop where
 can:∀ c ∈ L,c.Can
 ind:∀ c ∈ L,zh l c
 val:∀ ρ,je ρ l L=p.val ρ
 last:L.getLast? ≠ some Pl.zero
theorem yai {L:List Pl} (h:L.getLast? ≠ some Pl.zero) (hn:L ≠ []):L.getD (L.length - 1) Pl.zero ≠ Pl.zero:=by
 intro e;apply h;have hl:L.length - 1 < L.length:=by have:=rA.2 hn; omega
 rw [sI,pr hl];rw [po,pr hl] at e;exact congrArg some e
theorem uan.uniq {l:Int} {p:Pl} {a b:List Pl} (ha:uan l p a) (hb:uan l p b):a=b:=by
 have hc:∀ i,a.getD i Pl.zero=b.getD i Pl.zero:=fun i=>by
  refine Pl.qv ?_ ?_ fun ρ=>ga9 ha.ind hb.ind (fun ρ=>by rw [ha.val,hb.val]) i ρ
  · rw [po]
    by_cases hi:i < a.length
    · rw [pr hi]; exact ha.can _ (pt hi)
    · rw [sE (by omega)]; exact Pl.qT
  · rw [po]
    by_cases hi:i < b.length
    · rw [pr hi]; exact hb.can _ (pt hi)
    · rw [sE (by omega)]; exact Pl.qT
 have hlen:∀ {a b:List Pl},a.getLast? ≠ some Pl.zero->(∀ i,a.getD i Pl.zero=b.getD i Pl.zero)->a.length<=b.length:=by
  intro a b h1 h2
  by_cases hn:a=[]
  · rw [hn]; simp
  · have h3:=yai h1 hn
    by_cases h4:a.length<=b.length
    · exact h4
    · exfalso
      apply h3;rw [h2,po,sE (by omega)]
      rfl
 have e:a.length=b.length:=Nat.le_antisymm (hlen ha.last hc) (hlen hb.last fun i=>(hc i).symm);refine sT e fun i h1 h2=>?_
 have:=hc i;rw [po,po,pr h1,pr h2] at this;exact this
def Pl.xf (l:Int) (p:Pl):List Pl:=if p.zp=true then [] else if 1<=l/\l<=4 then (p.zm l (p.yq l).toNat).map Pl.nf else [p]
theorem kbg (ρ:Int->Rat) (l:Int) (cs:List Pl):je ρ l (cs.map Pl.nf)=je ρ l cs:=by
 rw [wah,wah,Pa]
 congr 1
 exact Tg fun c _=>Pl.jt ρ c
theorem ycr {l:Int} (hl:0 < l) (h4:l<=4) {ks:List Pl} (hk:∀ c ∈ ks,c.Can/\c.lv < l) (h:∀ ρ,je ρ l ks=0):∀ c ∈ ks,c=Pl.zero:=by
 intro c hc;obtain ⟨i,hi,rfl⟩:=tj hc;refine Pl.qv (hk _ hc).1 Pl.qT fun ρ=>?_
 have:=ga9 (l:=l) (a:=ks) (b:=[]) (fun c hc=>uas (hk c hc).1 (hk c hc).2) (fun c hc=>by cases hc) (fun ρ=>by rw [h]; rfl) i ρ;rw [po,pr hi,Rr] at this;exact this
end Go.Proofs.YtcepajijiabkmaaGreat
