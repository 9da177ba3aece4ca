/- make([]Poly, n) and copy: rows of polynomials known by all their cells. -/
import Derived.Test.YtcepajijiabkmaaGreatMq15
set_option linter.unusedSimpArgs false
set_option linter.unusedVariables false
set_option maxRecDepth 100000
set_option maxHeartbeats 8000000
namespace Go.Proofs.YtcepajijiabkmaaGreat
open Go.RowKit
def wz:Pl × Value × Value:=(Pl.zero,.slice none 0 0,.slice none 0 0)
def ua7 (W:World) (R:Nat) (rs:List (Pl × Value × Value)):Prop:=W.heap[R]?=some (.cells (yl rs).toArray 33 (0,0))
theorem ua7.prow {W:World} {R:Nat} {q:Nat->Prop} {rs:List (Pl × Value × Value)} (h:ua7 W R rs) (he:∀ r ∈ rs,(∃ A0 n0 c0 A1 n1 c1,r.2=(.slice A0 n0 c0,.slice A1 n1 c1))/\PlV W (fun b=>q b/\b ≠ R) r.1 (plV r.1 r.2.1 r.2.2)):zi W q R (rs.map fun r=>r.1):=by
 have hc:∀ i,i < rs.length->∀ j,j < 4->∀ u,(plC (rs.getD i wz))[j]?=some u->W.cell? ⟨R,i * 4+j,none⟩=some u:=fun i hi j hj u hu=>by
  rw [cell_of_row _ _ (i * 4+j) _ _ (0,0) h];rw [List.getD_eq_getElem?_getD,List.getElem?_eq_getElem hi] at hu;rw [List.getElem?_toArray,wak rs i hi j hj];exact hu
 refine ⟨(Array.getElem?_eq_some_iff.1 h).1,fun i=>by simp [World.frozen?,show W.heap[R]?=_ from h],fun i hi=>?_⟩;rw [List.length_map] at hi;obtain ⟨⟨A0,n0,c0,A1,n1,c1,e⟩,hp⟩:=he rs[i] (List.getElem_mem hi);have qI:rs.getD i wz=rs[i]:=by rw [List.getD_eq_getElem?_getD,List.getElem?_eq_getElem hi]; rfl
 rw [List.getElem_map];rw [e] at hp;have jH:=hc i hi;rw [qI] at jH;refine ⟨A0,n0,c0,A1,n1,c1,⟨?_,?_,?_,?_⟩,hp⟩
 · have:=jH 0 (by omega) _ rfl
   rwa [Nat.add_zero] at this
 · exact jH 1 (by omega) _ rfl
 · have:=jH 2 (by omega) _ rfl;rw [e] at this;exact this
 · have:=jH 3 (by omega) _ rfl;rw [e] at this;exact this
theorem kaz (W:World) (q:Nat->Prop) (n:Nat):∀ r ∈ List.replicate n wz,(∃ A0 n0 c0 A1 n1 c1,r.2=(.slice A0 n0 c0,.slice A1 n1 c1))/\PlV W q r.1 (plV r.1 r.2.1 r.2.2):=fun r hr=>by
 rw [List.eq_of_mem_replicate hr];exact ⟨⟨none,0,0,none,0,0,rfl⟩,Pl.zero_v W q none 0 (by omega)⟩
theorem kbs (n:Nat) (h1:n<=1099511627776) (w:World) :
 ∃ w',(Instr.makeSlice 31 (.int .i64 n) (.int .i64 n)).run Tryz.prog w=.ok (.slice (some ⟨w.heap.size,0,none⟩) n n) w'/\Ext w w'/\w'.heap.size=w.heap.size+1/\ua7 w' w.heap.size (List.replicate n wz):=by
 obtain ⟨i0,hi,lh,gK,iU⟩:=info_parts wav;refine ⟨w.alloc (.cells (madeCells (Value.agg #[.int .i64 0,.bool false,.slice none 0 0,.slice none 0 0]).cells (n * i0.size)) 33),?_,(Ext.refl w).alloc _,by simp,?_⟩
 · have:=run_make w 31 33 i0 _ Tryz.underlying31 hi lh .i64 .i64 n n (by omega) (by omega) (by rw [iU]; omega) (by omega);rw [Int.toNat_natCast] at this;exact this
 · unfold ua7;rw [heap_alloc_new w _]
   congr 2
   rw [gK];unfold madeCells;apply Array.ext_getElem?;intro j;rw [Array.getElem?_map,Array.getElem?_range,List.getElem?_toArray]
   by_cases hj:j < n * 4
   · rw [if_pos hj];have hd:j / 4 * 4+j % 4=j:=by omega
     have hm:j % 4 < 4:=by omega
     have:=wak (List.replicate n wz) (j / 4) (by rw [List.length_replicate]; omega) (j % 4) hm;rw [hd,List.getElem_replicate] at this;rw [this];show some ((#[Value.int .i64 0,.bool false,.slice none 0 0,.slice none 0 0]:Array Value)[j % 4]!)=_;rcases (show j % 4=0\/j % 4=1\/j % 4=2\/j % 4=3 by omega) with e | e | e | e <;> rw [e] <;> rfl
   · rw [if_neg hj,List.getElem?_eq_none (by rw [yu,List.length_replicate]; omega)]
     rfl
theorem gb0 {W:World} {q q':Nat->Prop} {R n dc sc:Nat} {A:Option Addr} {cs:List Pl} (hR:ua7 W R (List.replicate n wz)) (h:jd W q cs A 0) (hq:∀ b,q b->q' b/\b ≠ R) (hlen:cs.length<=n) (ty:TypeId) :
 ∃ W',(Builtin.copy_ #[31,31] ty #[.slice (some ⟨R,0,none⟩) n dc,.slice A cs.length sc]).run Tryz.prog W=.ok (.int .i64 cs.length) W'/\(∀ b,b ≠ R->W'.heap[b]?=W.heap[b]?)/\W'.heap.size=W.heap.size/\(∀ V,Ext V W->V.heap.size<=R->Ext V W')/\(∀ v ds,jb W v ds->jb W' v ds)/\zi W' q' R (cs ++ List.replicate (n - cs.length) Pl.zero):=by
 obtain ⟨i0,hi,lh,gK,iU⟩:=info_parts wav;have hu:=Tryz.underlying31
 by_cases eH:cs=[]
 · subst eH;refine ⟨W,?_,fun _ _=>rfl,rfl,fun _ h _=>h,fun _ _ h=>h,?_⟩
   · cases A with
     | none=>simp [Builtin.copy_,run_underlying hu,Builtin.lenOf,Builtin.firstCells,sizeOf,typeInfo,hi,storeCells]; rfl
     | some ad=>
       have hl:=run_loadCells_list (P:=Tryz.prog) W ad [] (fun j v hv=>by simp at hv);have kL:(loadCells ad 0).run Tryz.prog W=.ok #[] W:=hl;simp [Builtin.copy_,run_underlying hu,Builtin.lenOf,Builtin.firstCells,sizeOf,typeInfo,hi,storeCells,kL]; rfl
   · have:=hR.prow (q:=q') (kaz W _ n);rw [List.map_replicate] at this;simpa [wz] using this
 · have dh:=List.length_pos_iff.2 eH;obtain ⟨ad,-,-,rfl,-⟩:=jd.get_ cs A 0 h 0 dh;obtain ⟨rs,rfl,e2,e3⟩:=jd.rows cs 0 h;rw [List.length_map] at hlen dh ⊢;have Wj:∀ j v,(yl rs)[j]?=some v->W.cell? (ad.add j)=some v:=fun j u hu=>by
    have hj:j < rs.length * 4:=by rw [<- yu]; exact (List.getElem?_eq_some_iff.1 hu).1
    have hd:j / 4 * 4+j % 4=j:=by omega
    have hm:=e3 ad rfl (j / 4) (by omega);rw [Nat.zero_add] at hm;have hg:=wak rs (j / 4) (by omega) (j % 4) (by omega);rw [hd,hu] at hg;have:=hm.cells (j % 4) (by omega) u hg.symm
    rwa [hd] at this
   have pV:∀ v ∈ yl rs,v.oneCell'=true:=fun u hu=>by
    simp only [yl,List.mem_flatMap] at hu;obtain ⟨r,hr,hu⟩:=hu;obtain ⟨⟨A0,n0,c0,A1,n1,c1,er⟩,-⟩:=e2 r hr;simp only [plC,er,List.mem_cons,List.not_mem_nil,or_false] at hu;rcases hu with rfl | rfl | rfl | rfl <;> rfl
   have hl:=run_loadCells_list (P:=Tryz.prog) W ad (yl rs) Wj;have dF:=run_storeCells_at Tryz.prog R 0 33 (yl rs) 0 _ W hR (by simp [yu]; omega) pV;rw [yu] at hl dF;have OM:Nat.min rs.length n=rs.length:=Nat.min_eq_left hlen;have ae:((yl (List.replicate n wz)).toArray.toList.take (0+0) ++ yl rs ++ (yl (List.replicate n wz)).toArray.toList.drop (0+0+rs.length * 4))=yl (rs ++ List.replicate (n - rs.length) wz):=by
    have mD:List.replicate n wz=List.replicate rs.length wz ++ List.replicate (n - rs.length) wz:=by
     rw [List.replicate_append_replicate,Nat.add_sub_cancel' hlen]
    rw [uat]
    conv=>lhs; rw [mD,uat]
    simp [List.drop_append,yu]
   rw [ae] at dF;have ak:∀ v ds,jb W v ds->jb (W.setRow R (yl (rs ++ List.replicate (n - rs.length) wz)).toArray) v ds:=fun v ds hv=>by
    refine xar (v:=.slice (some ⟨R,0,none⟩) 0 0) hv ⟨rfl,rfl,rfl,by simp [World.setRow],fun k _ hk=>setRow_other W R k _ (fun e=>hk (by rw [e]; rfl))⟩ ?_ (fun R' e=>?_)
    · intro R' cur T fr e hb u hu;have e':R=R':=by simpa [Value.ownBlock] using e
      subst e';rw [show W.heap[R]?=_ from hR] at hb;injection hb with hb
      injection hb with hb
      rw [<- hb] at hu;simp only [yl,List.mem_flatMap] at hu;obtain ⟨r,hr,hu⟩:=hu;rw [List.eq_of_mem_replicate hr] at hu;simp only [plC,wz,List.mem_cons,List.not_mem_nil,or_false] at hu;rcases hu with rfl | rfl | rfl | rfl <;> rfl
    · have e':R=R':=by simpa [Value.ownBlock] using e
      subst e';exact ⟨_,_,_,hR⟩
   refine ⟨W.setRow R (yl (rs ++ List.replicate (n - rs.length) wz)).toArray,?_,fun b hb=>?_,by simp [World.setRow],fun V hV hs=>?_,fun v ds hv=>?_,?_⟩
   · simp [Builtin.copy_,run_underlying hu,Builtin.lenOf,Builtin.firstCells,sizeOf,typeInfo,hi,gK,OM,hl,dF]; rfl
   · exact setRow_other W R b _ hb
   · exact Below.trans hV.below (⟨rfl,rfl,rfl,by simp [World.setRow],fun k hk=>setRow_other W R k _ (by omega)⟩:Below V.heap.size W (W.setRow R (yl (rs ++ List.replicate (n - rs.length) wz)).toArray))
   · exact ak v ds hv
   · have hf:ua7 (W.setRow R (yl (rs ++ List.replicate (n - rs.length) wz)).toArray) R (rs ++ List.replicate (n - rs.length) wz):=setRow_heap W R _ _ _ _ hR;have:=hf.prow (q:=q') (fun r hr=>by
      rcases List.mem_append.1 hr with hr | hr
      · exact ⟨(e2 r hr).1,PlV.turn_ (by simp [World.setRow]) ak (fun b _ hb=>⟨hq b hb,setRow_other W R b _ (hq b hb).2⟩) (e2 r hr).2⟩
      · exact kaz _ _ _ r hr)
     rw [List.map_append,List.map_replicate] at this;exact this
theorem wpList_copy_run {P : Program} {w : World} {ops : Array Oper} {rest : List Oper} {o : Oper} {a : Act} {Q : Exit -> Act -> World -> Prop} (qI : o.guard = none) (s x : Operand) (t t' : TypeId)
 (ho:o.op=.call { callee:=.builtin .copy,args:=#[s,x],argTypes:=#[t,t'] }) (vs vx v':Value) (w':World) (hs:a.eval s=vs) (hx:a.eval x=vx) (hr:(Builtin.copy_ #[t,t'] o.type #[vs,vx]).run P w=.ok v' w')
 (h:wpList P ops Q rest (a.put o.dst v') w'):wpList P ops Q (o :: rest) a w:=by
 refine wpList_plain qI fun K hK=>?_
 unfold Oper.wp execOp;simp only [ho,resolve,invoke,builtin,Sem.run_bind,Sem.run_pure,Result.andThen_ok,List.map_toArray,List.map_cons,List.map_nil,hs,hx,hr];exact hK _ _ h
mutual
def Pl.dgL (l : Int) : Pl -> Int
 | .mk lv _ _ cs=>if lv < l then 0 else if lv=l then cs.length - 1 else yw l 0 cs
def yw (l : Int) : Int -> List Pl -> Int
 | a,[]=>a
 | a,c :: r=>yw l (max a (c.dgL l)) r
end
theorem gbt (l a:Int) (x y:List Pl):yw l a (x ++ y)=yw l (yw l a x) y:=by
 induction x generalizing a with
 | nil=>rfl
 | cons t x ih=>simp only [List.cons_append,yw]; exact ih _
theorem kcb (l a:Int) (cs:List Pl) (k:Nat) (hk:k < cs.length):yw l a (cs.take (k+1))=max (yw l a (cs.take k)) (cs[k].dgL l):=by
 rw [List.take_succ_eq_append_getElem hk,gbt]; rfl
theorem va0 (l : Int) : ∀ (cs : List Pl) (a : Int), a <= yw l a cs
 | [],a=>Int.le_refl _
 | c :: r,a=>by rw [yw]; have:=va0 l r (max a (c.dgL l)); omega
theorem qav (l : Int) : ∀ (cs : List Pl) (a : Int) (c : Pl), c ∈ cs -> c.dgL l <= yw l a cs
 | d :: r,a,c,h=>by
   rw [yw];rcases List.mem_cons.1 h with rfl | h
   · have:=va0 l r (max a (c.dgL l)); omega
   · exact qav l r _ c h
theorem ubt (l : Int) (n : Int) : ∀ (cs : List Pl) (a : Int), a <= n -> (∀ c ∈ cs, c.dgL l <= n) -> yw l a cs <= n
 | [],a,h,_=>h
 | c :: r,a,h,hc=>by
   rw [yw];exact ubt l n r _ (by have:=hc c (by simp); omega) fun x hx=>hc x (by simp [hx])
theorem Pl.dgL_bd {l : Int} (hl : 1 <= l) {E : Nat} : ∀ p : Pl, p.Can -> p.ex E -> 0 <= p.dgL l /\ p.dgL l <= E
 | .mk lv n d cs,h,he=>by
   rw [Pl.dgL]
   by_cases h1:lv < l
   · rw [if_pos h1]; omega
   · obtain ⟨-,-,h2,hk,-⟩:=h.kids (by omega);rw [Pl.ex] at he;obtain ⟨he1,he2⟩:=he.resolve_left (by omega);rw [if_neg h1]
     by_cases h3:lv=l
     · rw [if_pos h3]; omega
     · rw [if_neg h3];exact ⟨va0 l cs 0,ubt l E cs 0 (by omega) fun c hc=>(Pl.dgL_bd hl c (hk.mem c hc).2 (xat he2 c hc)).2⟩
theorem Pl.fit_of {p:Pl} {E:Nat} (h:p.Can) (he:p.ex E):Fit p E p.nr:=⟨h,he,Nat.lt_pow_self (by decide)⟩
theorem xco {l:Int} {cs:List Pl} {E:Nat} (h:∀ c ∈ cs,c.ex E) (hl:cs.length<=E+1):(uaa l cs).ex E:=by
 have hm:∀ c ∈ uj cs,c.ex E:=fun c hc=>h c (kaq hc)
 have hs:(uj cs).length<=E+1:=by
  have:∀ cs:List Pl,(uj cs).length<=cs.length:=fun cs=>by
   induction cs with
   | nil=>exact Nat.le_refl _
   | cons c r ih =>
     rw [uj]
     split
     · exact Nat.zero_le _
     · simpa using ih
  exact Nat.le_trans (this cs) hl
 unfold uaa
 split
 · exact (Fit.zero (D:=0)).ex
 · rename_i c e;exact hm c (by rw [e]; simp)
 · rename_i c d r e;rw [Pl.ex];rw [e] at hs hm;exact .inr ⟨hs,ua6 hm⟩
theorem gbk : ∀ cs : List Pl, ql (uj cs) <= ql cs
 | []=>Nat.le_refl _
 | c :: r=>by
   have:=gbk r;rw [uj]
   split
   · rw [ql]; omega
   · rw [ql,ql]; omega
theorem yco {l:Int} {cs:List Pl} (hl:0 < l):(uaa l cs).nr<=ql cs:=by
 have h:=gbk cs;unfold uaa
 split
 · have:Pl.zero.nr=0:=by { unfold Pl.zero; rw [Pl.nr,if_pos (Int.le_refl _)]; rfl }
   omega
 · rename_i c e;rw [e,ql,ql] at h;omega
 · rename_i c d r e;rw [e] at h;rw [Pl.nr,if_neg (by omega)];exact h
theorem ja9 {f : Pl -> Pl} {K : Nat} : ∀ cs : List Pl, (∀ c ∈ cs, (f c).nr <= c.nr * K) -> ql (cs.map f) <= ql cs * K
 | [],_=>by simp [ql]
 | c :: r,h=>by
   have h1:=ja9 (f:=f) (K:=K) r fun x hx=>h x (by simp [hx])
   have h2:=h c (by simp);rw [List.map_cons,ql,ql,Nat.add_mul];omega
def hsum (x : Rat) : List Rat -> Rat
 | []=>0
 | a :: r=>a+x * hsum x r
theorem zaf (ρ : Int -> Rat) (l : Int) : ∀ cs : List Pl, qf ρ l cs = hsum (ρ l) (cs.map (Pl.val ρ))
 | []=>rfl
 | c :: r=>by rw [qf,List.map_cons,hsum,zaf ρ l r]
theorem zaw {x : Rat} : ∀ {L : List Rat}, (∀ a ∈ L, a = 0) -> hsum x L = 0
 | [],_=>rfl
 | a :: r,h=>by rw [hsum,h a (by simp),zaw fun b hb=>h b (by simp [hb])]; grind
theorem ja1 {x c : Rat} : ∀ (m : Nat) (f g : Nat -> Rat), hsum x ((List.range m).map fun i => f i + c * g i) = hsum x ((List.range m).map f) + c * hsum x ((List.range m).map g)
 | 0,f,g=>by simp only [List.range_zero,List.map_nil,hsum]; grind
 | m+1,f,g=>by
   have h:=ja1 (x:=x) (c:=c) m (fun i=>f (i+1)) (fun i=>g (i+1));rw [List.range_succ_eq_map];simp only [List.map_cons,List.map_map,Function.comp_def,hsum,Nat.succ_eq_add_one];rw [h]
   grind
theorem zay {α : Type} (d : α) : ∀ L : List α, (List.range L.length).map (fun i => L.getD i d) = L
 | []=>rfl
 | a :: r=>by
   rw [List.length_cons,List.range_succ_eq_map,List.map_cons,List.map_map];have h:=zay d r;simp only [Function.comp_def,Nat.succ_eq_add_one,List.getD_cons_succ,List.getD_cons_zero];rw [h]
def wt2 : Nat -> List Rat -> List Rat
 | _,[]=>[]
 | e,a :: r=>a * (2 ^ e - 1) :: wt2 (e+1) r
theorem xb5 : ∀ (e : Nat) (L : List Rat), (wt2 e L).length = L.length
 | _,[]=>rfl
 | e,a :: r=>by rw [wt2,List.length_cons,List.length_cons,xb5 (e+1) r]
theorem yb5 (x : Rat) : ∀ (e : Nat) (L : List Rat), hsum x (wt2 e L) = 2 ^ e * hsum (2 * x) L - hsum x L
 | e,[]=>by simp only [wt2,hsum]; grind
 | e,a :: r=>by
   rw [wt2,hsum,hsum,hsum,yb5 x (e+1) r,Rat.pow_succ]
   grind
theorem zb9:∀ e:Nat,1<=e->(2:Rat) ^ e - 1 ≠ 0:=fun e he h=>by
 have h1:((2:Nat):Rat) ^ e=((2 ^ e:Nat):Rat):=by push_cast; rfl
 have h2:((2 ^ e:Nat):Rat)=((1:Nat):Rat):=by rw [<- h1]; push_cast; grind
 have h3:2 ^ e=1:=by exact_mod_cast h2
 have h4:2 ^ 1<=2 ^ e:=Nat.pow_le_pow_right (by decide) he;omega
theorem jbp : ∀ (e : Nat), 1 <= e -> ∀ L : List Rat, (∀ a ∈ wt2 e L, a = 0) -> ∀ a ∈ L, a = 0
 | _,_,[],_,a,ha=>by cases ha
 | e,he,b :: r,h,a,ha=>by
   rw [wt2] at h;rcases List.mem_cons.1 ha with rfl | ha
   · have h1:=h (a * (2 ^ e - 1)) (by simp);rcases Rat.mul_eq_zero.1 h1 with h2 | h2
     · exact h2
     · exact absurd h2 (zb9 e he)
   · exact jbp (e+1) (by omega) r (fun c hc=>h c (by simp [hc])) a ha
theorem ybw (n:Nat):∀ L:List Rat,L.length<=n->(∀ x,x ≠ 0->hsum x L=0)->∀ a ∈ L,a=0:=by
 induction n with
 | zero =>
   intro L hl _ a ha;cases L with
   | nil=>cases ha
   | cons b r=>simp at hl
 | succ n ih =>
   intro L hl h;cases L with
   | nil=>intro a ha; cases ha
   | cons b r =>
     have hr:∀ a ∈ r,a=0:=by
      refine jbp 1 (Nat.le_refl _) r (ih _ (by rw [xb5]; simp only [List.length_cons] at hl; omega) fun x hx=>?_);have h1:=h x hx;have h2:=h (2 * x) (fun e=>by rcases Rat.mul_eq_zero.1 e with e | e; exact absurd e (by decide); exact hx e);have h3:=yb5 x 0 (b :: r);rw [h1,h2,wt2,hsum] at h3;have h4:x * hsum x (wt2 1 r)=0:=by
       have:(b * ((2:Rat) ^ 0 - 1))=0:=by rw [Rat.pow_zero]; grind
       rw [this] at h3
       grind
      rcases Rat.mul_eq_zero.1 h4 with h5 | h5
      · exact absurd h5 hx
      · exact h5
     intro a ha;rcases List.mem_cons.1 ha with rfl | ha
     · have h1:=h 1 (by decide);rw [hsum,zaw hr] at h1
       grind
     · exact hr a ha
def vab : Nat -> List Pl -> List Pl
 | 0,[]=>[Pl.zero]
 | 0,c :: _=>[c]
 | n+1,[]=>Pl.zero :: vab n []
 | n+1,c :: r=>c :: vab n r
theorem ga0 : ∀ (n : Nat) (cs : List Pl), (vab n cs).length = n + 1
 | 0,[]=>rfl
 | 0,_ :: _=>rfl
 | n+1,[]=>by rw [vab,List.length_cons,ga0 n]
 | n+1,_ :: r=>by rw [vab,List.length_cons,ga0 n]
theorem vbc : ∀ (n : Nat) (cs : List Pl) (i : Nat), i <= n -> (vab n cs).getD i Pl.zero = cs.getD i Pl.zero
 | 0,[],0,_=>rfl
 | 0,_ :: _,0,_=>rfl
 | n+1,[],0,_=>rfl
 | n+1,[],i+1,h=>by rw [vab,List.getD_cons_succ,vbc n [] i (by omega)]; rfl
 | n+1,_ :: _,0,_=>rfl
 | n+1,_ :: r,i+1,h=>by rw [vab,List.getD_cons_succ,List.getD_cons_succ,vbc n r i (by omega)]
theorem zab : ∀ (n : Nat) (cs : List Pl) (c : Pl), c ∈ vab n cs -> c = Pl.zero \/ c ∈ cs
 | 0,[],c,h=>by simp [vab] at h; exact .inl h
 | 0,d :: _,c,h=>by simp [vab] at h; exact .inr (by simp [h])
 | n+1,[],c,h=>by
   rw [vab] at h;rcases List.mem_cons.1 h with h | h
   · exact .inl h
   · exact zab n [] c h
 | n+1,d :: r,c,h=>by
   rw [vab] at h;rcases List.mem_cons.1 h with h | h
   · exact .inr (by simp [h])
   · rcases zab n r c h with h | h
     · exact .inl h
     · exact .inr (by simp [h])
theorem ua0 (ρ : Int -> Rat) (l : Int) : ∀ (n : Nat) (cs : List Pl), cs.length <= n + 1 -> qf ρ l (vab n cs) = qf ρ l cs
 | 0,[],_=>by simp only [vab,qf,Pl.zero_val]; grind
 | 0,[c],_=>rfl
 | n+1,[],_=>by
   have h:=ua0 ρ l n [] (by simp);simp only [vab,qf] at h ⊢;rw [h,Pl.zero_val]
   grind
 | n+1,c :: r,h=>by rw [vab,qf,qf,ua0 ρ l n r (by simpa using h)]
mutual
def Pl.cfs (l : Int) (n : Nat) : Pl -> List Pl
 | .mk lv ng ds cs=>if lv < l then vab n [.mk lv ng ds cs] else if lv=l then vab n cs else (List.range (n+1)).map fun i=>.mk lv false [] (jaf l n i cs)
def jaf (l : Int) (n i : Nat) : List Pl -> List Pl
 | []=>[]
 | c :: r=>(c.cfs l n).getD i Pl.zero :: jaf l n i r
end
theorem wah (l : Int) (n i : Nat) : ∀ cs : List Pl, jaf l n i cs = cs.map fun c => (c.cfs l n).getD i Pl.zero
 | []=>rfl
 | c :: r=>by rw [jaf,wah l n i r]; rfl
theorem Pl.cfs_len (l:Int) (n:Nat) (p:Pl):(p.cfs l n).length=n+1:=by
 cases p;rw [Pl.cfs]
 split
 · exact ga0 _ _
 · split
   · exact ga0 _ _
   · simp
theorem ya3 {α:Type} (f:Nat->α) (d:α) {n i:Nat} (h:i < n):((List.range n).map f).getD i d=f i:=by
 rw [List.getD_eq_getElem?_getD,List.getElem?_map,List.getElem?_range h]; rfl
theorem Pl.cfs_get (l:Int) (n:Nat) (lv:Int) (ng:Bool) (ds:List Nat) (cs:List Pl) (h:l < lv) {i:Nat} (hi:i<=n):((Pl.mk lv ng ds cs).cfs l n).getD i Pl.zero=.mk lv false [] (jaf l n i cs):=by
 rw [Pl.cfs,if_neg (by omega),if_neg (by omega)];exact ya3 _ _ (by omega)
theorem ubn {ρ : Int -> Rat} {l lv : Int} {n : Nat} : ∀ cs : List Pl, (∀ c ∈ cs, qf ρ l (c.cfs l n) = c.val ρ) -> hsum (ρ l) ((List.range (n + 1)).map fun i => qf ρ lv (jaf l n i cs)) = qf ρ lv cs
 | [],_=>by
   simp only [jaf,qf];exact zaw (by intro a ha; obtain ⟨_,_,rfl⟩:=List.mem_map.1 ha; rfl)
 | c :: r,h=>by
   have h1:∀ i,qf ρ lv (jaf l n i (c :: r))=((c.cfs l n).getD i Pl.zero).val ρ+ρ lv * qf ρ lv (jaf l n i r):=fun i=>by rw [jaf,qf]
   simp only [h1];rw [ja1 (n+1) (fun i=>((c.cfs l n).getD i Pl.zero).val ρ) (fun i=>qf ρ lv (jaf l n i r)),ubn r fun d hd=>h d (by simp [hd]),qf]
   congr 1
   rw [<- h c (by simp),zaf]
   congr 1
   have h2:=zay Pl.zero (c.cfs l n);rw [c.cfs_len] at h2
   conv=>rhs; rw [<- h2,List.map_map]
   rfl
theorem Pl.cfs_val {ρ : Int -> Rat} {l : Int} {n : Nat} (hl : 1 <= l) : ∀ p : Pl, p.Can -> p.dgL l <= n -> qf ρ l (p.cfs l n) = p.val ρ
 | .mk lv ng ds cs,h,hd=>by
   have h4:=h.lv_nonneg;simp only [Pl.lv] at h4;rw [Pl.dgL] at hd;rw [Pl.cfs]
   by_cases h1:lv < l
   · rw [if_pos h1,ua0 ρ l n _ (by simp),qf,qf]; grind
   · obtain ⟨-,-,h2,hk,-⟩:=h.kids (by omega);rw [if_neg h1] at hd ⊢;rw [Pl.mk_val ρ _ _ _ (by omega) h4.2]
     by_cases h3:lv=l
     · rw [if_pos h3] at hd ⊢;rw [ua0 ρ l n cs (by omega),h3]
     · rw [if_neg h3] at hd ⊢;rw [zaf,List.map_map];have h5:((List.range (n+1)).map (Pl.val ρ ∘ fun i=>Pl.mk lv false [] (jaf l n i cs)))=(List.range (n+1)).map fun i=>qf ρ lv (jaf l n i cs):=by
        refine List.map_congr_left fun i _=>?_
        exact Pl.mk_val ρ _ _ _ (by omega) h4.2
       rw [h5];exact ubn cs fun c hc=>Pl.cfs_val hl c (hk.mem c hc).2 (Int.le_trans (qav l cs 0 c hc) hd)
def jh (l:Int) (p:Pl):Prop:=∀ ρ ρ':Int->Rat,(∀ j,j ≠ l->ρ j=ρ' j)->p.val ρ=p.val ρ'
theorem uaj {ρ ρ' : Int -> Rat} {l : Int} (hl : ρ l = ρ' l) : ∀ cs : List Pl, (∀ c ∈ cs, c.val ρ = c.val ρ') -> qf ρ l cs = qf ρ' l cs
 | [],_=>rfl
 | c :: r,h=>by rw [qf,qf,h c (by simp),hl,uaj hl r fun d hd=>h d (by simp [hd])]
theorem Pl.val_low {ρ ρ' : Int -> Rat} : ∀ p : Pl, p.Can -> (∀ j, j <= p.lv -> ρ j = ρ' j) -> p.val ρ = p.val ρ'
 | .mk lv ng ds cs,h,he=>by
   simp only [Pl.lv] at he;have h4:=h.lv_nonneg;simp only [Pl.lv] at h4
   by_cases h0:lv<=0
   · rw [Pl.val,Pl.val,if_pos h0,if_pos h0]
   · obtain ⟨-,-,h2,hk,-⟩:=h.kids (by omega);rw [Pl.mk_val ρ _ _ _ (by omega) h4.2,Pl.mk_val ρ' _ _ _ (by omega) h4.2];exact uaj (he lv (Int.le_refl _)) cs fun c hc=>Pl.val_low c (hk.mem c hc).2 fun j hj=>he j (by have:=(hk.mem c hc).1; omega)
theorem kah {l:Int} {p:Pl} (h:p.Can) (hl:p.lv < l):jh l p:=fun ρ ρ' he=>p.val_low h fun j hj=>he j (by omega)
theorem qa1 (l:Int):jh l Pl.zero:=fun ρ ρ' _=>by rw [Pl.zero_val,Pl.zero_val]
theorem Pl.cfs_indep {l : Int} {n : Nat} (hl : 1 <= l) : ∀ p : Pl, p.Can -> ∀ c ∈ p.cfs l n, jh l c
 | .mk lv ng ds cs,h,c,hc=>by
   have h4:=h.lv_nonneg;simp only [Pl.lv] at h4;rw [Pl.cfs] at hc
   by_cases h1:lv < l
   · rw [if_pos h1] at hc;rcases zab _ _ _ hc with rfl | hc
     · exact qa1 l
     · rw [List.mem_singleton.1 hc];exact kah h h1
   · obtain ⟨-,-,h2,hk,-⟩:=h.kids (by omega);rw [if_neg h1] at hc
     by_cases h3:lv=l
     · rw [if_pos h3] at hc;rcases zab _ _ _ hc with rfl | hc
       · exact qa1 l
       · exact kah (hk.mem c hc).2 (by have:=(hk.mem c hc).1; omega)
     · rw [if_neg h3] at hc;obtain ⟨i,hi,rfl⟩:=List.mem_map.1 hc;rw [wah];intro ρ ρ' he;rw [Pl.mk_val ρ _ _ _ (by omega) h4.2,Pl.mk_val ρ' _ _ _ (by omega) h4.2];refine uaj (he lv h3) _ fun d hd=>?_
       obtain ⟨c,hc,rfl⟩:=List.mem_map.1 hd;have hlen:=c.cfs_len l n;have iO:=List.mem_range.1 hi;rw [List.getD_eq_getElem?_getD,List.getElem?_eq_getElem (by omega)];exact Pl.cfs_indep hl c (hk.mem c hc).2 _ (List.getElem_mem _) ρ ρ' he
theorem jh.nf {l:Int} {p:Pl} (h:jh l p):jh l p.nf:=fun ρ ρ' he=>by rw [Pl.nf_val,Pl.nf_val]; exact h ρ ρ' he
theorem Pl.nf_zero:Pl.zero.nf=Pl.zero:=Pl.nf_of_can Pl.zero_can
theorem ga6 (x : Rat) (ρ : Int -> Rat) : ∀ (c : List Pl) (n : Nat), c.length <= n -> hsum x ((List.range n).map fun i => (c.getD i Pl.zero).val ρ) = hsum x (c.map (Pl.val ρ))
 | [],n,_=>by
   rw [zaw]
   · rfl
   · intro a ha;obtain ⟨i,-,rfl⟩:=List.mem_map.1 ha;rw [List.getD_nil,Pl.zero_val]
 | d :: r,0,h=>by simp at h
 | d :: r,n+1,h=>by
   rw [List.range_succ_eq_map,List.map_cons,List.map_map,hsum,List.map_cons,hsum,List.getD_cons_zero]
   congr 2
   have:=ga6 x ρ r n (by simpa using h);simpa [Function.comp_def] using this
theorem ga5 {l:Int} {a b:List Pl} (ha:∀ c ∈ a,jh l c) (hb:∀ c ∈ b,jh l c) (h:∀ ρ,qf ρ l a=qf ρ l b) (i:Nat) (ρ:Int->Rat):(a.getD i Pl.zero).val ρ=(b.getD i Pl.zero).val ρ:=by
 obtain ⟨n,hn⟩:=n_m (max a.length b.length);have pad:∀ (c:List Pl),c.length<=n->(∀ x ∈ c,jh l x)->∀ x:Rat,hsum x ((List.range n).map fun i=>(c.getD i Pl.zero).val ρ)=qf (fun j=>if j=l then x else ρ j) l c:=by
  intro c hc hi x;rw [zaf];have e1:c.map (Pl.val fun j=>if j=l then x else ρ j)=c.map (Pl.val ρ):=List.map_congr_left fun d hd=>hi d hd _ _ fun j hj=>by rw [if_neg hj]
  rw [e1,if_pos rfl];exact ga6 x ρ c n hc
 have hz:=ybw n ((List.range n).map fun i=>(a.getD i Pl.zero).val ρ+(-1) * (b.getD i Pl.zero).val ρ) (by simp) (fun x _=>by
  rw [ja1 n (fun i=>(a.getD i Pl.zero).val ρ) (fun i=>(b.getD i Pl.zero).val ρ),pad a (by omega) ha,pad b (by omega) hb,h]
  grind)
 by_cases hi:i < n
 · have:=hz _ (List.mem_map.2 ⟨i,List.mem_range.2 hi,rfl⟩)
   grind
 · rw [List.getD_eq_getElem?_getD,List.getD_eq_getElem?_getD,List.getElem?_eq_none (by omega),List.getElem?_eq_none (by omega)]
structure gao (l : Int) (p : Pl) (L : List Pl) : Prop where
 can:∀ c ∈ L,c.Can
 ind:∀ c ∈ L,jh l c
 val:∀ ρ,qf ρ l L=p.val ρ
 last:L.getLast? ≠ some Pl.zero
theorem kar {L:List Pl} (h:L.getLast? ≠ some Pl.zero) (hn:L ≠ []):L.getD (L.length - 1) Pl.zero ≠ Pl.zero:=by
 intro e;apply h;have hl:L.length - 1 < L.length:=by have:=List.length_pos_iff.2 hn; omega
 rw [List.getLast?_eq_getElem?,List.getElem?_eq_getElem hl];rw [List.getD_eq_getElem?_getD,List.getElem?_eq_getElem hl] at e;exact congrArg some e
theorem gao.uniq {l:Int} {p:Pl} {a b:List Pl} (ha:gao l p a) (hb:gao l p b):a=b:=by
 have hc:∀ i,a.getD i Pl.zero=b.getD i Pl.zero:=fun i=>by
  refine Pl.val_uniq ?_ ?_ fun ρ=>ga5 ha.ind hb.ind (fun ρ=>by rw [ha.val,hb.val]) i ρ
  · rw [List.getD_eq_getElem?_getD]
    by_cases hi:i < a.length
    · rw [List.getElem?_eq_getElem hi]; exact ha.can _ (List.getElem_mem hi)
    · rw [List.getElem?_eq_none (by omega)]; exact Pl.zero_can
  · rw [List.getD_eq_getElem?_getD]
    by_cases hi:i < b.length
    · rw [List.getElem?_eq_getElem hi]; exact hb.can _ (List.getElem_mem hi)
    · rw [List.getElem?_eq_none (by omega)]; exact Pl.zero_can
 have hlen:∀ {a b:List Pl},a.getLast? ≠ some Pl.zero->(∀ i,a.getD i Pl.zero=b.getD i Pl.zero)->a.length<=b.length:=by
  intro a b h1 h2
  by_cases hn:a=[]
  · rw [hn]; simp
  · have h3:=kar h1 hn
    by_cases h4:a.length<=b.length
    · exact h4
    · exfalso
      apply h3;rw [h2,List.getD_eq_getElem?_getD,List.getElem?_eq_none (by omega)]
      rfl
 have e:a.length=b.length:=Nat.le_antisymm (hlen ha.last hc) (hlen hb.last fun i=>(hc i).symm);refine List.ext_getElem e fun i h1 h2=>?_
 have:=hc i;rw [List.getD_eq_getElem?_getD,List.getD_eq_getElem?_getD,List.getElem?_eq_getElem h1,List.getElem?_eq_getElem h2] at this;exact this
def Pl.cfL (l:Int) (p:Pl):List Pl:=if p.isZ=true then [] else if 1<=l/\l<=4 then (p.cfs l (p.dgL l).toNat).map Pl.nf else [p]
theorem qbc (ρ:Int->Rat) (l:Int) (cs:List Pl):qf ρ l (cs.map Pl.nf)=qf ρ l cs:=by
 rw [zaf,zaf,List.map_map]
 congr 1
 exact List.map_congr_left fun c _=>Pl.nf_val ρ c
theorem xcj {l:Int} (hl:0 < l) (h4:l<=4) {ks:List Pl} (hk:∀ c ∈ ks,c.Can/\c.lv < l) (h:∀ ρ,qf ρ l ks=0):∀ c ∈ ks,c=Pl.zero:=by
 intro c hc;obtain ⟨i,hi,rfl⟩:=List.getElem_of_mem hc;refine Pl.val_uniq (hk _ hc).1 Pl.zero_can fun ρ=>?_
 have:=ga5 (l:=l) (a:=ks) (b:=[]) (fun c hc=>kah (hk c hc).1 (hk c hc).2) (fun c hc=>by cases hc) (fun ρ=>by rw [h]; rfl) i ρ;rw [List.getD_eq_getElem?_getD,List.getElem?_eq_getElem hi,List.getD_nil] at this;exact this
end Go.Proofs.YtcepajijiabkmaaGreat
