/- Maps from monomials (arrays of four numbers) to values: what a block that is such a map holds, and what reading and writing it does. -/
import Derived.Test.YtcepajijiabkmaaGreatMp6
import Derived.Deep.RegionLawGrows
import Derived.RangeFuncBox
set_option linter.unusedSimpArgs false
set_option linter.unusedVariables false

namespace Go.Proofs.YtcepajijiabkmaaGreat
open Go.RowKit
def moV (m:Mo):Value:=.agg #[.int .i64 m.a,.int .i64 m.b,.int .i64 m.c,.int .i64 m.d]
def mog (l:List (Mo × Value)) (s:Mo):Option Value:=match l with
 | []=>none
 | (k,v) :: r=>if s=k then some v else mog r s
def mop (l:List (Mo × Value)) (s:Mo) (u:Value):List (Mo × Value):=match l with
 | []=>[(s,u)]
 | (k,v) :: r=>if s=k then (s,u) :: r else (k,v) :: mop r s u
def gad (w:World) (b:Nat) (l:List (Mo × Value)):Prop:=
 ∃ es clock,w.heap[b]?=some (.map es clock)/\es.toList.map (fun e=>(e.key,e.val))=l.map (fun x=>(moV x.1,x.2))
theorem gad.lt {w:World} {b:Nat} {l:List (Mo × Value)} (h:gad w b l):b < w.heap.size:=by
 obtain ⟨es,clock,hb,_⟩:=h;exact (rB.1 hb).1
theorem gad.made (w:World):gad (w.alloc (.map #[] 0)) w.heap.size []:=⟨#[],0,heap_alloc_new w _,rfl⟩
theorem gad.block {w w':World} {b:Nat} {l:List (Mo × Value)} (h:gad w b l) (hx:w'.heap[b]?=w.heap[b]?):gad w' b l:=by
 obtain ⟨es,clock,hb,he⟩:=h;exact ⟨es,clock,hx.trans hb,he⟩
theorem gad.ext {w w':World} {b:Nat} {l:List (Mo × Value)} (h:gad w b l) (hx:Ext w w'):gad w' b l:=h.block (hx.below.block b h.lt)
theorem zbo (m n:Mo) (w:World):(Op.equal 61 (moV m) (moV n)).run Tryz.prog w=.ok (decide (m=n)) w:=by
 obtain ⟨a,b,c,d⟩:=m;obtain ⟨a',b',c',d'⟩:=n;have pY:∀ (x y:Int) (k:Nat),(Op.equalIn (k+1) 3 (.int .i64 x) (.int .i64 y)).run Tryz.prog w=.ok (x == y) w:=by
  intro x y k;simp [Op.equalIn,run_underlying u5]
 simp only [Mo.mk.injEq];unfold Op.equal Op.maxDepth moV;rw [show (10000:Nat)=9998+1+1 from rfl];have EW:∀ (x0 x1 x2 x3:Int),(part 3 #[Value.int .i64 x0,.int .i64 x1,.int .i64 x2,.int .i64 x3] 0).run Tryz.prog w=.ok (.int .i64 x0) w/\(part 3 #[Value.int .i64 x0,.int .i64 x1,.int .i64 x2,.int .i64 x3] 1).run Tryz.prog w=.ok (.int .i64 x1) w/\(part 3 #[Value.int .i64 x0,.int .i64 x1,.int .i64 x2,.int .i64 x3] 2).run Tryz.prog w=.ok (.int .i64 x2) w/\(part 3 #[Value.int .i64 x0,.int .i64 x1,.int .i64 x2,.int .i64 x3] 3).run Tryz.prog w=.ok (.int .i64 x3) w:=by
  intro x0 x1 x2 x3;refine ⟨?_,?_,?_,?_⟩ <;> simp [part,Tryz.isAgg3]
 rw [Op.equalIn];simp only [SO,run_underlying wT,PF,Tryz.sizeOf3];simp only [Std.Legacy.Range.forIn_eq_forIn_range',Std.Legacy.Range.size,List.range',List.forIn_cons,SO,sY,tr,ua,rh,s8,Nat.sub_zero,Nat.div_one,ur,EW,PF,pY]
 by_cases h1:a=a'
 · by_cases h2:b=b'
   · by_cases h3:c=c'
     · by_cases h4:d=d'
       · simp [h1,h2,h3,h4,EW,pY]
       · simp [h1,h2,h3,h4,EW,pY]
     · simp [h1,h2,h3,EW,pY]
   · simp [h1,h2,EW,pY]
 · simp [h1]
theorem wa4 (w:World) (m:Mo) (es:List MapEntry) (l:List (Mo × Value)) (h:es.map (fun e=>(e.key,e.val))=l.map (fun x=>(moV x.1,x.2))) :
 ∀ i,((Instr.findAsking 61 (moV m) es i).run Tryz.prog w=.ok none w/\mog l m=none/\(∀ u,mop l m u=l ++ [(m,u)])) \/
   ∃ k v,(Instr.findAsking 61 (moV m) es i).run Tryz.prog w=.ok (some (i+k,v)) w/\mog l m=some v/\(∀ u,mop l m u=l.set k (m,u))/\(es[k]?).map (·.key)=some (moV m)/\k < es.length:=by
 induction es generalizing l with
 | nil =>
   intro i
   have:l=[]:=by cases l with
    | nil=>rfl
    | cons x r=>simp at h
   subst this;exact .inl ⟨by simp [Instr.findAsking],rfl,fun u=>rfl⟩
 | cons e es ih =>
   cases l with
   | nil=>simp at h
   | cons x r =>
     obtain ⟨k,v⟩:=x;simp only [sr,so,Prod.mk.injEq] at h;obtain ⟨⟨hk,hv⟩,hr⟩:=h;intro i;have he:=zbo m k w
     by_cases hs:m=k
     · subst hs;refine .inr ⟨0,v,?_,by simp [mog],fun u=>by simp [mop],by simp [hk],by simp⟩;simp [Instr.findAsking,hk,hv,he]
     · rcases ih r hr (i+1) with ⟨h1,h2,h3⟩ | ⟨j,u,h1,h2,h3,h4,h5⟩
       · refine .inl ⟨by simp [Instr.findAsking,hk,he,hs,h1],by simp [mog,hs,h2],fun u=>by simp [mop,hs,h3]⟩
       · refine .inr ⟨j+1,u,?_,by simp [mog,hs,h2],fun u=>by simp [mop,hs,h3],by simpa using h4,by simp; omega⟩;simp [Instr.findAsking,hk,he,hs,h1]; omega
theorem wbi (w:World) (m:Mo) (es:List MapEntry) (l:List (Mo × Value)) (h:es.map (fun e=>(e.key,e.val))=l.map (fun x=>(moV x.1,x.2))) :
 (Instr.findKey 61 (moV m) es).run Tryz.prog w=(Instr.findAsking 61 (moV m) es 0).run Tryz.prog w:=by
 unfold Instr.findKey;simp only [SO,run_underlying wT,PF];cases es with
 | nil=>simp [Instr.findNow,Instr.findAsking]
 | cons e es=>rfl
theorem jbc (b:Bool) (m:Mo) (w:World):(Instr.checkKey b 10000 61 (moV m)).run Tryz.prog w=.ok () w:=by
 obtain ⟨x0,x1,x2,x3⟩:=m;have pY:∀ (k:Nat) (x:Int),(Instr.checkKey b (k+1) 3 (.int .i64 x)).run Tryz.prog w=.ok () w:=by
  intro k x;simp [Instr.checkKey,run_underlying u5]
 rw [show (10000:Nat)=9998+1+1 from rfl];unfold moV;rw [Instr.checkKey];simp only [SO,run_underlying wT,PF,Tryz.sizeOf3];simp [Std.Legacy.Range.forIn_eq_forIn_range',Std.Legacy.Range.size,List.range',part,Tryz.isAgg3,Tryz.sizeOf3,pY]
theorem gad.look {w:World} {b:Nat} {l:List (Mo × Value)} (h:gad w b l) (s:Mo) (ok:Bool) :
 (Instr.lookup 111 (.map (some b)) (moV s) ok).run Tryz.prog w=.ok (if ok then .tuple #[(mog l s).getD (.int .i64 0),.bool (mog l s).isSome] else (mog l s).getD (.int .i64 0)) w:=by
 obtain ⟨es,clock,hb,he⟩:=h;have hg:=MapKept.run_getObj_map (P:=Tryz.prog) hb;have OH:=jbc es.isEmpty s w;have fU:=wbi w s es.toList l he;have ht:=Tryz.underlying111;rcases wa4 w s es.toList l he 0 with ⟨h1,h2,-⟩ | ⟨i,v,h1,h2,-,-⟩
 · rw [h1] at fU;simp only [Instr.lookup,h2];cases ok <;> simp [run_underlying ht,hg,OH,fU,Tryz.zeroValue3]
 · rw [h1] at fU;simp only [Instr.lookup,h2];cases ok <;> simp [run_underlying ht,hg,OH,fU]
theorem gad.put {w:World} {b:Nat} {l:List (Mo × Value)} (h:gad w b l) (s:Mo) (u:Value) :
 ∃ w',(Instr.mapUpdate 111 (.map (some b)) (moV s) u).run Tryz.prog w=.ok () w'/\gad w' b (mop l s u)/\Only b w w':=by
 have af:=h.lt;obtain ⟨es,clock,hb,he⟩:=h;have hg:=MapKept.run_getObj_map (P:=Tryz.prog) hb;have OH:=jbc false s w;have fU:=wbi w s es.toList l he;have ht:=Tryz.underlying111;have hon:∀ o,Only b w { w with heap:=w.heap.setIfInBounds b o }:=fun o=>⟨rfl,rfl,rfl,by simp,fun i hi ax=>by
  have:b ≠ i:=fun e=>ax (by rw [e])
  simp [SZ,this]⟩
 rcases wa4 w s es.toList l he 0 with ⟨h1,-,h3⟩ | ⟨i,v,h1,-,h3,h4,h5⟩
 · rw [h1] at fU;have hs:=MapKept.run_setObj_map (P:=Tryz.prog) (.map (es.push { key:=moV s,val:=u,born:=clock }) (clock+1)) hb;refine ⟨_,?_,?_,hon (.map (es.push { key:=moV s,val:=u,born:=clock }) (clock+1))⟩
   · simp [Instr.mapUpdate,run_underlying ht,hg,OH,fU,hs]
   · refine ⟨_,_,by simp [SZ,af]; exact ⟨rfl,rfl⟩,?_⟩;rw [h3];simpa using he
 · rw [h1] at fU;have aaA:(es[i]?).map (·.key)=some (moV s):=by simpa using h4
   have dV:(Instr.keyThatStays (moV s) (moV s)).run Tryz.prog w=.ok (moV s) w:=by
    simp [Instr.keyThatStays,Instr.sameBits,moV]
   have hs:=MapKept.run_setObj_map (P:=Tryz.prog) (.map (es.modify i fun e=>{ e with key:=moV s,val:=u }) clock) hb;refine ⟨_,?_,?_,hon (.map (es.modify i fun e=>{ e with key:=moV s,val:=u }) clock)⟩
   · simp [Instr.mapUpdate,run_underlying ht,hg,OH,fU,aaA,dV,hs]
   · refine ⟨_,_,by simp [SZ,af]; exact ⟨rfl,rfl⟩,?_⟩;rw [h3];apply List.ext_getElem?;intro j;have TK:=congrArg (fun L=>L[j]?) he;simp only [ue,Array.getElem?_toList] at TK;simp only [ue,Array.getElem?_toList,RE,List.getElem?_set]
     by_cases oI:i=j
     · subst oI;have hl:i < l.length:=by
        have:=congrArg List.length he;simp at this h5;omega
       have h5':i < es.size:=by simpa using h5
       simp [hl,h5']
     · simp [oI,TK]
section
variable {w w':World} {p q:Nat->Prop}
end
section
variable {w w':World}
end
def plV (p:Pl) (s A:Value):Value:=.agg #[.int .i64 p.lv,.bool p.neg,s,A]
def zx (w:World) (ad:Addr) (p:Pl) (s A:Value):Prop:=
 w.cell? ad=some (.int .i64 p.lv)/\w.cell? ⟨ad.block,ad.off+1,none⟩=some (.bool p.neg)/\w.cell? ⟨ad.block,ad.off+2,none⟩=some s/\w.cell? ⟨ad.block,ad.off+3,none⟩=some A
mutual
def PlV (w : World) (q : Nat -> Prop) : Pl -> Value -> Prop
 | .mk l n d cs,v=>∃ s A c,v=.agg #[.int .i64 l,.bool n,s,.slice A cs.length c]/\jc w s d/\cs.length<=c/\c<=9223372036854775807/\jd w q cs A 0
def jd (w : World) (q : Nat -> Prop) : List Pl -> Option Addr -> Nat -> Prop
 | [],_,_=>True
 | t :: r,A,j=>(∃ ad s K,A=some ad/\ad.block < w.heap.size/\q ad.block/\zx w (ad.add (j * 4)) t s K/\PlV w q t (plV t s K))/\jd w q r A (j+1)
end
section
variable {w w':World} {p q:Nat->Prop}
theorem jd.xS (l:List Pl):∀ (A:Option Addr) (j:Nat),jd w p l A j->∀ i (h:i < l.length),∃ ad s K,A=some ad/\ad.block < w.heap.size/\p ad.block/\zx w (ad.add ((j+i) * 4)) l[i] s K/\PlV w p l[i] (plV l[i] s K):=by
 induction l with
 | nil=>intro A j h i hi; simp at hi
 | cons t r ih =>
   intro A j h i hi;unfold jd at h;cases i with
   | zero=>exact h.1
   | succ i =>
     have:=ih A (j+1) h.2 i (by simpa using hi);rw [show j+(i+1)=j+1+i by omega];exact this
theorem jd.of (l:List Pl):∀ (A:Option Addr) (j:Nat),(∀ i (h:i < l.length),∃ ad s K,A=some ad/\ad.block < w.heap.size/\p ad.block/\zx w (ad.add ((j+i) * 4)) l[i] s K/\PlV w p l[i] (plV l[i] s K))->jd w p l A j:=by
 induction l with
 | nil=>intro A j h; unfold jd; trivial
 | cons t r ih =>
   intro A j h;unfold jd;refine ⟨h 0 (by simp),ih A (j+1) fun i hi=>?_⟩;have:=h (i+1) (by simpa using hi);rw [show j+(i+1)=j+1+i by omega] at this;exact this
theorem zx.same {ad:Addr} {t:Pl} {s A:Value} (h:zx w ad t s A) (k0:w'.cell? ad=w.cell? ad) (k:∀ n,n < 4->w'.cell? ⟨ad.block,ad.off+n,none⟩=w.cell? ⟨ad.block,ad.off+n,none⟩):zx w' ad t s A:=by
 obtain ⟨h0,h1,h2,h3⟩:=h;exact ⟨k0.trans h0,(k 1 (by omega)).trans h1,(k 2 (by omega)).trans h2,(k 3 (by omega)).trans h3⟩
theorem zx.ext {ad:Addr} {t:Pl} {s A:Value} (h:zx w ad t s A) (hx:Ext w w') (hb:ad.block < w.heap.size):zx w' ad t s A:=h.same (hx.cell hb) (fun n _=>hx.cell (p:=⟨ad.block,ad.off+n,none⟩) hb)
mutual
theorem PlV.xl (hs : w.heap.size <= w'.heap.size) (hn : ∀ v ds, jc w v ds -> jc w' v ds) (hc : ∀ b, b < w.heap.size -> p b -> q b /\ w'.heap[b]? = w.heap[b]?) : ∀ (t : Pl) (v : Value), PlV w p t v -> PlV w' q t v
 | .mk l n d cs,v,h=>by
   unfold PlV at h ⊢;obtain ⟨s,A,c,e,h1,h2,h3,h4⟩:=h;exact ⟨s,A,c,e,hn _ _ h1,h2,h3,jd.xl hs hn hc cs A 0 h4⟩
theorem jd.xl (hs : w.heap.size <= w'.heap.size) (hn : ∀ v ds, jc w v ds -> jc w' v ds) (hc : ∀ b, b < w.heap.size -> p b -> q b /\ w'.heap[b]? = w.heap[b]?) : ∀ (l : List Pl) (A : Option Addr) (j : Nat), jd w p l A j -> jd w' q l A j
 | [],A,j,h=>by unfold jd; trivial
 | t :: r,A,j,h=>by
   unfold jd at h ⊢;obtain ⟨⟨ad,s,K,e,hb,uZ,h1,h2⟩,h3⟩:=h;obtain ⟨hq,hk⟩:=hc _ hb uZ;exact ⟨⟨ad,s,K,e,pw hb hs,hq,h1.same (pB (by rw [ja]; exact hk)) (fun n _=>pB (a:=⟨(ad.add (j * 4)).block,(ad.add (j * 4)).off+n,none⟩) (by show w'.heap[(ad.add (j * 4)).block]?=_; rw [ja]; exact hk)),PlV.xl hs hn hc t _ h2⟩,jd.xl hs hn hc r A (j+1) h3⟩
end
theorem PlV.zd {t:Pl} {v:Value} (hs:w.heap.size<=w'.heap.size) (hn:∀ v ds,jc w v ds->jc w' v ds) (hc:∀ b,b < w.heap.size->p b->q b/\w'.heap[b]?=w.heap[b]?) (h:PlV w p t v):PlV w' q t v:=PlV.xl hs hn hc t v h
theorem PlV.ext {t:Pl} {v:Value} (h:PlV w p t v) (hx:Ext w w'):PlV w' p t v:=PlV.xl hx.size (fun _ _ h=>h.ext hx) (fun b hb hp=>⟨hp,hx.below.block b hb⟩) t v h
theorem jd.ext {l:List Pl} {A:Option Addr} {j:Nat} (h:jd w p l A j) (hx:Ext w w'):jd w' p l A j:=jd.xl hx.size (fun _ _ h=>h.ext hx) (fun b hb hp=>⟨hp,hx.below.block b hb⟩) l A j h
theorem PlV.mono {t:Pl} {v:Value} (h:PlV w p t v) (hp:∀ b,p b->q b):PlV w q t v:=PlV.xl (pj _) (fun _ _ h=>h) (fun b _ h=>⟨hp b h,rfl⟩) t v h
theorem PlV.open_ {t:Pl} {v:Value} (h:PlV w p t v):∃ A0 n0 c0 A c,v=plV t (.slice A0 n0 c0) (.slice A t.cs.length c)/\jc w (.slice A0 n0 c0) t.ds/\t.cs.length<=c/\c<=9223372036854775807/\jd w p t.cs A 0:=by
 cases t with
 | mk l n d cs =>
   unfold PlV at h;obtain ⟨s,A,c,e,⟨A0,c0,rfl,hd⟩,h2,h3,h4⟩:=h;exact ⟨A0,_,c0,A,c,e,⟨A0,c0,rfl,hd⟩,h2,h3,h4⟩
theorem PlV.mk {t:Pl} {s:Value} {A:Option Addr} {c:Nat} (h1:jc w s t.ds) (h2:t.cs.length<=c) (h3:c<=9223372036854775807) (h4:jd w p t.cs A 0):PlV w p t (plV t s (.slice A t.cs.length c)):=by
 cases t with
 | mk l n d cs=>unfold PlV; exact ⟨s,A,c,rfl,h1,h2,h3,h4⟩
theorem jd.ym {l:List Pl} {A:Option Addr} (h:jd w p l A 0) (k:Nat) (hk:k < l.length):∃ ad A0 n0 c0 A1 n1 c1,A=some ad/\ad.block < w.heap.size/\zx w (ad.add (k * 4)) l[k] (.slice A0 n0 c0) (.slice A1 n1 c1)/\PlV w p l[k] (plV l[k] (.slice A0 n0 c0) (.slice A1 n1 c1)):=by
 obtain ⟨ad,s,K,e,hb,-,h1,h2⟩:=jd.xS l A 0 h k hk;rw [rh] at h1;obtain ⟨A0,n0,c0,A1,c1,e2,-,-⟩:=h2.open_;unfold plV at e2;simp only [tm,tD,so,and_true,true_and] at e2;obtain ⟨rfl,rfl⟩:=e2;exact ⟨ad,A0,n0,c0,A1,_,c1,e,hb,h1,h2⟩
end
def jb (w:World) (g:Nat) (p:Pl) (s A:Value):Prop:=
 w.cell? ⟨g,0,none⟩=some (.int .i64 p.lv)/\w.cell? ⟨g,1,none⟩=some (.bool p.neg)/\w.cell? ⟨g,2,none⟩=some s/\w.cell? ⟨g,3,none⟩=some A
theorem jb.xl {w w':World} {g:Nat} {p:Pl} {s A:Value} (h:jb w g p s A) (hb:w'.heap[g]?=w.heap[g]?):jb w' g p s A:=by
 obtain ⟨h0,h1,h2,h3⟩:=h;have k:∀ i,w'.cell? ⟨g,i,none⟩=w.cell? ⟨g,i,none⟩:=fun i=>pB (a:=⟨g,i,none⟩) hb
 exact ⟨(k _).trans h0,(k _).trans h1,(k _).trans h2,(k _).trans h3⟩
theorem jb.ext {w w':World} {g:Nat} {p:Pl} {s A:Value} (h:jb w g p s A) (hx:Ext w w') (hg:g < w.heap.size):jb w' g p s A:=h.xl (hx.below.block g hg)
theorem jb.new (w:World) (p:Pl) (s A:Value) (T:TypeId):jb (w.alloc (.cells #[.int .i64 p.lv,.bool p.neg,s,A] T)) w.heap.size p s A:=by
 refine ⟨?_,?_,?_,?_⟩ <;> simp [go_sem]
end Go.Proofs.YtcepajijiabkmaaGreat

namespace Go.Proofs.YtcepajijiabkmaaGreat
open Go.RowKit
section
variable {P:Program} {w:World}
theorem wpList_append_run {ops : Array Oper} {rest : List Oper} {o : Oper} {a : Act} {Q : Exit -> Act -> World -> Prop} (jB : o.guard = none) (s x : Operand) (t t' : TypeId)
 (ho:o.op=.call { callee:=.builtin .append,args:=#[s,x],argTypes:=#[t,t'] }) (vs vx v':Value) (w':World) (hs:a.eval s=vs) (hx:a.eval x=vx) (hr:(Builtin.append_ #[t,t'] o.type #[vs,vx]).run P w=.ok v' w')
 (h:wpList P ops Q rest (a.put o.dst v') w'):wpList P ops Q (o :: rest) a w:=by
 refine wpList_plain jB fun K hK=>?_
 unfold Oper.wp execOp;simp only [ho,resolve,invoke,builtin,SO,Sem.run_pure,PF,List.map_toArray,sr,SP,hs,hx,hr];exact hK _ _ h
theorem qai {ops : Array Oper} {o : Oper} {a : Act} {K : Act -> World -> Prop} {Q : Exit -> Act -> World -> Prop} {E : Prop} (hg : o.guard = none) (s x : Operand) (t t' : TypeId)
 (Oi:o.op=.call { callee:=.builtin .append,args:=#[s,x],argTypes:=#[t,t'] }) (vs vx v':Value) (w':World) (hs:a.eval s=vs) (hx:a.eval x=vx) (hr:(Builtin.append_ #[t,t'] o.type #[vs,vx]).run P w=.ok v' w')
 (hK:K (a.put o.dst v') w'):if Region.wanted o (yielded ops a.tmps)=true then Oper.wp P o a w K Q else E:=by
 have hw:Region.wanted o (yielded ops a.tmps)=true:=by simp [Region.wanted,hg]
 rw [if_pos hw];unfold Oper.wp;simp [execOp,Oi,resolve,invoke,builtin,hs,hx,hr,Result.andThen];exact hK
end
end Go.Proofs.YtcepajijiabkmaaGreat

set_option maxRecDepth 100000
set_option maxHeartbeats 8000000
namespace Go.Proofs.YtcepajijiabkmaaGreat
open Go.RowKit
theorem kbw {w:World} {base base' size n:Nat} {e:TypeId} {v:Value} {xs:List Value} (h:w.ownsRow base e size v n xs) (hb:base'<=base):w.ownsRow base' e size v n xs:=by
 obtain ⟨h1,h2⟩:=h;refine ⟨h1,?_⟩;rcases h2 with h2 | ⟨g,cap,cur,e1,e2,e3⟩
 · exact .inl h2
 · exact .inr ⟨g,cap,cur,e1,py hb e2,e3⟩
def qa9 (W:World) (v:Value):Prop:=∀ R cur T fr,v.ownBlock=some R->W.heap[R]?=some (.cells cur T fr)->∀ u ∈ cur.toList,jo u=false
theorem jat {W W':World} {v s:Value} {ds:List Nat} (h:jc W s ds) (hg:W.grownBy W' v.ownBlock) (hn:qa9 W v) (hr:∀ R,v.ownBlock=some R->∃ cur T fr,W.heap[R]?=some (.cells cur T fr)):jc W' s ds:=by
 obtain ⟨A,c,e,h1,h2,h3,h4⟩:=h;refine ⟨A,c,e,h1,h2,h3,fun hd=>?_⟩;obtain ⟨ad,e4,af,hc⟩:=h4 hd;refine ⟨ad,e4,pw af hg.size,fun j hj=>?_⟩;have ax:v.ownBlock ≠ some ad.block:=fun e=>by
  obtain ⟨cur,T,fr,hb⟩:=hr _ e;have h0:=hc 0 hd;rw [World.cell?,ja,hb] at h0;have dB:∃ k:Nat,cur[k]?=some (.int .u32 (ds[0]:Nat)):=by
   revert h0
   simp only
   split <;> intro h0
   · cases h0
   · exact ⟨_,h0⟩
  obtain ⟨k,hk⟩:=dB;have:=hn _ _ _ _ e hb (.int .u32 (ds[0]:Nat)) (by
   obtain ⟨yY,hk2⟩:=rB.1 hk
   rw [<- hk2]; simp)
  cases this
 exact (pB (a:=ad.add j) (by rw [ja]; exact rr hg _ af (fun e=>ax e.symm))).trans (hc j hj)
theorem yaf {W:World} {base size n:Nat} {e:TypeId} {v:Value} {xs:List Value} (h:W.ownsRow base e size v n xs):∀ R,v.ownBlock=some R->∃ cur T fr,W.heap[R]?=some (.cells cur T fr):=by
 intro R hR;obtain ⟨-,⟨rfl,-⟩ | ⟨g,cap,cur,rfl,-,hg,-⟩⟩:=h
 · cases hR
 · have:g=R:=by simpa [Value.ownBlock] using hR
   subst this;exact ⟨cur,_,_,hg⟩
theorem qa9.ext {W W':World} {v:Value} (h:qa9 W v) (hx:∀ R,v.ownBlock=some R->W'.heap[R]?=W.heap[R]?):qa9 W' v:=fun R cur T fr e hb=>h R cur T fr e ((hx R e).symm.trans hb)
structure jao (S T : TypeId) (k bytes : Nat) (Z : Value) : Prop where
 und:Tryz.prog.underlying S=some (.slice T)
 info:(Tryz.prog.info? T).map (fun i=>(i.zero,i.size,i.bytes))=some (some Z,k,bytes)
 cells:Z.cells.size=k
 pos:0 < k
 nodig:∀ u ∈ Z.cells.toList,jo u=false
theorem vb3 {S T:TypeId} {k bytes:Nat} {Z:Value} (R:jao S T k bytes Z) (n:Nat):∀ u ∈ (Builtin.zeroCells Z.cells n).toList,jo u=false:=by
 intro u hu;unfold Builtin.zeroCells at hu;simp only [Array.toList_map,pZ] at hu;obtain ⟨i,-,rfl⟩:=hu;have hp:=R.pos;have af:i % Z.cells.size < Z.cells.size:=te _ (by rw [R.cells]; exact hp);rw [getElem!_pos Z.cells (i % Z.cells.size) af];exact R.nodig _ (by simp)
def yl (T k base:Nat) (W:World) (v:Value) (n:Nat) (xs:List Value):Prop:=W.ownsRow base T k v n xs/\qa9 W v
theorem yl.nil (T k base:Nat) (W:World):yl T k base W (.slice none 0 0) 0 []:=⟨World.ownsRow_nil _ _ _ _,fun R _ _ _ e=>by cases e⟩
section
variable {T k base base':Nat} {W W':World} {v:Value} {n:Nat} {xs:List Value}
theorem yl.own (h:yl T k base W v n xs) {R:Nat} (hR:v.ownBlock=some R):base<=R/\R < W.heap.size:=World.ownsRow.lt h.1 R hR
theorem yl.less (h:yl T k base W v n xs) (hb:base'<=base):yl T k base' W v n xs:=⟨kbw h.1 hb,h.2⟩
theorem yl.len (h:yl T k base W v n xs):∃ A c,v=.slice A n c/\n<=c/\c<=9223372036854775807:=by
 obtain ⟨h3,⟨rfl,h0⟩ | ⟨g,cap,cur,rfl,hb,hg,hc,hm,-⟩⟩:=h.1
 · exact ⟨none,0,by rw [h0],by omega,by omega⟩
 · exact ⟨some ⟨g,0,none⟩,cap,rfl,hc,by unfold maxLen at hm; omega⟩
theorem yl.pos (h:yl T k base W v n xs) (hn:0 < n):∃ g c,v=.slice (some ⟨g,0,none⟩) n c/\n<=c/\c<=9223372036854775807/\base<=g/\g < W.heap.size/\∀ i,W.frozen? ⟨g,i,none⟩=false:=by
 obtain ⟨h3,⟨rfl,h0⟩ | ⟨g,cap,cur,rfl,hb,hg,hc,hm,-⟩⟩:=h.1
 · omega
 · exact ⟨g,cap,rfl,hc,by unfold maxLen at hm; omega,hb,(rB.1 hg).1,fun i=>by simp [World.frozen?,hg]⟩
theorem yl.xl (h:yl T k base W v n xs) (hb:∀ R,v.ownBlock=some R->W'.heap[R]?=W.heap[R]?):yl T k base W' v n xs:=by
 obtain ⟨⟨h1,h2⟩,h3⟩:=h;refine ⟨⟨h1,?_⟩,h3.ext hb⟩;rcases h2 with h2 | ⟨g,cap,cur,rfl,FK,hg,h6⟩
 · exact .inl h2
 · exact .inr ⟨g,cap,cur,rfl,FK,(hb g rfl).trans hg,h6⟩
theorem yl.ext (h:yl T k base W v n xs) (hx:Ext W W'):yl T k base W' v n xs:=h.xl fun R hR=>hx.below.block R (h.own hR).2
theorem yl.cell {g c:Nat} (h:yl T k base W (.slice (some ⟨g,0,none⟩) n c) n xs) (j:Nat) (hj:j < n * k):W.cell? ⟨g,j,none⟩=xs[j]?:=World.ownsRow.cellAt h.1 j hj
end
theorem yl.append {S T : TypeId} {k bytes : Nat} {Z : Value} (R : jao S T k bytes Z) {base : Nat} {W : World} {ov : Value} {n : Nat} {xs : List Value} (h : yl T k base W ov n xs) (dh : base <= W.heap.size) (a : Addr) (m c : Nat) (news : List Value)
 (oG:news.length=m * k) (Cc:∀ j u,news[j]?=some u->W.cell? (a.add j)=some u) (h1:∀ u ∈ news,u.oneCell'=true/\jo u=false) (hm:0 < m) (hlen:(n+m) * bytes<=140737488355328) (hlen2:n+m<=140737488355328) (ty:TypeId) :
 ∃ v4 w4,(Builtin.append_ #[S,S] ty #[ov,.slice (some a) m c]).run Tryz.prog W=.ok v4 w4/\yl T k base w4 v4 (n+m) (xs ++ news)/\W.grownBy w4 ov.ownBlock/\(∀ v ds,jc W v ds->jc w4 v ds)/\(v4.ownBlock=ov.ownBlock\/v4.ownBlock=some W.heap.size):=by
 obtain ⟨o1,bP⟩:=h;obtain ⟨i0,hi,iV,iI,iH⟩:=info_parts R.info;have hk:=R.pos;obtain ⟨v4,w4,ak,r1,r2,-,r3⟩:=run_append_own_at (P:=Tryz.prog) W base S ty T i0 Z k bytes R.und hi iV iI iH R.cells hk ov n xs o1 a m c news oG Cc (fun u hu=>(h1 u hu).1) (by unfold maxLen; omega) hlen dh;refine ⟨v4,w4,ak,⟨r1,?_⟩,r2,fun v ds hv=>jat hv r2 bP (yaf o1),r3⟩;have fin:∀ (xs:List Value) (q:Nat) (w5:World) (l cap:Nat),(∀ u ∈ xs,jo u=false)->w5.heap.size=W.heap.size->qa9 (w5.alloc (.cells (xs.toArray ++ news.toArray ++ Builtin.zeroCells Z.cells q) T)) (.slice (some ⟨W.heap.size,0,none⟩) l cap):=by
  intro xs q w5 l cap wK h5 R' cur T' fr hR hb u hu;have LQ:W.heap.size=R':=by simpa [Value.ownBlock] using hR
  rw [<- LQ,<- h5,heap_alloc_new] at hb;injection hb with hb
  injection hb with hb
  rw [<- hb] at hu;simp only [Array.toList_append,rj] at hu;rcases hu with (hu | hu) | hu
  · exact wK u hu
  · exact (h1 u hu).2
  · exact vb3 R q u hu
 have hold:∀ g cur,ov.ownBlock=some g->W.heap[g]?=some (.cells cur T (0,0))->∀ u ∈ cur.toList,jo u=false:=fun g cur e hb=>bP g cur _ _ e hb
 have jZ:m<=m * bytes\/bytes=0:=by
  rcases tR bytes with h | h
  · exact .inr h
  · exact .inl (Nat.le_mul_of_pos_right _ h)
 rcases o1.2 with ⟨rfl,gX⟩ | ⟨g,cap,cur,rfl,FK,hg,RD,gU,fB,wM⟩
 · subst gX;have hr:=run_append_nil (P:=Tryz.prog) W S ty T i0 _ R.und hi iV a m c news (by rw [iI]; exact oG) Cc hm (by omega) (by rw [iH]; rw [rh] at hlen; omega);rw [ak] at hr;injection hr with e1 e2
   subst e1 e2;have:=fin [] (grownCap W m 0 T - m) W.drew m (grownCap W m 0 T) (by simp) rfl;simpa using this
 · by_cases rX:n+m<=cap
   · have aF:n * k+news.length<=cur.size:=by
      rw [fB,oG,<- rN];exact pE _ rX
     have hr:=run_append_room (P:=Tryz.prog) W S ty T i0 R.und hi g n cap cur hg a m c news (by rw [iI]; exact oG) Cc (fun u hu=>(h1 u hu).1) rX (by rw [iI]; exact aF);rw [ak] at hr;injection hr with e1 e2
     subst e1 e2;intro R' cur' T' fr hR hb u hu;have LQ:g=R':=by simpa [Value.ownBlock] using hR
     rw [<- LQ,setRow_heap W g cur _ _ _ hg] at hb;injection hb with hb
     injection hb with hb
     rw [<- hb] at hu;simp only [rj] at hu;rcases hu with (hu | hu) | hu
     · exact hold g cur rfl hg u (tl hu)
     · exact (h1 u hu).2
     · exact hold g cur rfl hg u (RT hu)
   · have hr:=run_append_grow (P:=Tryz.prog) W S ty T i0 _ R.und hi iV ⟨g,0,none⟩ n cap xs (by rw [iI]; exact o1.1) (o1.cells (g:=g) rfl) a m c news (by rw [iI]; exact oG) Cc (by omega) (by omega) (growslice_fits (by omega) (by rw [iH]; exact hlen));rw [ak] at hr;injection hr with e1 e2
     subst e1 e2;exact fin xs _ W.drew _ _ (fun u hu=>hold g cur rfl hg u (tl (by rw [wM]; exact hu))) rfl
theorem yl.push {S T : TypeId} {k bytes : Nat} {Z : Value} (R : jao S T k bytes Z) {base : Nat} {W : World} {ov : Value} {n : Nat} {xs : List Value} (h : yl T k base W ov n xs) (dh : base <= W.heap.size) (news : List Value)
 (oG:news.length=k) (h1:∀ u ∈ news,u.oneCell'=true/\jo u=false) (hlen:(n+1) * bytes<=140737488355328) (hlen2:n+1<=140737488355328) (ty:TypeId) :
 ∃ v4 w4,(Builtin.append_ #[S,S] ty #[ov,.slice (some ⟨W.heap.size,0,none⟩) 1 1]).run Tryz.prog (W.alloc (.cells news.toArray T))=.ok v4 w4/\yl T k base w4 v4 (n+1) (xs ++ news)/\W.grownBy w4 ov.ownBlock/\(∀ v ds,jc W v ds->jc w4 v ds)/\(v4.ownBlock=ov.ownBlock\/v4.ownBlock=some (W.heap.size+1)):=by
 have hx:Ext W (W.alloc (.cells news.toArray T)):=(Ext.refl W).alloc _;obtain ⟨v4,w4,e,h2,h3,h4,h5⟩:=yl.append R (h.ext hx) (by have:=hx.size; omega) ⟨W.heap.size,0,none⟩ 1 1 news (by omega) (fun j u hu=>by
  rw [zu,rh,cell_of_row _ _ j _ _ (0,0) (heap_alloc_new W _)]; simpa using hu) h1 (by omega) hlen hlen2 ty
 refine ⟨v4,w4,e,h2,⟨h3.os.trans hx.below.os,h3.tape.trans hx.below.tape,h3.output.trans hx.below.output,py hx.size h3.size,fun i hi ax=>(rr h3 i (pw hi hx.size) ax).trans (hx.below.block i hi)⟩,fun v ds hv=>h4 v ds (hv.ext hx),?_⟩
 rwa [tL] at h5
end Go.Proofs.YtcepajijiabkmaaGreat
