/- Maps from monomials (arrays of four numbers) to values: what a block that is such a map holds, and what reading and writing it does. -/
import Derived.Test.YtcepajijiabkmaaGreatMo6
import Derived.Deep.RegionLawGrows
import Derived.RangeFuncBox
set_option linter.all false
namespace Go.Proofs.YtcepajijiabkmaaGreat
open Go.RowKit
def moV (m:Mo):Value:=.agg #[.int .i64 m.a,.int .i64 m.b,.int .i64 m.c,.int .i64 m.d]
def mog (l:List (Mo × Value)) (s:Mo):Option Value:=match l with
 | []=>none
 | (k,v) :: r=>if s=k then some v else mog r s
def mop (l:List (Mo × Value)) (s:Mo) (u:Value):List (Mo × Value):=match l with
 | []=>[(s,u)]
 | (k,v) :: r=>if s=k then (s,u) :: r else (k,v) :: mop r s u
def kae (w:World) (b:Nat) (l:List (Mo × Value)):Prop:=
 ∃ es clock,w.heap[b]?=some (.map es clock)/\es.toList.map (fun e=>(e.key,e.val))=l.map (fun x=>(moV x.1,x.2))
theorem kae.lt {w:World} {b:Nat} {l:List (Mo × Value)} (h:kae w b l):b < w.heap.size:=by
 obtain ⟨es,clock,hb,_⟩:=h;exact (rB.1 hb).1
theorem kae.made (w:World):kae (w.alloc (.map #[] 0)) w.heap.size []:=⟨#[],0,heap_alloc_new w _,rfl⟩
theorem kae.block {w w':World} {b:Nat} {l:List (Mo × Value)} (h:kae w b l) (hx:w'.heap[b]?=w.heap[b]?):kae w' b l:=by
 obtain ⟨es,clock,hb,he⟩:=h;exact ⟨es,clock,hx.trans hb,he⟩
theorem kae.ext {w w':World} {b:Nat} {l:List (Mo × Value)} (h:kae w b l) (hx:Ext w w'):kae w' b l:=h.block (hx.below.block b h.lt)
theorem zbr (m n:Mo) (w:World):(Op.equal 61 (moV m) (moV n)).run Tryz.prog w=.ok (decide (m=n)) w:=by
 obtain ⟨a,b,c,d⟩:=m;obtain ⟨a',b',c',d'⟩:=n;have qA:∀ (x y:Int) (k:Nat),(Op.equalIn (k+1) 3 (.int .i64 x) (.int .i64 y)).run Tryz.prog w=.ok (x == y) w:=by
  intro x y k;simp [Op.equalIn,run_underlying u9]
 simp only [Mo.mk.injEq];unfold Op.equal Op.maxDepth moV;rw [show (10000:Nat)=9998+1+1 from rfl];have Fa:∀ (x0 x1 x2 x3:Int),(part 3 #[Value.int .i64 x0,.int .i64 x1,.int .i64 x2,.int .i64 x3] 0).run Tryz.prog w=.ok (.int .i64 x0) w/\(part 3 #[Value.int .i64 x0,.int .i64 x1,.int .i64 x2,.int .i64 x3] 1).run Tryz.prog w=.ok (.int .i64 x1) w/\(part 3 #[Value.int .i64 x0,.int .i64 x1,.int .i64 x2,.int .i64 x3] 2).run Tryz.prog w=.ok (.int .i64 x2) w/\(part 3 #[Value.int .i64 x0,.int .i64 x1,.int .i64 x2,.int .i64 x3] 3).run Tryz.prog w=.ok (.int .i64 x3) w:=by
  intro x0 x1 x2 x3;refine ⟨?_,?_,?_,?_⟩ <;> simp [part,paN]
 rw [Op.equalIn];simp only [Tx,run_underlying Pb,RT,Wc];simp only [paa,Std.Legacy.Range.size,List.range',List.forIn_cons,Tx,s8,tr,ur,ri,s9,Nat.sub_zero,Nat.div_one,uR,Fa,RT,qA]
 by_cases h1:a=a'
 · by_cases h2:b=b'
   · by_cases h3:c=c'
     · by_cases h4:d=d'
       · simp [h1,h2,h3,h4,Fa,qA]
       · simp [h1,h2,h3,h4,Fa,qA]
     · simp [h1,h2,h3,Fa,qA]
   · simp [h1,h2,Fa,qA]
 · simp [h1]
theorem ua6 (w:World) (m:Mo) (es:List MapEntry) (l:List (Mo × Value)) (h:es.map (fun e=>(e.key,e.val))=l.map (fun x=>(moV x.1,x.2))) :
 ∀ i,((Instr.findAsking 61 (moV m) es i).run Tryz.prog w=.ok none w/\mog l m=none/\(∀ u,mop l m u=l ++ [(m,u)])) \/
   ∃ k v,(Instr.findAsking 61 (moV m) es i).run Tryz.prog w=.ok (some (i+k,v)) w/\mog l m=some v/\(∀ u,mop l m u=l.set k (m,u))/\(es[k]?).map (·.key)=some (moV m)/\k < es.length:=by
 induction es generalizing l with
 | nil =>
   intro i
   have:l=[]:=by cases l with
    | nil=>rfl
    | cons x r=>simp at h
   subst this;exact .inl ⟨by simp [Instr.findAsking],rfl,fun u=>rfl⟩
 | cons e es ih =>
   cases l with
   | nil=>simp at h
   | cons x r =>
     obtain ⟨k,v⟩:=x;simp only [ss,sy,Prod.mk.injEq] at h;obtain ⟨⟨hk,hv⟩,hr⟩:=h;intro i;have he:=zbr m k w
     by_cases hs:m=k
     · subst hs;refine .inr ⟨0,v,?_,by simp [mog],fun u=>by simp [mop],by simp [hk],by simp⟩;simp [Instr.findAsking,hk,hv,he]
     · rcases ih r hr (i+1) with ⟨h1,h2,h3⟩ | ⟨j,u,h1,h2,h3,h4,h5⟩
       · refine .inl ⟨by simp [Instr.findAsking,hk,he,hs,h1],by simp [mog,hs,h2],fun u=>by simp [mop,hs,h3]⟩
       · refine .inr ⟨j+1,u,?_,by simp [mog,hs,h2],fun u=>by simp [mop,hs,h3],by simpa using h4,by simp; omega⟩;simp [Instr.findAsking,hk,he,hs,h1]; omega
theorem xbm (w:World) (m:Mo) (es:List MapEntry) (l:List (Mo × Value)) (h:es.map (fun e=>(e.key,e.val))=l.map (fun x=>(moV x.1,x.2))) :
 (Instr.findKey 61 (moV m) es).run Tryz.prog w=(Instr.findAsking 61 (moV m) es 0).run Tryz.prog w:=by
 unfold Instr.findKey;simp only [Tx,run_underlying Pb,RT];cases es with
 | nil=>simp [Instr.findNow,Instr.findAsking]
 | cons e es=>rfl
theorem ube (b:Bool) (m:Mo) (w:World):(Instr.checkKey b 10000 61 (moV m)).run Tryz.prog w=.ok () w:=by
 obtain ⟨x0,x1,x2,x3⟩:=m;have qA:∀ (k:Nat) (x:Int),(Instr.checkKey b (k+1) 3 (.int .i64 x)).run Tryz.prog w=.ok () w:=by
  intro k x;simp [Instr.checkKey,run_underlying u9]
 rw [show (10000:Nat)=9998+1+1 from rfl];unfold moV;rw [Instr.checkKey];simp only [Tx,run_underlying Pb,RT,Wc];simp [paa,Std.Legacy.Range.size,List.range',part,paN,Wc,qA]
theorem kae.look {w:World} {b:Nat} {l:List (Mo × Value)} (h:kae w b l) (s:Mo) (ok:Bool) :
 (Instr.lookup 111 (.map (some b)) (moV s) ok).run Tryz.prog w=.ok (if ok then .tuple #[(mog l s).getD (.int .i64 0),.bool (mog l s).isSome] else (mog l s).getD (.int .i64 0)) w:=by
 obtain ⟨es,clock,hb,he⟩:=h;have hg:=MapKept.run_getObj_map (P:=Tryz.prog) hb;have OM:=ube es.isEmpty s w;have fG:=xbm w s es.toList l he;have ht:=Tryz.underlying111;rcases ua6 w s es.toList l he 0 with ⟨h1,h2,-⟩ | ⟨i,v,h1,h2,-,-⟩
 · rw [h1] at fG;simp only [Instr.lookup,h2];cases ok <;> simp [run_underlying ht,hg,OM,fG,paK]
 · rw [h1] at fG;simp only [Instr.lookup,h2];cases ok <;> simp [run_underlying ht,hg,OM,fG]
theorem kae.put {w:World} {b:Nat} {l:List (Mo × Value)} (h:kae w b l) (s:Mo) (u:Value) :
 ∃ w',(Instr.mapUpdate 111 (.map (some b)) (moV s) u).run Tryz.prog w=.ok () w'/\kae w' b (mop l s u)/\Only b w w':=by
 have af:=h.lt;obtain ⟨es,clock,hb,he⟩:=h;have hg:=MapKept.run_getObj_map (P:=Tryz.prog) hb;have OM:=ube false s w;have fG:=xbm w s es.toList l he;have ht:=Tryz.underlying111;have hon:∀ o,Only b w { w with heap:=w.heap.setIfInBounds b o }:=fun o=>⟨rfl,rfl,rfl,by simp,fun i hi au=>by
  have:b ≠ i:=fun e=>au (by rw [e])
  simp [Tb,this]⟩
 rcases ua6 w s es.toList l he 0 with ⟨h1,-,h3⟩ | ⟨i,v,h1,-,h3,h4,h5⟩
 · rw [h1] at fG;have hs:=MapKept.run_setObj_map (P:=Tryz.prog) (.map (es.push { key:=moV s,val:=u,born:=clock }) (clock+1)) hb;refine ⟨_,?_,?_,hon (.map (es.push { key:=moV s,val:=u,born:=clock }) (clock+1))⟩
   · simp [Instr.mapUpdate,run_underlying ht,hg,OM,fG,hs]
   · refine ⟨_,_,by simp [Tb,af]; exact ⟨rfl,rfl⟩,?_⟩;rw [h3];simpa using he
 · rw [h1] at fG;have aaG:(es[i]?).map (·.key)=some (moV s):=by simpa using h4
   have dV:(Instr.keyThatStays (moV s) (moV s)).run Tryz.prog w=.ok (moV s) w:=by
    simp [Instr.keyThatStays,Instr.sameBits,moV]
   have hs:=MapKept.run_setObj_map (P:=Tryz.prog) (.map (es.modify i fun e=>{ e with key:=moV s,val:=u }) clock) hb;refine ⟨_,?_,?_,hon (.map (es.modify i fun e=>{ e with key:=moV s,val:=u }) clock)⟩
   · simp [Instr.mapUpdate,run_underlying ht,hg,OM,fG,aaG,dV,hs]
   · refine ⟨_,_,by simp [Tb,af]; exact ⟨rfl,rfl⟩,?_⟩;rw [h3];apply List.ext_getElem?;intro j;have TK:=congrArg (fun L=>L[j]?) he;simp only [tS,Array.getElem?_toList] at TK;simp only [tS,Array.getElem?_toList,RO,List.getElem?_set]
     by_cases oK:i=j
     · subst oK;have hl:i < l.length:=by
        have:=congrArg List.length he;simp at this h5;omega
       have h5':i < es.size:=by simpa using h5
       simp [hl,h5']
     · simp [oK,TK]
section
variable {w w':World} {p q:Nat->Prop}
end
section
variable {w w':World}
end
def plV (p:Pl) (s A:Value):Value:=.agg #[.int .i64 p.lv,.bool p.neg,s,A]
def uy (w:World) (ad:Addr) (p:Pl) (s A:Value):Prop:=
 w.cell? ad=some (.int .i64 p.lv)/\w.cell? ⟨ad.block,ad.off+1,none⟩=some (.bool p.neg)/\w.cell? ⟨ad.block,ad.off+2,none⟩=some s/\w.cell? ⟨ad.block,ad.off+3,none⟩=some A
mutual
def PlV (w : World) (q : Nat -> Prop) : Pl -> Value -> Prop
 | .mk l n d cs,v=>∃ s A c,v=.agg #[.int .i64 l,.bool n,s,.slice A cs.length c]/\jc w s d/\cs.length<=c/\c<=9223372036854775807/\jd w q cs A 0
def jd (w : World) (q : Nat -> Prop) : List Pl -> Option Addr -> Nat -> Prop
 | [],_,_=>True
 | t :: r,A,j=>(∃ ad s K,A=some ad/\ad.block < w.heap.size/\q ad.block/\uy w (ad.add (j * 4)) t s K/\PlV w q t (plV t s K))/\jd w q r A (j+1)
end
section
variable {w w':World} {p q:Nat->Prop}
theorem jd.xS (l:List Pl):∀ (A:Option Addr) (j:Nat),jd w p l A j->∀ i (h:i < l.length),∃ ad s K,A=some ad/\ad.block < w.heap.size/\p ad.block/\uy w (ad.add ((j+i) * 4)) l[i] s K/\PlV w p l[i] (plV l[i] s K):=by
 induction l with
 | nil=>intro A j h i hi; simp at hi
 | cons t r ih =>
   intro A j h i hi;unfold jd at h;cases i with
   | zero=>exact h.1
   | succ i =>
     have:=ih A (j+1) h.2 i (by simpa using hi);rw [show j+(i+1)=j+1+i by omega];exact this
theorem jd.of (l:List Pl):∀ (A:Option Addr) (j:Nat),(∀ i (h:i < l.length),∃ ad s K,A=some ad/\ad.block < w.heap.size/\p ad.block/\uy w (ad.add ((j+i) * 4)) l[i] s K/\PlV w p l[i] (plV l[i] s K))->jd w p l A j:=by
 induction l with
 | nil=>intro A j h; unfold jd; trivial
 | cons t r ih =>
   intro A j h;unfold jd;refine ⟨h 0 (by simp),ih A (j+1) fun i hi=>?_⟩;have:=h (i+1) (by simpa using hi);rw [show j+(i+1)=j+1+i by omega] at this;exact this
theorem uy.same {ad:Addr} {t:Pl} {s A:Value} (h:uy w ad t s A) (k0:w'.cell? ad=w.cell? ad) (k:∀ n,n < 4->w'.cell? ⟨ad.block,ad.off+n,none⟩=w.cell? ⟨ad.block,ad.off+n,none⟩):uy w' ad t s A:=by
 obtain ⟨h0,h1,h2,h3⟩:=h;exact ⟨k0.trans h0,(k 1 (by omega)).trans h1,(k 2 (by omega)).trans h2,(k 3 (by omega)).trans h3⟩
theorem uy.ext {ad:Addr} {t:Pl} {s A:Value} (h:uy w ad t s A) (hx:Ext w w') (hb:ad.block < w.heap.size):uy w' ad t s A:=h.same (hx.cell hb) (fun n _=>hx.cell (p:=⟨ad.block,ad.off+n,none⟩) hb)
mutual
theorem PlV.xl (hs : w.heap.size <= w'.heap.size) (hn : ∀ v ds, jc w v ds -> jc w' v ds) (hc : ∀ b, b < w.heap.size -> p b -> q b /\ w'.heap[b]? = w.heap[b]?) : ∀ (t : Pl) (v : Value), PlV w p t v -> PlV w' q t v
 | .mk l n d cs,v,h=>by
   unfold PlV at h ⊢;obtain ⟨s,A,c,e,h1,h2,h3,h4⟩:=h;exact ⟨s,A,c,e,hn _ _ h1,h2,h3,jd.xl hs hn hc cs A 0 h4⟩
theorem jd.xl (hs : w.heap.size <= w'.heap.size) (hn : ∀ v ds, jc w v ds -> jc w' v ds) (hc : ∀ b, b < w.heap.size -> p b -> q b /\ w'.heap[b]? = w.heap[b]?) : ∀ (l : List Pl) (A : Option Addr) (j : Nat), jd w p l A j -> jd w' q l A j
 | [],A,j,h=>by unfold jd; trivial
 | t :: r,A,j,h=>by
   unfold jd at h ⊢;obtain ⟨⟨ad,s,K,e,hb,uY,h1,h2⟩,h3⟩:=h;obtain ⟨hq,hk⟩:=hc _ hb uY;exact ⟨⟨ad,s,K,e,px hb hs,hq,h1.same (pB (by rw [ja]; exact hk)) (fun n _=>pB (a:=⟨(ad.add (j * 4)).block,(ad.add (j * 4)).off+n,none⟩) (by show w'.heap[(ad.add (j * 4)).block]?=_; rw [ja]; exact hk)),PlV.xl hs hn hc t _ h2⟩,jd.xl hs hn hc r A (j+1) h3⟩
end
theorem PlV.zd {t:Pl} {v:Value} (hs:w.heap.size<=w'.heap.size) (hn:∀ v ds,jc w v ds->jc w' v ds) (hc:∀ b,b < w.heap.size->p b->q b/\w'.heap[b]?=w.heap[b]?) (h:PlV w p t v):PlV w' q t v:=PlV.xl hs hn hc t v h
theorem PlV.ext {t:Pl} {v:Value} (h:PlV w p t v) (hx:Ext w w'):PlV w' p t v:=PlV.xl hx.size (fun _ _ h=>h.ext hx) (fun b hb hp=>⟨hp,hx.below.block b hb⟩) t v h
theorem jd.ext {l:List Pl} {A:Option Addr} {j:Nat} (h:jd w p l A j) (hx:Ext w w'):jd w' p l A j:=jd.xl hx.size (fun _ _ h=>h.ext hx) (fun b hb hp=>⟨hp,hx.below.block b hb⟩) l A j h
theorem PlV.mono {t:Pl} {v:Value} (h:PlV w p t v) (hp:∀ b,p b->q b):PlV w q t v:=PlV.xl (pj _) (fun _ _ h=>h) (fun b _ h=>⟨hp b h,rfl⟩) t v h
theorem PlV.open_ {t:Pl} {v:Value} (h:PlV w p t v):∃ A0 n0 c0 A c,v=plV t (.slice A0 n0 c0) (.slice A t.cs.length c)/\jc w (.slice A0 n0 c0) t.ds/\t.cs.length<=c/\c<=9223372036854775807/\jd w p t.cs A 0:=by
 cases t with
 | mk l n d cs =>
   unfold PlV at h;obtain ⟨s,A,c,e,⟨A0,c0,rfl,hd⟩,h2,h3,h4⟩:=h;exact ⟨A0,_,c0,A,c,e,⟨A0,c0,rfl,hd⟩,h2,h3,h4⟩
theorem PlV.mk {t:Pl} {s:Value} {A:Option Addr} {c:Nat} (h1:jc w s t.ds) (h2:t.cs.length<=c) (h3:c<=9223372036854775807) (h4:jd w p t.cs A 0):PlV w p t (plV t s (.slice A t.cs.length c)):=by
 cases t with
 | mk l n d cs=>unfold PlV; exact ⟨s,A,c,rfl,h1,h2,h3,h4⟩
theorem jd.ym {l:List Pl} {A:Option Addr} (h:jd w p l A 0) (k:Nat) (hk:k < l.length):∃ ad A0 n0 c0 A1 n1 c1,A=some ad/\ad.block < w.heap.size/\uy w (ad.add (k * 4)) l[k] (.slice A0 n0 c0) (.slice A1 n1 c1)/\PlV w p l[k] (plV l[k] (.slice A0 n0 c0) (.slice A1 n1 c1)):=by
 obtain ⟨ad,s,K,e,hb,-,h1,h2⟩:=jd.xS l A 0 h k hk;rw [ri] at h1;obtain ⟨A0,n0,c0,A1,c1,e2,-,-⟩:=h2.open_;unfold plV at e2;simp only [tm,tF,sy,and_true,true_and] at e2;obtain ⟨rfl,rfl⟩:=e2;exact ⟨ad,A0,n0,c0,A1,_,c1,e,hb,h1,h2⟩
end
def jb (w:World) (g:Nat) (p:Pl) (s A:Value):Prop:=
 w.cell? ⟨g,0,none⟩=some (.int .i64 p.lv)/\w.cell? ⟨g,1,none⟩=some (.bool p.neg)/\w.cell? ⟨g,2,none⟩=some s/\w.cell? ⟨g,3,none⟩=some A
theorem jb.xl {w w':World} {g:Nat} {p:Pl} {s A:Value} (h:jb w g p s A) (hb:w'.heap[g]?=w.heap[g]?):jb w' g p s A:=by
 obtain ⟨h0,h1,h2,h3⟩:=h;have k:∀ i,w'.cell? ⟨g,i,none⟩=w.cell? ⟨g,i,none⟩:=fun i=>pB (a:=⟨g,i,none⟩) hb
 exact ⟨(k _).trans h0,(k _).trans h1,(k _).trans h2,(k _).trans h3⟩
theorem jb.ext {w w':World} {g:Nat} {p:Pl} {s A:Value} (h:jb w g p s A) (hx:Ext w w') (hg:g < w.heap.size):jb w' g p s A:=h.xl (hx.below.block g hg)
theorem jb.new (w:World) (p:Pl) (s A:Value) (T:TypeId):jb (w.alloc (.cells #[.int .i64 p.lv,.bool p.neg,s,A] T)) w.heap.size p s A:=by
 refine ⟨?_,?_,?_,?_⟩ <;> simp [go_sem]
end Go.Proofs.YtcepajijiabkmaaGreat

namespace Go.Proofs.YtcepajijiabkmaaGreat
open Go.RowKit
section
variable {P:Program} {w:World}
theorem wpList_append_run {ops : Array Oper} {rest : List Oper} {o : Oper} {a : Act} {Q : Exit -> Act -> World -> Prop} (jJ : o.guard = none) (s x : Operand) (t t' : TypeId)
 (ho:o.op=.call { callee:=.builtin .append,args:=#[s,x],argTypes:=#[t,t'] }) (vs vx v':Value) (w':World) (hs:a.eval s=vs) (hx:a.eval x=vx) (hr:(Builtin.append_ #[t,t'] o.type #[vs,vx]).run P w=.ok v' w')
 (h:wpList P ops Q rest (a.put o.dst v') w'):wpList P ops Q (o :: rest) a w:=by
 refine wpList_plain jJ fun K hK=>?_
 unfold Oper.wp execOp;simp only [ho,resolve,invoke,builtin,Tx,Sem.run_pure,RT,List.map_toArray,ss,Ss,hs,hx,hr];exact hK _ _ h
theorem zaf {ops : Array Oper} {o : Oper} {a : Act} {K : Act -> World -> Prop} {Q : Exit -> Act -> World -> Prop} {E : Prop} (hg : o.guard = none) (s x : Operand) (t t' : TypeId)
 (Oq:o.op=.call { callee:=.builtin .append,args:=#[s,x],argTypes:=#[t,t'] }) (vs vx v':Value) (w':World) (hs:a.eval s=vs) (hx:a.eval x=vx) (hr:(Builtin.append_ #[t,t'] o.type #[vs,vx]).run P w=.ok v' w')
 (hK:K (a.put o.dst v') w'):if Region.wanted o (yielded ops a.tmps)=true then Oper.wp P o a w K Q else E:=by
 have hw:Region.wanted o (yielded ops a.tmps)=true:=by simp [Region.wanted,hg]
 rw [if_pos hw];unfold Oper.wp;simp [execOp,Oq,resolve,invoke,builtin,hs,hx,hr,Result.andThen];exact hK
end
end Go.Proofs.YtcepajijiabkmaaGreat

set_option maxRecDepth 100000
set_option maxHeartbeats 8000000
namespace Go.Proofs.YtcepajijiabkmaaGreat
open Go.RowKit
theorem xb0 {w:World} {base base' size n:Nat} {e:TypeId} {v:Value} {xs:List Value} (h:w.ownsRow base e size v n xs) (hb:base'<=base):w.ownsRow base' e size v n xs:=by
 obtain ⟨h1,h2⟩:=h;refine ⟨h1,?_⟩;rcases h2 with h2 | ⟨g,cap,cur,e1,e2,e3⟩
 · exact .inl h2
 · exact .inr ⟨g,cap,cur,e1,py hb e2,e3⟩
def kbb (W:World) (v:Value):Prop:=∀ R cur T fr,v.ownBlock=some R->W.heap[R]?=some (.cells cur T fr)->∀ u ∈ cur.toList,uo u=false
theorem kau {W W':World} {v s:Value} {ds:List Nat} (h:jc W s ds) (hg:W.grownBy W' v.ownBlock) (hn:kbb W v) (hr:∀ R,v.ownBlock=some R->∃ cur T fr,W.heap[R]?=some (.cells cur T fr)):jc W' s ds:=by
 obtain ⟨A,c,e,h1,h2,h3,h4⟩:=h;refine ⟨A,c,e,h1,h2,h3,fun hd=>?_⟩;obtain ⟨ad,e4,af,hc⟩:=h4 hd;refine ⟨ad,e4,px af hg.size,fun j hj=>?_⟩;have au:v.ownBlock ≠ some ad.block:=fun e=>by
  obtain ⟨cur,T,fr,hb⟩:=hr _ e;have h0:=hc 0 hd;rw [World.cell?,ja,hb] at h0;have dC:∃ k:Nat,cur[k]?=some (.int .u32 (ds[0]:Nat)):=by
   revert h0
   simp only
   split <;> intro h0
   · cases h0
   · exact ⟨_,h0⟩
  obtain ⟨k,hk⟩:=dC;have:=hn _ _ _ _ e hb (.int .u32 (ds[0]:Nat)) (by
   obtain ⟨yQ,hk2⟩:=rB.1 hk
   rw [<- hk2]; simp)
  cases this
 exact (pB (a:=ad.add j) (by rw [ja]; exact rz hg _ af (fun e=>au e.symm))).trans (hc j hj)
theorem yag {W:World} {base size n:Nat} {e:TypeId} {v:Value} {xs:List Value} (h:W.ownsRow base e size v n xs):∀ R,v.ownBlock=some R->∃ cur T fr,W.heap[R]?=some (.cells cur T fr):=by
 intro R hR;obtain ⟨-,⟨rfl,-⟩ | ⟨g,cap,cur,rfl,-,hg,-⟩⟩:=h
 · cases hR
 · have:g=R:=by simpa [Value.ownBlock] using hR
   subst this;exact ⟨cur,_,_,hg⟩
theorem kbb.ext {W W':World} {v:Value} (h:kbb W v) (hx:∀ R,v.ownBlock=some R->W'.heap[R]?=W.heap[R]?):kbb W' v:=fun R cur T fr e hb=>h R cur T fr e ((hx R e).symm.trans hb)
structure vap (S T : TypeId) (k bytes : Nat) (Z : Value) : Prop where
 und:Tryz.prog.underlying S=some (.slice T)
 info:(Tryz.prog.info? T).map (fun i=>(i.zero,i.size,i.bytes))=some (some Z,k,bytes)
 cells:Z.cells.size=k
 pos:0 < k
 nodig:∀ u ∈ Z.cells.toList,uo u=false
theorem jb7 {S T:TypeId} {k bytes:Nat} {Z:Value} (R:vap S T k bytes Z) (n:Nat):∀ u ∈ (Builtin.zeroCells Z.cells n).toList,uo u=false:=by
 intro u hu;unfold Builtin.zeroCells at hu;simp only [paJ,pS] at hu;obtain ⟨i,-,rfl⟩:=hu;have hp:=R.pos;have af:i % Z.cells.size < Z.cells.size:=tg _ (by rw [R.cells]; exact hp);rw [getElem!_pos Z.cells (i % Z.cells.size) af];exact R.nodig _ (by simp)
def jl (T k base:Nat) (W:World) (v:Value) (n:Nat) (xs:List Value):Prop:=W.ownsRow base T k v n xs/\kbb W v
theorem jl.nil (T k base:Nat) (W:World):jl T k base W (.slice none 0 0) 0 []:=⟨World.ownsRow_nil _ _ _ _,fun R _ _ _ e=>by cases e⟩
section
variable {T k base base':Nat} {W W':World} {v:Value} {n:Nat} {xs:List Value}
theorem jl.own (h:jl T k base W v n xs) {R:Nat} (hR:v.ownBlock=some R):base<=R/\R < W.heap.size:=World.ownsRow.lt h.1 R hR
theorem jl.less (h:jl T k base W v n xs) (hb:base'<=base):jl T k base' W v n xs:=⟨xb0 h.1 hb,h.2⟩
theorem jl.len (h:jl T k base W v n xs):∃ A c,v=.slice A n c/\n<=c/\c<=9223372036854775807:=by
 obtain ⟨h3,⟨rfl,h0⟩ | ⟨g,cap,cur,rfl,hb,hg,hc,hm,-⟩⟩:=h.1
 · exact ⟨none,0,by rw [h0],by omega,by omega⟩
 · exact ⟨some ⟨g,0,none⟩,cap,rfl,hc,by unfold maxLen at hm; omega⟩
theorem jl.pos (h:jl T k base W v n xs) (hn:0 < n):∃ g c,v=.slice (some ⟨g,0,none⟩) n c/\n<=c/\c<=9223372036854775807/\base<=g/\g < W.heap.size/\∀ i,W.frozen? ⟨g,i,none⟩=false:=by
 obtain ⟨h3,⟨rfl,h0⟩ | ⟨g,cap,cur,rfl,hb,hg,hc,hm,-⟩⟩:=h.1
 · omega
 · exact ⟨g,cap,rfl,hc,by unfold maxLen at hm; omega,hb,(rB.1 hg).1,fun i=>by simp [World.frozen?,hg]⟩
theorem jl.xl (h:jl T k base W v n xs) (hb:∀ R,v.ownBlock=some R->W'.heap[R]?=W.heap[R]?):jl T k base W' v n xs:=by
 obtain ⟨⟨h1,h2⟩,h3⟩:=h;refine ⟨⟨h1,?_⟩,h3.ext hb⟩;rcases h2 with h2 | ⟨g,cap,cur,rfl,FQ,hg,h6⟩
 · exact .inl h2
 · exact .inr ⟨g,cap,cur,rfl,FQ,(hb g rfl).trans hg,h6⟩
theorem jl.ext (h:jl T k base W v n xs) (hx:Ext W W'):jl T k base W' v n xs:=h.xl fun R hR=>hx.below.block R (h.own hR).2
theorem jl.cell {g c:Nat} (h:jl T k base W (.slice (some ⟨g,0,none⟩) n c) n xs) (j:Nat) (hj:j < n * k):W.cell? ⟨g,j,none⟩=xs[j]?:=World.ownsRow.cellAt h.1 j hj
end
theorem jl.append {S T : TypeId} {k bytes : Nat} {Z : Value} (R : vap S T k bytes Z) {base : Nat} {W : World} {ov : Value} {n : Nat} {xs : List Value} (h : jl T k base W ov n xs) (di : base <= W.heap.size) (a : Addr) (m c : Nat) (news : List Value)
 (oI:news.length=m * k) (Cc:∀ j u,news[j]?=some u->W.cell? (a.add j)=some u) (h1:∀ u ∈ news,u.oneCell'=true/\uo u=false) (hm:0 < m) (hlen:(n+m) * bytes<=140737488355328) (hlen2:n+m<=140737488355328) (ty:TypeId) :
 ∃ v4 w4,(Builtin.append_ #[S,S] ty #[ov,.slice (some a) m c]).run Tryz.prog W=.ok v4 w4/\jl T k base w4 v4 (n+m) (xs ++ news)/\W.grownBy w4 ov.ownBlock/\(∀ v ds,jc W v ds->jc w4 v ds)/\(v4.ownBlock=ov.ownBlock\/v4.ownBlock=some W.heap.size):=by
 obtain ⟨o1,bP⟩:=h;obtain ⟨i0,hi,iV,iJ,iI⟩:=info_parts R.info;have hk:=R.pos;obtain ⟨v4,w4,ak,r1,r2,-,r3⟩:=run_append_own_at (P:=Tryz.prog) W base S ty T i0 Z k bytes R.und hi iV iJ iI R.cells hk ov n xs o1 a m c news oI Cc (fun u hu=>(h1 u hu).1) (by unfold maxLen; omega) hlen di;refine ⟨v4,w4,ak,⟨r1,?_⟩,r2,fun v ds hv=>kau hv r2 bP (yag o1),r3⟩;have fin:∀ (xs:List Value) (q:Nat) (w5:World) (l cap:Nat),(∀ u ∈ xs,uo u=false)->w5.heap.size=W.heap.size->kbb (w5.alloc (.cells (xs.toArray ++ news.toArray ++ Builtin.zeroCells Z.cells q) T)) (.slice (some ⟨W.heap.size,0,none⟩) l cap):=by
  intro xs q w5 l cap wI h5 R' cur T' fr hR hb u hu;have L8:W.heap.size=R':=by simpa [Value.ownBlock] using hR
  rw [<- L8,<- h5,heap_alloc_new] at hb;injection hb with hb
  injection hb with hb
  rw [<- hb] at hu;simp only [Array.toList_append,pT] at hu;rcases hu with (hu | hu) | hu
  · exact wI u hu
  · exact (h1 u hu).2
  · exact jb7 R q u hu
 have hold:∀ g cur,ov.ownBlock=some g->W.heap[g]?=some (.cells cur T (0,0))->∀ u ∈ cur.toList,uo u=false:=fun g cur e hb=>bP g cur _ _ e hb
 have jV:m<=m * bytes\/bytes=0:=by
  rcases tU bytes with h | h
  · exact .inr h
  · exact .inl (US _ h)
 rcases o1.2 with ⟨rfl,gX⟩ | ⟨g,cap,cur,rfl,FQ,hg,RF,gY,fD,wK⟩
 · subst gX;have hr:=run_append_nil (P:=Tryz.prog) W S ty T i0 _ R.und hi iV a m c news (by rw [iJ]; exact oI) Cc hm (by omega) (by rw [iI]; rw [ri] at hlen; omega);rw [ak] at hr;injection hr with e1 e2
   subst e1 e2;have:=fin [] (grownCap W m 0 T - m) W.drew m (grownCap W m 0 T) (by simp) rfl;simpa using this
 · by_cases rX:n+m<=cap
   · have aF:n * k+news.length<=cur.size:=by
      rw [fD,oI,<- r5];exact pE _ rX
     have hr:=run_append_room (P:=Tryz.prog) W S ty T i0 R.und hi g n cap cur hg a m c news (by rw [iJ]; exact oI) Cc (fun u hu=>(h1 u hu).1) rX (by rw [iJ]; exact aF);rw [ak] at hr;injection hr with e1 e2
     subst e1 e2;intro R' cur' T' fr hR hb u hu;have L8:g=R':=by simpa [Value.ownBlock] using hR
     rw [<- L8,setRow_heap W g cur _ _ _ hg] at hb;injection hb with hb
     injection hb with hb
     rw [<- hb] at hu;simp only [pT] at hu;rcases hu with (hu | hu) | hu
     · exact hold g cur rfl hg u (tl hu)
     · exact (h1 u hu).2
     · exact hold g cur rfl hg u (Sb hu)
   · have hr:=run_append_grow (P:=Tryz.prog) W S ty T i0 _ R.und hi iV ⟨g,0,none⟩ n cap xs (by rw [iJ]; exact o1.1) (o1.cells (g:=g) rfl) a m c news (by rw [iJ]; exact oI) Cc (by omega) (by omega) (growslice_fits (by omega) (by rw [iI]; exact hlen));rw [ak] at hr;injection hr with e1 e2
     subst e1 e2;exact fin xs _ W.drew _ _ (fun u hu=>hold g cur rfl hg u (tl (by rw [wK]; exact hu))) rfl
theorem jl.push {S T : TypeId} {k bytes : Nat} {Z : Value} (R : vap S T k bytes Z) {base : Nat} {W : World} {ov : Value} {n : Nat} {xs : List Value} (h : jl T k base W ov n xs) (di : base <= W.heap.size) (news : List Value)
 (oI:news.length=k) (h1:∀ u ∈ news,u.oneCell'=true/\uo u=false) (hlen:(n+1) * bytes<=140737488355328) (hlen2:n+1<=140737488355328) (ty:TypeId) :
 ∃ v4 w4,(Builtin.append_ #[S,S] ty #[ov,.slice (some ⟨W.heap.size,0,none⟩) 1 1]).run Tryz.prog (W.alloc (.cells news.toArray T))=.ok v4 w4/\jl T k base w4 v4 (n+1) (xs ++ news)/\W.grownBy w4 ov.ownBlock/\(∀ v ds,jc W v ds->jc w4 v ds)/\(v4.ownBlock=ov.ownBlock\/v4.ownBlock=some (W.heap.size+1)):=by
 have hx:Ext W (W.alloc (.cells news.toArray T)):=(Ext.refl W).alloc _;obtain ⟨v4,w4,e,h2,h3,h4,h5⟩:=jl.append R (h.ext hx) (by have:=hx.size; omega) ⟨W.heap.size,0,none⟩ 1 1 news (by omega) (fun j u hu=>by
  rw [uu,ri,cell_of_row _ _ j _ _ (0,0) (heap_alloc_new W _)]; simpa using hu) h1 (by omega) hlen hlen2 ty
 refine ⟨v4,w4,e,h2,⟨h3.os.trans hx.below.os,h3.tape.trans hx.below.tape,h3.output.trans hx.below.output,py hx.size h3.size,fun i hi au=>(rz h3 i (px hi hx.size) au).trans (hx.below.block i hi)⟩,fun v ds hv=>h4 v ds (hv.ext hx),?_⟩
 rwa [tP] at h5
end Go.Proofs.YtcepajijiabkmaaGreat
