/- Maps from monomials (arrays of four numbers) to values: what a block that is such a map holds, and what reading and writing it does. -/
import Derived.Test.YtcfcjabgkfehlaaGreatMap
import Derived.Test.YtcfcjabgkfehlaaGreatMf29
set_option linter.unusedSimpArgs false
set_option linter.unusedVariables false

namespace Go.Proofs.YtcfcjabgkfehlaaGreat
open Go.RowKit
def moV (m:Mo):Value:=.agg #[.int .i64 m.a,.int .i64 m.b,.int .i64 m.c,.int .i64 m.d]
def mog (l:List (Mo × Value)) (s:Mo):Option Value:=match l with
 | []=>none
 | (k,v) :: r=>if s=k then some v else mog r s
def mop (l:List (Mo × Value)) (s:Mo) (u:Value):List (Mo × Value):=match l with
 | []=>[(s,u)]
 | (k,v) :: r=>if s=k then (s,u) :: r else (k,v) :: mop r s u
def jae (w:World) (b:Nat) (l:List (Mo × Value)):Prop:=
 ∃ es clock,w.heap[b]?=some (.map es clock)/\es.toList.map (fun e=>(e.key,e.val))=l.map (fun x=>(moV x.1,x.2))
theorem jae.lt {w:World} {b:Nat} {l:List (Mo × Value)} (h:jae w b l):b < w.heap.size:=by
 obtain ⟨es,clock,hb,_⟩:=h;exact (Array.getElem?_eq_some_iff.1 hb).1
theorem jae.made (w:World):jae (w.alloc (.map #[] 0)) w.heap.size []:=⟨#[],0,heap_alloc_new w _,rfl⟩
theorem jae.block {w w':World} {b:Nat} {l:List (Mo × Value)} (h:jae w b l) (hx:w'.heap[b]?=w.heap[b]?):jae w' b l:=by
 obtain ⟨es,clock,hb,he⟩:=h;exact ⟨es,clock,hx.trans hb,he⟩
theorem jae.ext {w w':World} {b:Nat} {l:List (Mo × Value)} (h:jae w b l) (hx:Ext w w'):jae w' b l:=h.block (hx.below.block b h.lt)
theorem wb3 (m n:Mo) (w:World):(Op.equal 93 (moV m) (moV n)).run Tryz.prog w=.ok (decide (m=n)) w:=by
 obtain ⟨a,b,c,d⟩:=m;obtain ⟨a',b',c',d'⟩:=n;have hin:∀ (x y:Int) (k:Nat),(Op.equalIn (k+1) 3 (.int .i64 x) (.int .i64 y)).run Tryz.prog w=.ok (x == y) w:=by
  intro x y k;simp [Op.equalIn,run_underlying Tryz.underlying3]
 simp only [Mo.mk.injEq];unfold Op.equal Op.maxDepth moV;rw [show (10000:Nat)=9998+1+1 from rfl];have hp0:∀ (x0 x1 x2 x3:Int),(part 3 #[Value.int .i64 x0,.int .i64 x1,.int .i64 x2,.int .i64 x3] 0).run Tryz.prog w=.ok (.int .i64 x0) w/\(part 3 #[Value.int .i64 x0,.int .i64 x1,.int .i64 x2,.int .i64 x3] 1).run Tryz.prog w=.ok (.int .i64 x1) w/\(part 3 #[Value.int .i64 x0,.int .i64 x1,.int .i64 x2,.int .i64 x3] 2).run Tryz.prog w=.ok (.int .i64 x2) w/\(part 3 #[Value.int .i64 x0,.int .i64 x1,.int .i64 x2,.int .i64 x3] 3).run Tryz.prog w=.ok (.int .i64 x3) w:=by
  intro x0 x1 x2 x3;refine ⟨?_,?_,?_,?_⟩ <;> simp [part,Tryz.isAgg3]
 rw [Op.equalIn];simp only [Sem.run_bind,run_underlying Tryz.underlying93,Result.andThen_ok,Tryz.sizeOf3];simp only [Std.Legacy.Range.forIn_eq_forIn_range',Std.Legacy.Range.size,List.range',List.forIn_cons,Sem.run_bind,Nat.zero_mul,Nat.one_mul,Nat.mul_one,Nat.zero_add,Nat.add_zero,Nat.sub_zero,Nat.div_one,Nat.add_sub_cancel,hp0,Result.andThen_ok,hin]
 by_cases h1:a=a'
 · by_cases h2:b=b'
   · by_cases h3:c=c'
     · by_cases h4:d=d'
       · simp [h1,h2,h3,h4,hp0,hin]
       · simp [h1,h2,h3,h4,hp0,hin]
     · simp [h1,h2,h3,hp0,hin]
   · simp [h1,h2,hp0,hin]
 · simp [h1]
theorem jay (w:World) (m:Mo) (es:List MapEntry) (l:List (Mo × Value)) (h:es.map (fun e=>(e.key,e.val))=l.map (fun x=>(moV x.1,x.2))) :
 ∀ i,((Instr.findAsking 93 (moV m) es i).run Tryz.prog w=.ok none w/\mog l m=none/\(∀ u,mop l m u=l ++ [(m,u)])) \/
   ∃ k v,(Instr.findAsking 93 (moV m) es i).run Tryz.prog w=.ok (some (i+k,v)) w/\mog l m=some v/\(∀ u,mop l m u=l.set k (m,u))/\(es[k]?).map (·.key)=some (moV m)/\k < es.length:=by
 induction es generalizing l with
 | nil =>
   intro i
   have:l=[]:=by cases l with
    | nil=>rfl
    | cons x r=>simp at h
   subst this;exact .inl ⟨by simp [Instr.findAsking],rfl,fun u=>rfl⟩
 | cons e es ih =>
   cases l with
   | nil=>simp at h
   | cons x r =>
     obtain ⟨k,v⟩:=x;simp only [List.map_cons,List.cons.injEq,Prod.mk.injEq] at h;obtain ⟨⟨hk,hv⟩,hr⟩:=h;intro i;have he:=wb3 m k w
     by_cases hs:m=k
     · subst hs;refine .inr ⟨0,v,?_,by simp [mog],fun u=>by simp [mop],by simp [hk],by simp⟩;simp [Instr.findAsking,hk,hv,he]
     · rcases ih r hr (i+1) with ⟨h1,h2,h3⟩ | ⟨j,u,h1,h2,h3,h4,h5⟩
       · refine .inl ⟨by simp [Instr.findAsking,hk,he,hs,h1],by simp [mog,hs,h2],fun u=>by simp [mop,hs,h3]⟩
       · refine .inr ⟨j+1,u,?_,by simp [mog,hs,h2],fun u=>by simp [mop,hs,h3],by simpa using h4,by simp; omega⟩;simp [Instr.findAsking,hk,he,hs,h1]; omega
theorem ya9 (w:World) (m:Mo) (es:List MapEntry) (l:List (Mo × Value)) (h:es.map (fun e=>(e.key,e.val))=l.map (fun x=>(moV x.1,x.2))) :
 (Instr.findKey 93 (moV m) es).run Tryz.prog w=(Instr.findAsking 93 (moV m) es 0).run Tryz.prog w:=by
 unfold Instr.findKey;simp only [Sem.run_bind,run_underlying Tryz.underlying93,Result.andThen_ok];cases es with
 | nil=>simp [Instr.findNow,Instr.findAsking]
 | cons e es=>rfl
theorem wa4 (b:Bool) (m:Mo) (w:World):(Instr.checkKey b 10000 93 (moV m)).run Tryz.prog w=.ok () w:=by
 obtain ⟨x0,x1,x2,x3⟩:=m;have hin:∀ (k:Nat) (x:Int),(Instr.checkKey b (k+1) 3 (.int .i64 x)).run Tryz.prog w=.ok () w:=by
  intro k x;simp [Instr.checkKey,run_underlying Tryz.underlying3]
 rw [show (10000:Nat)=9998+1+1 from rfl];unfold moV;rw [Instr.checkKey];simp only [Sem.run_bind,run_underlying Tryz.underlying93,Result.andThen_ok,Tryz.sizeOf3];simp [Std.Legacy.Range.forIn_eq_forIn_range',Std.Legacy.Range.size,List.range',part,Tryz.isAgg3,Tryz.sizeOf3,hin]
theorem jae.look {w:World} {b:Nat} {l:List (Mo × Value)} (h:jae w b l) (s:Mo) (ok:Bool) :
 (Instr.lookup 185 (.map (some b)) (moV s) ok).run Tryz.prog w=.ok (if ok then .tuple #[(mog l s).getD (.int .i64 0),.bool (mog l s).isSome] else (mog l s).getD (.int .i64 0)) w:=by
 obtain ⟨es,clock,hb,he⟩:=h;have hg:=MapKept.run_getObj_map (P:=Tryz.prog) hb;have hck:=wa4 es.isEmpty s w;have hfk:=ya9 w s es.toList l he;have ht:=Tryz.underlying185;rcases jay w s es.toList l he 0 with ⟨h1,h2,-⟩ | ⟨i,v,h1,h2,-,-⟩
 · rw [h1] at hfk;simp only [Instr.lookup,h2];cases ok <;> simp [run_underlying ht,hg,hck,hfk,Tryz.zeroValue3]
 · rw [h1] at hfk;simp only [Instr.lookup,h2];cases ok <;> simp [run_underlying ht,hg,hck,hfk]
theorem jae.put {w:World} {b:Nat} {l:List (Mo × Value)} (h:jae w b l) (s:Mo) (u:Value) :
 ∃ w',(Instr.mapUpdate 185 (.map (some b)) (moV s) u).run Tryz.prog w=.ok () w'/\jae w' b (mop l s u)/\Only b w w':=by
 have hlt:=h.lt;obtain ⟨es,clock,hb,he⟩:=h;have hg:=MapKept.run_getObj_map (P:=Tryz.prog) hb;have hck:=wa4 false s w;have hfk:=ya9 w s es.toList l he;have ht:=Tryz.underlying185;have hon:∀ o,Only b w { w with heap:=w.heap.setIfInBounds b o }:=fun o=>⟨rfl,rfl,rfl,by simp,fun i hi hne=>by
  have:b ≠ i:=fun e=>hne (by rw [e])
  simp [Array.getElem?_setIfInBounds,this]⟩
 rcases jay w s es.toList l he 0 with ⟨h1,-,h3⟩ | ⟨i,v,h1,-,h3,h4,h5⟩
 · rw [h1] at hfk;have hs:=MapKept.run_setObj_map (P:=Tryz.prog) (.map (es.push { key:=moV s,val:=u,born:=clock }) (clock+1)) hb;refine ⟨_,?_,?_,hon (.map (es.push { key:=moV s,val:=u,born:=clock }) (clock+1))⟩
   · simp [Instr.mapUpdate,run_underlying ht,hg,hck,hfk,hs]
   · refine ⟨_,_,by simp [Array.getElem?_setIfInBounds,hlt]; exact ⟨rfl,rfl⟩,?_⟩;rw [h3];simpa using he
 · rw [h1] at hfk;have hkey:(es[i]?).map (·.key)=some (moV s):=by simpa using h4
   have hst:(Instr.keyThatStays (moV s) (moV s)).run Tryz.prog w=.ok (moV s) w:=by
    simp [Instr.keyThatStays,Instr.sameBits,moV]
   have hs:=MapKept.run_setObj_map (P:=Tryz.prog) (.map (es.modify i fun e=>{ e with key:=moV s,val:=u }) clock) hb;refine ⟨_,?_,?_,hon (.map (es.modify i fun e=>{ e with key:=moV s,val:=u }) clock)⟩
   · simp [Instr.mapUpdate,run_underlying ht,hg,hck,hfk,hkey,hst,hs]
   · refine ⟨_,_,by simp [Array.getElem?_setIfInBounds,hlt]; exact ⟨rfl,rfl⟩,?_⟩;rw [h3];apply List.ext_getElem?;intro j;have hej:=congrArg (fun L=>L[j]?) he;simp only [List.getElem?_map,Array.getElem?_toList] at hej;simp only [List.getElem?_map,Array.getElem?_toList,Array.getElem?_modify,List.getElem?_set]
     by_cases hij:i=j
     · subst hij;have hl:i < l.length:=by
        have:=congrArg List.length he;simp at this h5;omega
       have h5':i < es.size:=by simpa using h5
       simp [hl,h5']
     · simp [hij,hej]
end Go.Proofs.YtcfcjabgkfehlaaGreat
