/- Maps from strings to values of any type: what a block that is such a map holds, and what reading and writing it does. -/
import Derived.Test.YtcfcjabgkfehlaaGreatMf0
import Derived.Maps.Own
set_option linter.unusedSimpArgs false
set_option linter.unusedVariables false

namespace Go.Proofs.YtcfcjabgkfehlaaGreat
open Go.RowKit
def jaa (l:List (ByteArray × Value)) (s:ByteArray):Option Value:=match l with
 | []=>none
 | (k,v) :: r=>if s=k then some v else jaa r s
def gai (l:List (ByteArray × Value)) (s:ByteArray) (u:Value):List (ByteArray × Value):=match l with
 | []=>[(s,u)]
 | (k,v) :: r=>if s=k then (s,u) :: r else (k,v) :: gai r s u
theorem ubb (l:List (ByteArray × Value)) (s:ByteArray) (u:Value):jaa (gai l s u) s=some u:=by
 induction l with
 | nil=>simp [gai,jaa]
 | cons x r ih =>
   obtain ⟨k,v⟩:=x;unfold gai
   by_cases h:s=k
   · rw [if_pos h]; simp [jaa]
   · rw [if_neg h]; simp [jaa,h,ih]
theorem ja8 (l:List (ByteArray × Value)) (s t:ByteArray) (u:Value) (hne:t ≠ s):jaa (gai l s u) t=jaa l t:=by
 induction l with
 | nil=>simp [gai,jaa,hne]
 | cons x r ih =>
   obtain ⟨k,v⟩:=x;unfold gai
   by_cases h:s=k
   · rw [if_pos h]; subst h; simp [jaa,hne]
   · rw [if_neg h]; simp [jaa,ih]
theorem waz (l:List (ByteArray × Value)) (s t:ByteArray) (u:Value):jaa (gai l s u) t=if t=s then some u else jaa l t:=by
 by_cases h:t=s
 · rw [if_pos h,h,ubb]
 · rw [if_neg h,ja8 _ _ _ _ h]
def uy (w:World) (b:Nat) (l:List (ByteArray × Value)):Prop:=
 ∃ es clock,w.heap[b]?=some (.map es clock)/\es.toList.map (fun e=>(e.key,e.val))=l.map (fun x=>(Value.string x.1,x.2))
theorem uy.lt {w:World} {b:Nat} {l:List (ByteArray × Value)} (h:uy w b l):b < w.heap.size:=by
 obtain ⟨es,clock,hb,_⟩:=h;exact (Array.getElem?_eq_some_iff.1 hb).1
theorem uy.made (w:World):uy (w.alloc (.map #[] 0)) w.heap.size []:=⟨#[],0,heap_alloc_new w _,rfl⟩
theorem uy.ext {w w':World} {b:Nat} {l:List (ByteArray × Value)} (h:uy w b l) (hx:Ext w w'):uy w' b l:=by
 have hlt:=h.lt;obtain ⟨es,clock,hb,he⟩:=h;exact ⟨es,clock,(hx.below.block b hlt).trans hb,he⟩
theorem uy.alloc {w:World} {b:Nat} {l:List (ByteArray × Value)} (h:uy w b l) (o:Obj):uy (w.alloc o) b l:=h.ext ((Ext.refl w).alloc o)
theorem uy.setCell {w:World} {b:Nat} {l:List (ByteArray × Value)} (h:uy w b l) (p:Addr) (u:Value) (hne:b ≠ p.block):uy (w.setCell p u) b l:=by
 obtain ⟨es,clock,hb,he⟩:=h;exact ⟨es,clock,(Below.heap_setCell w p u b hne).trans hb,he⟩
theorem ua4 (s:ByteArray) (es:List MapEntry) (l:List (ByteArray × Value)) (h:es.map (fun e=>(e.key,e.val))=l.map (fun x=>(Value.string x.1,x.2))) :
 ∀ i,(Instr.findNow .string (.string s) es i=some none/\jaa l s=none/\(∀ u,gai l s u=l ++ [(s,u)])) \/
   ∃ k v,Instr.findNow .string (.string s) es i=some (some (i+k,v))/\jaa l s=some v/\(∀ u,gai l s u=l.set k (s,u))/\(es[k]?).map (·.key)=some (.string s)/\k < es.length:=by
 induction es generalizing l with
 | nil =>
   intro i
   have:l=[]:=by cases l with
    | nil=>rfl
    | cons x r=>simp at h
   subst this;exact .inl ⟨rfl,rfl,fun u=>rfl⟩
 | cons e es ih =>
   cases l with
   | nil=>simp at h
   | cons x r =>
     obtain ⟨k,v⟩:=x;simp only [List.map_cons,List.cons.injEq,Prod.mk.injEq] at h;obtain ⟨⟨hk,hv⟩,hr⟩:=h;intro i
     by_cases hs:s=k
     · subst hs;refine .inr ⟨0,v,?_,by simp [jaa],fun u=>by simp [gai],by simp [hk],by simp⟩;simp [Instr.findNow,hk,hv,Instr.sameNow,(MapKept.bytes_beq s s).2 rfl]
     · have hb:(s == k)=false:=by rw [Bool.eq_false_iff]; exact fun e=>hs ((MapKept.bytes_beq s k).1 e)
       rcases ih r hr (i+1) with ⟨h1,h2,h3⟩ | ⟨j,u,h1,h2,h3,h4,h5⟩
       · refine .inl ⟨by simp [Instr.findNow,hk,Instr.sameNow,hb,h1],by simp [jaa,hs,h2],fun u=>by simp [gai,hs,h3]⟩
       · refine .inr ⟨j+1,u,?_,by simp [jaa,hs,h2],fun u=>by simp [gai,hs,h3],by simpa using h4,by simp; omega⟩;simp [Instr.findNow,hk,Instr.sameNow,hb,h1]; omega
theorem za1 {P:Program} {k:TypeId} (hk:P.underlying k=some .string) (b:Bool) (n:Nat) (s:ByteArray) (w:World):(Instr.checkKey b (n+1) k (.string s)).run P w=.ok () w:=by
 simp [Instr.checkKey,run_underlying hk]
theorem uy.look {P:Program} {t k e:TypeId} {w:World} {b:Nat} {l:List (ByteArray × Value)} {z:Value} (h:uy w b l) (ht:P.underlying t=some (.map k e)) (hk:P.underlying k=some .string) (hz:(P.info? e).map (·.zero)=some (some z)) (s:ByteArray) (ok:Bool) :
 (Instr.lookup t (.map (some b)) (.string s) ok).run P w=.ok (if ok then .tuple #[(jaa l s).getD z,.bool (jaa l s).isSome] else (jaa l s).getD z) w:=by
 obtain ⟨es,clock,hb,he⟩:=h;obtain ⟨j,hj,hz'⟩:=Option.map_eq_some_iff.1 hz;have hg:=MapKept.run_getObj_map (P:=P) hb;have hck:=za1 hk es.isEmpty 9999 s w;have hzr:(zeroValue e).run P w=.ok z w:=by simp [zeroValue,typeInfo,hj,hz']
 rcases ua4 s es.toList l he 0 with ⟨h1,h2,-⟩ | ⟨i,v,h1,h2,-,-⟩
 · have hf:(Instr.findKey k (.string s) es.toList).run P w=.ok none w:=by simp [Instr.findKey,run_underlying hk,h1]
   simp only [Instr.lookup,h2];cases ok <;> simp [run_underlying ht,hg,hck,hf,hzr]
 · have hf:(Instr.findKey k (.string s) es.toList).run P w=.ok (some (0+i,v)) w:=by simp [Instr.findKey,run_underlying hk,h1]
   simp only [Instr.lookup,h2];cases ok <;> simp [run_underlying ht,hg,hck,hf]
theorem uy.put {P:Program} {t k e:TypeId} {w:World} {b:Nat} {l:List (ByteArray × Value)} (h:uy w b l) (ht:P.underlying t=some (.map k e)) (hk:P.underlying k=some .string) (s:ByteArray) (u:Value) :
 ∃ w',(Instr.mapUpdate t (.map (some b)) (.string s) u).run P w=.ok () w'/\uy w' b (gai l s u)/\Only b w w':=by
 have hlt:=h.lt;obtain ⟨es,clock,hb,he⟩:=h;have hg:=MapKept.run_getObj_map (P:=P) hb;have hck:=za1 hk false 9999 s w;have hon:∀ o,Only b w { w with heap:=w.heap.setIfInBounds b o }:=fun o=>⟨rfl,rfl,rfl,by simp,fun i hi hne=>by
  have:b ≠ i:=fun e=>hne (by rw [e])
  simp [Array.getElem?_setIfInBounds,this]⟩
 rcases ua4 s es.toList l he 0 with ⟨h1,-,h3⟩ | ⟨i,v,h1,-,h3,h4,h5⟩
 · have hf:(Instr.findKey k (.string s) es.toList).run P w=.ok none w:=by simp [Instr.findKey,run_underlying hk,h1]
   have hs:=MapKept.run_setObj_map (P:=P) (.map (es.push { key:=.string s,val:=u,born:=clock }) (clock+1)) hb;refine ⟨_,?_,?_,hon (.map (es.push { key:=.string s,val:=u,born:=clock }) (clock+1))⟩
   · simp [Instr.mapUpdate,run_underlying ht,hg,hck,hf,hs]
   · refine ⟨_,_,by simp [Array.getElem?_setIfInBounds,hlt]; exact ⟨rfl,rfl⟩,?_⟩;rw [h3];simpa using he
 · have hf:(Instr.findKey k (.string s) es.toList).run P w=.ok (some (0+i,v)) w:=by simp [Instr.findKey,run_underlying hk,h1]
   have hkey:(es[i]?).map (·.key)=some (.string s):=by simpa using h4
   have hst:(Instr.keyThatStays (.string s) (.string s)).run P w=.ok (.string s) w:=by
    simp [Instr.keyThatStays,Instr.sameBits,(MapKept.bytes_beq s s).2 rfl]
   have hs:=MapKept.run_setObj_map (P:=P) (.map (es.modify i fun e=>{ e with key:=.string s,val:=u }) clock) hb;refine ⟨_,?_,?_,hon (.map (es.modify i fun e=>{ e with key:=.string s,val:=u }) clock)⟩
   · simp [Instr.mapUpdate,run_underlying ht,hg,hck,hf,hkey,hst,hs]
   · refine ⟨_,_,by simp [Array.getElem?_setIfInBounds,hlt]; exact ⟨rfl,rfl⟩,?_⟩;rw [h3];apply List.ext_getElem?;intro j;have hej:=congrArg (fun L=>L[j]?) he;simp only [List.getElem?_map,Array.getElem?_toList] at hej;simp only [List.getElem?_map,Array.getElem?_toList,Array.getElem?_modify,List.getElem?_set]
     by_cases hij:i=j
     · subst hij;have hl:i < l.length:=by
        have:=congrArg List.length he;simp at this h5;omega
       have h5':i < es.size:=by simpa using h5
       simp [hl,h5']
     · simp [hij,hej]
end Go.Proofs.YtcfcjabgkfehlaaGreat
