/- Polynomials in four variables, plain: how sums and products lie level by level. No program in sight. -/
import Derived.Test.YtaedbimbbeploaaGreatDoorPRing
import Derived.Test.YtaedbimbbeploaaGreatDoorMb0
import Derived.Maps.Own
import Derived.Test.YtaedbimbbeploaaGreatDoorPNorm
set_option linter.unusedSimpArgs false
set_option linter.unusedVariables false
namespace Go.Proofs.YtaedbimbbeploaaGreatDoor
theorem Pl.mul_zero {p q:Pl} (hp:p.Can) (hq:q.Can) (h:∀ ρ,p.val ρ * q.val ρ=0):p=Pl.zero\/q=Pl.zero:=by
 obtain ⟨E,hE⟩:=Mo.le_sup (jc (p.terms Mo.one) ++ jc (q.terms Mo.one));have key:∀ r:Pl,r.Can->(∀ x ∈ jc (r.terms Mo.one),x.2.le E)->r ≠ Pl.zero->∀ B,qf (jc (r.terms Mo.one))+1<=B->r.val (kro (E+1) B) ≠ 0:=by
  intro r hr hle hne B hB h0;rw [<- Pl.terms_sval,<- yaq _ (vad r.terms_one_nonneg),ybk] at h0;refine xbx (ww _) (fun x hx=>(jr hx).1) E hle B hB (fun e=>hne ?_) (by exact_mod_cast h0);rw [<- Pl.nf_of_can hr];unfold Pl.nf Pl.ofS;rw [e]
  rfl
 by_cases h1:p=Pl.zero
 · exact .inl h1
 by_cases h2:q=Pl.zero
 · exact .inr h2
 exfalso
 have h3:=h (kro (E+1) (qf (jc (p.terms Mo.one))+qf (jc (q.terms Mo.one))+1));rcases Rat.mul_eq_zero.1 h3 with h4 | h4
 · exact key p hp (fun x hx=>hE x (List.mem_append_left _ hx)) h1 _ (by omega) h4
 · exact key q hq (fun x hx=>hE x (List.mem_append_right _ hx)) h2 _ (by omega) h4
theorem Pl.mul_eq_zero {p q:Pl} (hp:p.Can) (hq:q.Can) (h:p.mul q=Pl.zero):p=Pl.zero\/q=Pl.zero:=
 Pl.mul_zero hp hq fun ρ=>by rw [<- Pl.mul_val,h,Pl.zero_val]
theorem Pl.ofS_lv {l:Sp} {n:Nat} (hn4:n<=4) (hnn:∀ x ∈ l,x.2.nonneg) (h:∀ x ∈ l,∀ i:Nat,n < i->i<=4->x.2.get i=0):(Pl.ofS l).lv<=n:=by
 have hz:∀ i:Nat,0 < i->i<=4->Mo.one.get i=0:=fun i h1 h2=>by
  rcases (show i=1\/i=2\/i=3\/i=4 by omega) with rfl | rfl | rfl | rfl <;> rfl
 have ha:ka3 n Mo.one (jc l):=fun x hx i h1 h2=>by
  obtain ⟨-,y,hy,e⟩:=jr hx;rw [<- e,h y hy i h1 h2,hz i (by omega) h2]
 have hnn':∀ x ∈ jc l,x.2.nonneg:=fun x hx=>(jr hx).1
 obtain ⟨h1,h2⟩:=zby n hn4 (jc l) Mo.one (ww l) hnn' ha (fun i hi hin=>hz i hi (by omega));have h3:=ya8 n hn4 (jc l) Mo.one (ww l) hnn' ha (fun i hi hin=>hz i hi (by omega));have h4:bld n (jc l)=Pl.ofS l:=Pl.can_eq h1 (Pl.ofS_can l) fun k=>by
  rw [h3,Pl.ofS_coef,uam]
 rw [<- h4];exact h2
theorem Pl.exp_above {p:Pl} (hp:p.Can) {n:Nat} (h:p.lv<=n):∀ x ∈ p.terms Mo.one,∀ i:Nat,n < i->i<=4->x.2.get i=0:=fun x hx i h1 h2=>by
 rw [Pl.terms_above p Mo.one n hp h x hx i h1 h2];rcases (show i=1\/i=2\/i=3\/i=4 by omega) with rfl | rfl | rfl | rfl <;> rfl
theorem Mo.get_mul (m n:Mo) (i:Int):(m.mul n).get i=m.get i+n.get i:=by
 unfold Mo.mul Mo.get
 split <;> (try split) <;> (try split) <;> rfl
theorem Pl.mul_lv {p q:Pl} (hp:p.Can) (hq:q.Can) {n:Int} (h1:p.lv<=n) (h2:q.lv<=n) (hn:n<=4):(p.mul q).lv<=n:=by
 have h0:=hp.lv_nonneg.1;obtain ⟨k,rfl⟩:∃ k:Nat,n=k:=⟨n.toNat,by omega⟩;refine Pl.ofS_lv (by omega) (wa3 p.terms_one_nonneg q.terms_one_nonneg) fun x hx i hi hi4=>?_
 obtain ⟨y,hy,z,hz,rfl⟩:=ua6 hx;rw [Mo.get_mul,Pl.exp_above hp h1 y hy i hi hi4,Pl.exp_above hq h2 z hz i hi hi4]
 rfl
theorem Pl.mul_comm (p q:Pl):p.mul q=q.mul p:=Pl.val_uniq (Pl.mul_can _ _) (Pl.mul_can _ _) fun ρ=>by rw [Pl.mul_val,Pl.mul_val]; grind
theorem Pl.mul_zero_l (p:Pl):Pl.zero.mul p=Pl.zero:=Pl.zero_of_val (Pl.mul_can _ _) fun ρ=>by rw [Pl.mul_val,Pl.zero_val]; grind
theorem Pl.mul_zero_r (p:Pl):p.mul Pl.zero=Pl.zero:=by rw [Pl.mul_comm,Pl.mul_zero_l]
theorem Pl.const_mul (a b:Int):(Pl.const a).mul (Pl.const b)=Pl.const (a * b):=Pl.val_uniq (Pl.mul_can _ _) (kad _) fun ρ=>by
 rw [Pl.mul_val,Pl.const_val,Pl.const_val,Pl.const_val]; push_cast; rfl
theorem qaw {p:Pl} (h:p.Can) (hl:p.lv=0):p=Pl.const p.z:=by
 obtain ⟨l,n,d,cs⟩:=p
 change l=0 at hl
 subst hl;unfold Pl.Can at h;rcases h with ⟨-,rfl,hd,hn⟩ | h
 · show _=Pl.const (sgn n (val d));unfold Pl.const;rw [qp,<- hd]
   congr 1
   cases n
   · simp [sgn]
   · have h1:d ≠ []:=fun e=>by have:=hn e; cases this
     have h2:val d ≠ 0:=fun e=>h1 (by rw [hd,e,qm])
     simp only [sgn];simp;omega
 · omega
theorem ub8 (ρ:Int->Rat) (l:Int) (f:Pl->Pl) (r:Rat) (cs:List Pl) (h:∀ c ∈ cs,(f c).val ρ=c.val ρ * r):qh ρ l (cs.map f)=qh ρ l cs * r:=by
 induction cs with
 | nil=>simp [qh]
 | cons x cs ih =>
   simp only [List.map_cons,qh];rw [h x (by simp),ih fun c hc=>h c (by simp [hc])]
   grind
theorem Pl.mk_val (ρ:Int->Rat) {l:Int} (n:Bool) (d:List Nat) (cs:List Pl) (h0:0 < l) (h4:l<=4):(Pl.mk l n d cs).val ρ=qh ρ l cs:=by
 rw [Pl.val,if_neg (by omega),if_neg (by omega)]
theorem ua0 {l:Int} {cs:List Pl} (h0:0 < l) (h4:l<=4) (h2:2<=cs.length) (hk:zt l cs) (hz:cs.getLast? ≠ some Pl.zero):(Pl.mk l false [] cs).Can:=by
 unfold Pl.Can;exact .inr ⟨by omega,h4,rfl,rfl,h2,hk,hz⟩
theorem Pl.mul_up {l:Int} {n:Bool} {d:List Nat} {cs:List Pl} {q:Pl} (hp:(Pl.mk l n d cs).Can) (hq:q.Can) (hl:q.lv < l) (hz:q ≠ Pl.zero):(Pl.mk l n d cs).mul q=.mk l false [] (cs.map fun c=>c.mul q):=by
 have hl0:0 < l:=by have:=hq.lv_nonneg.1; omega
 obtain ⟨rfl,rfl,h2,hk,hlast⟩:=hp.kids hl0;have hl4:l<=4:=hp.lv_nonneg.2;refine Pl.val_uniq (Pl.mul_can _ _) (ua0 hl0 hl4 (by rw [List.length_map]; exact h2) (wag fun c hc=>?_) ?_) fun ρ=>?_
 · obtain ⟨c',hc',rfl⟩:=List.mem_map.1 hc;have h3:=hk.mem c' hc';have:=Pl.mul_lv (n:=l - 1) h3.2 hq (by omega) (by omega) (by omega);exact ⟨by omega,Pl.mul_can _ _⟩
 · rw [List.getLast?_map];intro e;obtain ⟨c,hc,he⟩:=Option.map_eq_some_iff.1 e;rcases Pl.mul_eq_zero (hk.mem c (List.mem_of_getLast? hc)).2 hq he with h | h
   · rw [h] at hc; exact hlast hc
   · exact hz h
 · rw [Pl.mul_val,Pl.mk_val ρ _ _ _ hl0 hl4,Pl.mk_val ρ _ _ _ hl0 hl4,ub8 ρ l _ (q.val ρ) cs fun c _=>Pl.mul_val ρ c q]
theorem Pl.mul_up_ {p q:Pl} (hp:p.Can) (hq:q.Can) (hl:q.lv < p.lv) (hz:q ≠ Pl.zero):p.mul q=.mk p.lv false [] (p.cs.map fun c=>c.mul q):=by
 obtain ⟨l,n,d,cs⟩:=p;exact Pl.mul_up hp hq hl hz
def gu : List Pl -> List Pl
 | []=>[]
 | c :: r=>if c.isZ=true/\gu r=[] then [] else c :: gu r
def gaf (l:Int) (cs:List Pl):Pl:=
 match gu cs with
 | []=>Pl.zero
 | [c]=>c
 | c :: d :: r=>.mk l false [] (c :: d :: r)
theorem ubs {a:List Pl} {x:Pl} (h:x.isZ=true):gu (a ++ [x])=gu a:=by
 induction a with
 | nil=>simp [gu,h]
 | cons y a ih=>rw [List.cons_append,gu,gu,ih]
theorem gb6 {a:List Pl} {x:Pl} (h:x.isZ=false):gu (a ++ [x])=a ++ [x]:=by
 induction a with
 | nil=>simp [gu,h]
 | cons y a ih=>rw [List.cons_append,gu,ih,if_neg (by simp)]
theorem ka6 {l:Int} {cs:List Pl} {n:Nat} (hn:n<=cs.length) (h:gu cs=cs.take n):gaf l cs=if n=0 then Pl.zero else if h1:n=1/\0 < cs.length then cs[0]'h1.2 else .mk l false [] (cs.take n):=by
 unfold gaf;rw [h]
 match n,cs,hn with
 | 0,cs,_=>simp
 | 1,x :: cs,_=>simp
 | n+2,x :: y :: cs,_=>simp
theorem vbz {cs:List Pl} {c:Pl} (h:c ∈ gu cs):c ∈ cs:=by
 induction cs with
 | nil=>exact h
 | cons x cs ih =>
   rw [gu] at h
   split at h
   · cases h
   · rcases List.mem_cons.1 h with rfl | h
     · exact List.mem_cons_self ..
     · exact List.mem_cons_of_mem _ (ih h)
theorem gbs {cs:List Pl} (hc:∀ c ∈ cs,c.Can):(gu cs).getLast? ≠ some Pl.zero:=by
 induction cs with
 | nil=>simp [gu]
 | cons x cs ih =>
   rw [gu]
   split
   · simp
   · rename_i h;intro e
     by_cases h1:gu cs=[]
     · rw [h1] at e;have e1:x=Pl.zero:=by simpa using e
       exact h ⟨(Pl.zero_isZ (hc x (by simp))).2 e1,h1⟩
     · obtain ⟨y,r,hr⟩:=List.exists_cons_of_ne_nil h1;rw [hr,List.getLast?_cons_cons,<- hr] at e;exact ih (fun c hcm=>hc c (by simp [hcm])) e
theorem kbz (ρ:Int->Rat) (l:Int) {cs:List Pl} (hc:∀ c ∈ cs,c.Can):qh ρ l (gu cs)=qh ρ l cs:=by
 induction cs with
 | nil=>rfl
 | cons x cs ih =>
   have h1:=ih fun c hcm=>hc c (by simp [hcm])
   rw [gu]
   split
   · rename_i h;rw [qh,qh,<- h1,h.2,(Pl.zero_isZ (hc x (by simp))).1 h.1,Pl.zero_val,qh]
     grind
   · rw [qh,qh,h1]
theorem qbe {l:Int} {cs:List Pl} (h0:0 < l) (h4:l<=4) (hk:zt l cs):(gaf l cs).Can/\(gaf l cs).lv<=l/\∀ ρ,(gaf l cs).val ρ=qh ρ l cs:=by
 have hc:∀ c ∈ cs,c.Can:=fun c hcm=>(hk.mem c hcm).2
 have hlast:=gbs hc;have hval:=fun ρ=>kbz ρ l hc
 have hmem:∀ c ∈ gu cs,c.lv < l/\c.Can:=fun c hcm=>hk.mem c (vbz hcm)
 unfold gaf
 split
 · rename_i e;rw [e] at hval;exact ⟨Pl.zero_can,by show (0:Int)<=l; omega,fun ρ=>by rw [<- hval ρ,Pl.zero_val,qh]⟩
 · rename_i c e;rw [e] at hval hmem;have h1:=hmem c (by simp);exact ⟨h1.2,by omega,fun ρ=>by rw [<- hval ρ,qh,qh]; grind⟩
 · rename_i c d r e;rw [e] at hval hmem hlast;exact ⟨ua0 h0 h4 (by simp) (wag hmem) hlast,Int.le_refl _,fun ρ=>by rw [<- hval ρ,Pl.mk_val ρ _ _ _ h0 h4]⟩
/- Maps from strings to values of any type: what a block that is such a map holds, and what reading and writing it does. -/
open Go.RowKit
def qaa (l:List (ByteArray × Value)) (s:ByteArray):Option Value:=match l with
 | []=>none
 | (k,v) :: r=>if s=k then some v else qaa r s
def qai (l:List (ByteArray × Value)) (s:ByteArray) (u:Value):List (ByteArray × Value):=match l with
 | []=>[(s,u)]
 | (k,v) :: r=>if s=k then (s,u) :: r else (k,v) :: qai r s u
theorem gbc (l:List (ByteArray × Value)) (s:ByteArray) (u:Value):qaa (qai l s u) s=some u:=by
 induction l with
 | nil=>simp [qai,qaa]
 | cons x r ih =>
   obtain ⟨k,v⟩:=x;unfold qai
   by_cases h:s=k
   · rw [if_pos h]; simp [qaa]
   · rw [if_neg h]; simp [qaa,h,ih]
theorem wa9 (l:List (ByteArray × Value)) (s t:ByteArray) (u:Value) (hne:t ≠ s):qaa (qai l s u) t=qaa l t:=by
 induction l with
 | nil=>simp [qai,qaa,hne]
 | cons x r ih =>
   obtain ⟨k,v⟩:=x;unfold qai
   by_cases h:s=k
   · rw [if_pos h]; subst h; simp [qaa,hne]
   · rw [if_neg h]; simp [qaa,ih]
theorem ga0 (l:List (ByteArray × Value)) (s t:ByteArray) (u:Value):qaa (qai l s u) t=if t=s then some u else qaa l t:=by
 by_cases h:t=s
 · rw [if_pos h,h,gbc]
 · rw [if_neg h,wa9 _ _ _ _ h]
def zq (w:World) (b:Nat) (l:List (ByteArray × Value)):Prop:=
 ∃ es clock,w.heap[b]?=some (.map es clock)/\es.toList.map (fun e=>(e.key,e.val))=l.map (fun x=>(Value.string x.1,x.2))
theorem zq.lt {w:World} {b:Nat} {l:List (ByteArray × Value)} (h:zq w b l):b < w.heap.size:=by
 obtain ⟨es,clock,hb,_⟩:=h;exact (Array.getElem?_eq_some_iff.1 hb).1
theorem zq.made (w:World):zq (w.alloc (.map #[] 0)) w.heap.size []:=⟨#[],0,heap_alloc_new w _,rfl⟩
theorem zq.ext {w w':World} {b:Nat} {l:List (ByteArray × Value)} (h:zq w b l) (hx:Ext w w'):zq w' b l:=by
 have hlt:=h.lt;obtain ⟨es,clock,hb,he⟩:=h;exact ⟨es,clock,(hx.below.block b hlt).trans hb,he⟩
theorem zq.alloc {w:World} {b:Nat} {l:List (ByteArray × Value)} (h:zq w b l) (o:Obj):zq (w.alloc o) b l:=h.ext ((Ext.refl w).alloc o)
theorem zq.setCell {w:World} {b:Nat} {l:List (ByteArray × Value)} (h:zq w b l) (p:Addr) (u:Value) (hne:b ≠ p.block):zq (w.setCell p u) b l:=by
 obtain ⟨es,clock,hb,he⟩:=h;exact ⟨es,clock,(Below.heap_setCell w p u b hne).trans hb,he⟩
theorem ga5 (s:ByteArray) (es:List MapEntry) (l:List (ByteArray × Value)) (h:es.map (fun e=>(e.key,e.val))=l.map (fun x=>(Value.string x.1,x.2))) :
 ∀ i,(Instr.findNow .string (.string s) es i=some none/\qaa l s=none/\(∀ u,qai l s u=l ++ [(s,u)])) \/
   ∃ k v,Instr.findNow .string (.string s) es i=some (some (i+k,v))/\qaa l s=some v/\(∀ u,qai l s u=l.set k (s,u))/\(es[k]?).map (·.key)=some (.string s)/\k < es.length:=by
 induction es generalizing l with
 | nil =>
   intro i
   have:l=[]:=by cases l with
    | nil=>rfl
    | cons x r=>simp at h
   subst this;exact .inl ⟨rfl,rfl,fun u=>rfl⟩
 | cons e es ih =>
   cases l with
   | nil=>simp at h
   | cons x r =>
     obtain ⟨k,v⟩:=x;simp only [List.map_cons,List.cons.injEq,Prod.mk.injEq] at h;obtain ⟨⟨hk,hv⟩,hr⟩:=h;intro i
     by_cases hs:s=k
     · subst hs;refine .inr ⟨0,v,?_,by simp [qaa],fun u=>by simp [qai],by simp [hk],by simp⟩;simp [Instr.findNow,hk,hv,Instr.sameNow,(MapKept.bytes_beq s s).2 rfl]
     · have hb:(s == k)=false:=by rw [Bool.eq_false_iff]; exact fun e=>hs ((MapKept.bytes_beq s k).1 e)
       rcases ih r hr (i+1) with ⟨h1,h2,h3⟩ | ⟨j,u,h1,h2,h3,h4,h5⟩
       · refine .inl ⟨by simp [Instr.findNow,hk,Instr.sameNow,hb,h1],by simp [qaa,hs,h2],fun u=>by simp [qai,hs,h3]⟩
       · refine .inr ⟨j+1,u,?_,by simp [qaa,hs,h2],fun u=>by simp [qai,hs,h3],by simpa using h4,by simp; omega⟩;simp [Instr.findNow,hk,Instr.sameNow,hb,h1]; omega
theorem ya2 {P:Program} {k:TypeId} (hk:P.underlying k=some .string) (b:Bool) (n:Nat) (s:ByteArray) (w:World):(Instr.checkKey b (n+1) k (.string s)).run P w=.ok () w:=by
 simp [Instr.checkKey,run_underlying hk]
theorem zq.look {P:Program} {t k e:TypeId} {w:World} {b:Nat} {l:List (ByteArray × Value)} {z:Value} (h:zq w b l) (ht:P.underlying t=some (.map k e)) (hk:P.underlying k=some .string) (hz:(P.info? e).map (·.zero)=some (some z)) (s:ByteArray) (ok:Bool) :
 (Instr.lookup t (.map (some b)) (.string s) ok).run P w=.ok (if ok then .tuple #[(qaa l s).getD z,.bool (qaa l s).isSome] else (qaa l s).getD z) w:=by
 obtain ⟨es,clock,hb,he⟩:=h;obtain ⟨j,hj,hz'⟩:=Option.map_eq_some_iff.1 hz;have hg:=MapKept.run_getObj_map (P:=P) hb;have hck:=ya2 hk es.isEmpty 9999 s w;have hzr:(zeroValue e).run P w=.ok z w:=by simp [zeroValue,typeInfo,hj,hz']
 rcases ga5 s es.toList l he 0 with ⟨h1,h2,-⟩ | ⟨i,v,h1,h2,-,-⟩
 · have hf:(Instr.findKey k (.string s) es.toList).run P w=.ok none w:=by simp [Instr.findKey,run_underlying hk,h1]
   simp only [Instr.lookup,h2];cases ok <;> simp [run_underlying ht,hg,hck,hf,hzr]
 · have hf:(Instr.findKey k (.string s) es.toList).run P w=.ok (some (0+i,v)) w:=by simp [Instr.findKey,run_underlying hk,h1]
   simp only [Instr.lookup,h2];cases ok <;> simp [run_underlying ht,hg,hck,hf]
theorem zq.put {P:Program} {t k e:TypeId} {w:World} {b:Nat} {l:List (ByteArray × Value)} (h:zq w b l) (ht:P.underlying t=some (.map k e)) (hk:P.underlying k=some .string) (s:ByteArray) (u:Value) :
 ∃ w',(Instr.mapUpdate t (.map (some b)) (.string s) u).run P w=.ok () w'/\zq w' b (qai l s u)/\Only b w w':=by
 have hlt:=h.lt;obtain ⟨es,clock,hb,he⟩:=h;have hg:=MapKept.run_getObj_map (P:=P) hb;have hck:=ya2 hk false 9999 s w;have hon:∀ o,Only b w { w with heap:=w.heap.setIfInBounds b o }:=fun o=>⟨rfl,rfl,rfl,by simp,fun i hi hne=>by
  have:b ≠ i:=fun e=>hne (by rw [e])
  simp [Array.getElem?_setIfInBounds,this]⟩
 rcases ga5 s es.toList l he 0 with ⟨h1,-,h3⟩ | ⟨i,v,h1,-,h3,h4,h5⟩
 · have hf:(Instr.findKey k (.string s) es.toList).run P w=.ok none w:=by simp [Instr.findKey,run_underlying hk,h1]
   have hs:=MapKept.run_setObj_map (P:=P) (.map (es.push { key:=.string s,val:=u,born:=clock }) (clock+1)) hb;refine ⟨_,?_,?_,hon (.map (es.push { key:=.string s,val:=u,born:=clock }) (clock+1))⟩
   · simp [Instr.mapUpdate,run_underlying ht,hg,hck,hf,hs]
   · refine ⟨_,_,by simp [Array.getElem?_setIfInBounds,hlt]; exact ⟨rfl,rfl⟩,?_⟩;rw [h3];simpa using he
 · have hf:(Instr.findKey k (.string s) es.toList).run P w=.ok (some (0+i,v)) w:=by simp [Instr.findKey,run_underlying hk,h1]
   have hkey:(es[i]?).map (·.key)=some (.string s):=by simpa using h4
   have hst:(Instr.keyThatStays (.string s) (.string s)).run P w=.ok (.string s) w:=by
    simp [Instr.keyThatStays,Instr.sameBits,(MapKept.bytes_beq s s).2 rfl]
   have hs:=MapKept.run_setObj_map (P:=P) (.map (es.modify i fun e=>{ e with key:=.string s,val:=u }) clock) hb;refine ⟨_,?_,?_,hon (.map (es.modify i fun e=>{ e with key:=.string s,val:=u }) clock)⟩
   · simp [Instr.mapUpdate,run_underlying ht,hg,hck,hf,hkey,hst,hs]
   · refine ⟨_,_,by simp [Array.getElem?_setIfInBounds,hlt]; exact ⟨rfl,rfl⟩,?_⟩;rw [h3];apply List.ext_getElem?;intro j;have hej:=congrArg (fun L=>L[j]?) he;simp only [List.getElem?_map,Array.getElem?_toList] at hej;simp only [List.getElem?_map,Array.getElem?_toList,Array.getElem?_modify,List.getElem?_set]
     by_cases hij:i=j
     · subst hij;have hl:i < l.length:=by
        have:=congrArg List.length he;simp at this h5;omega
       have h5':i < es.size:=by simpa using h5
       simp [hl,h5']
     · simp [hij,hej]
/- Maps from monomials (arrays of four numbers) to values: what a block that is such a map holds, and what reading and writing it does. -/
def moV (m:Mo):Value:=.agg #[.int .i64 m.a,.int .i64 m.b,.int .i64 m.c,.int .i64 m.d]
def mog (l:List (Mo × Value)) (s:Mo):Option Value:=match l with
 | []=>none
 | (k,v) :: r=>if s=k then some v else mog r s
def mop (l:List (Mo × Value)) (s:Mo) (u:Value):List (Mo × Value):=match l with
 | []=>[(s,u)]
 | (k,v) :: r=>if s=k then (s,u) :: r else (k,v) :: mop r s u
def qaf (w:World) (b:Nat) (l:List (Mo × Value)):Prop:=
 ∃ es clock,w.heap[b]?=some (.map es clock)/\es.toList.map (fun e=>(e.key,e.val))=l.map (fun x=>(moV x.1,x.2))
theorem qaf.lt {w:World} {b:Nat} {l:List (Mo × Value)} (h:qaf w b l):b < w.heap.size:=by
 obtain ⟨es,clock,hb,_⟩:=h;exact (Array.getElem?_eq_some_iff.1 hb).1
theorem qaf.made (w:World):qaf (w.alloc (.map #[] 0)) w.heap.size []:=⟨#[],0,heap_alloc_new w _,rfl⟩
theorem qaf.block {w w':World} {b:Nat} {l:List (Mo × Value)} (h:qaf w b l) (hx:w'.heap[b]?=w.heap[b]?):qaf w' b l:=by
 obtain ⟨es,clock,hb,he⟩:=h;exact ⟨es,clock,hx.trans hb,he⟩
theorem qaf.ext {w w':World} {b:Nat} {l:List (Mo × Value)} (h:qaf w b l) (hx:Ext w w'):qaf w' b l:=h.block (hx.below.block b h.lt)
theorem jb7 (m n:Mo) (w:World):(Op.equal 188 (moV m) (moV n)).run Tryz.prog w=.ok (decide (m=n)) w:=by
 obtain ⟨a,b,c,d⟩:=m;obtain ⟨a',b',c',d'⟩:=n;have hin:∀ (x y:Int) (k:Nat),(Op.equalIn (k+1) 3 (.int .i64 x) (.int .i64 y)).run Tryz.prog w=.ok (x == y) w:=by
  intro x y k;simp [Op.equalIn,run_underlying Tryz.underlying3]
 simp only [Mo.mk.injEq];unfold Op.equal Op.maxDepth moV;rw [show (10000:Nat)=9998+1+1 from rfl];have hp0:∀ (x0 x1 x2 x3:Int),(part 3 #[Value.int .i64 x0,.int .i64 x1,.int .i64 x2,.int .i64 x3] 0).run Tryz.prog w=.ok (.int .i64 x0) w/\(part 3 #[Value.int .i64 x0,.int .i64 x1,.int .i64 x2,.int .i64 x3] 1).run Tryz.prog w=.ok (.int .i64 x1) w/\(part 3 #[Value.int .i64 x0,.int .i64 x1,.int .i64 x2,.int .i64 x3] 2).run Tryz.prog w=.ok (.int .i64 x2) w/\(part 3 #[Value.int .i64 x0,.int .i64 x1,.int .i64 x2,.int .i64 x3] 3).run Tryz.prog w=.ok (.int .i64 x3) w:=by
  intro x0 x1 x2 x3;refine ⟨?_,?_,?_,?_⟩ <;> simp [part,Tryz.isAgg3]
 rw [Op.equalIn];simp only [Sem.run_bind,run_underlying Tryz.underlying188,Result.andThen_ok,Tryz.sizeOf3];simp only [Std.Legacy.Range.forIn_eq_forIn_range',Std.Legacy.Range.size,List.range',List.forIn_cons,Sem.run_bind,Nat.zero_mul,Nat.one_mul,Nat.mul_one,Nat.zero_add,Nat.add_zero,Nat.sub_zero,Nat.div_one,Nat.add_sub_cancel,hp0,Result.andThen_ok,hin]
 by_cases h1:a=a'
 · by_cases h2:b=b'
   · by_cases h3:c=c'
     · by_cases h4:d=d'
       · simp [h1,h2,h3,h4,hp0,hin]
       · simp [h1,h2,h3,h4,hp0,hin]
     · simp [h1,h2,h3,hp0,hin]
   · simp [h1,h2,hp0,hin]
 · simp [h1]
theorem kaz (w:World) (m:Mo) (es:List MapEntry) (l:List (Mo × Value)) (h:es.map (fun e=>(e.key,e.val))=l.map (fun x=>(moV x.1,x.2))) :
 ∀ i,((Instr.findAsking 188 (moV m) es i).run Tryz.prog w=.ok none w/\mog l m=none/\(∀ u,mop l m u=l ++ [(m,u)])) \/
   ∃ k v,(Instr.findAsking 188 (moV m) es i).run Tryz.prog w=.ok (some (i+k,v)) w/\mog l m=some v/\(∀ u,mop l m u=l.set k (m,u))/\(es[k]?).map (·.key)=some (moV m)/\k < es.length:=by
 induction es generalizing l with
 | nil =>
   intro i
   have:l=[]:=by cases l with
    | nil=>rfl
    | cons x r=>simp at h
   subst this;exact .inl ⟨by simp [Instr.findAsking],rfl,fun u=>rfl⟩
 | cons e es ih =>
   cases l with
   | nil=>simp at h
   | cons x r =>
     obtain ⟨k,v⟩:=x;simp only [List.map_cons,List.cons.injEq,Prod.mk.injEq] at h;obtain ⟨⟨hk,hv⟩,hr⟩:=h;intro i;have he:=jb7 m k w
     by_cases hs:m=k
     · subst hs;refine .inr ⟨0,v,?_,by simp [mog],fun u=>by simp [mop],by simp [hk],by simp⟩;simp [Instr.findAsking,hk,hv,he]
     · rcases ih r hr (i+1) with ⟨h1,h2,h3⟩ | ⟨j,u,h1,h2,h3,h4,h5⟩
       · refine .inl ⟨by simp [Instr.findAsking,hk,he,hs,h1],by simp [mog,hs,h2],fun u=>by simp [mop,hs,h3]⟩
       · refine .inr ⟨j+1,u,?_,by simp [mog,hs,h2],fun u=>by simp [mop,hs,h3],by simpa using h4,by simp; omega⟩;simp [Instr.findAsking,hk,he,hs,h1]; omega
theorem wba (w:World) (m:Mo) (es:List MapEntry) (l:List (Mo × Value)) (h:es.map (fun e=>(e.key,e.val))=l.map (fun x=>(moV x.1,x.2))) :
 (Instr.findKey 188 (moV m) es).run Tryz.prog w=(Instr.findAsking 188 (moV m) es 0).run Tryz.prog w:=by
 unfold Instr.findKey;simp only [Sem.run_bind,run_underlying Tryz.underlying188,Result.andThen_ok];cases es with
 | nil=>simp [Instr.findNow,Instr.findAsking]
 | cons e es=>rfl
theorem za6 (b:Bool) (m:Mo) (w:World):(Instr.checkKey b 10000 188 (moV m)).run Tryz.prog w=.ok () w:=by
 obtain ⟨x0,x1,x2,x3⟩:=m;have hin:∀ (k:Nat) (x:Int),(Instr.checkKey b (k+1) 3 (.int .i64 x)).run Tryz.prog w=.ok () w:=by
  intro k x;simp [Instr.checkKey,run_underlying Tryz.underlying3]
 rw [show (10000:Nat)=9998+1+1 from rfl];unfold moV;rw [Instr.checkKey];simp only [Sem.run_bind,run_underlying Tryz.underlying188,Result.andThen_ok,Tryz.sizeOf3];simp [Std.Legacy.Range.forIn_eq_forIn_range',Std.Legacy.Range.size,List.range',part,Tryz.isAgg3,Tryz.sizeOf3,hin]
theorem qaf.look {w:World} {b:Nat} {l:List (Mo × Value)} (h:qaf w b l) (s:Mo) (ok:Bool) :
 (Instr.lookup 229 (.map (some b)) (moV s) ok).run Tryz.prog w=.ok (if ok then .tuple #[(mog l s).getD (.int .i64 0),.bool (mog l s).isSome] else (mog l s).getD (.int .i64 0)) w:=by
 obtain ⟨es,clock,hb,he⟩:=h;have hg:=MapKept.run_getObj_map (P:=Tryz.prog) hb;have hck:=za6 es.isEmpty s w;have hfk:=wba w s es.toList l he;have ht:=Tryz.underlying229;rcases kaz w s es.toList l he 0 with ⟨h1,h2,-⟩ | ⟨i,v,h1,h2,-,-⟩
 · rw [h1] at hfk;simp only [Instr.lookup,h2];cases ok <;> simp [run_underlying ht,hg,hck,hfk,Tryz.zeroValue3]
 · rw [h1] at hfk;simp only [Instr.lookup,h2];cases ok <;> simp [run_underlying ht,hg,hck,hfk]
theorem qaf.put {w:World} {b:Nat} {l:List (Mo × Value)} (h:qaf w b l) (s:Mo) (u:Value) :
 ∃ w',(Instr.mapUpdate 229 (.map (some b)) (moV s) u).run Tryz.prog w=.ok () w'/\qaf w' b (mop l s u)/\Only b w w':=by
 have hlt:=h.lt;obtain ⟨es,clock,hb,he⟩:=h;have hg:=MapKept.run_getObj_map (P:=Tryz.prog) hb;have hck:=za6 false s w;have hfk:=wba w s es.toList l he;have ht:=Tryz.underlying229;have hon:∀ o,Only b w { w with heap:=w.heap.setIfInBounds b o }:=fun o=>⟨rfl,rfl,rfl,by simp,fun i hi hne=>by
  have:b ≠ i:=fun e=>hne (by rw [e])
  simp [Array.getElem?_setIfInBounds,this]⟩
 rcases kaz w s es.toList l he 0 with ⟨h1,-,h3⟩ | ⟨i,v,h1,-,h3,h4,h5⟩
 · rw [h1] at hfk;have hs:=MapKept.run_setObj_map (P:=Tryz.prog) (.map (es.push { key:=moV s,val:=u,born:=clock }) (clock+1)) hb;refine ⟨_,?_,?_,hon (.map (es.push { key:=moV s,val:=u,born:=clock }) (clock+1))⟩
   · simp [Instr.mapUpdate,run_underlying ht,hg,hck,hfk,hs]
   · refine ⟨_,_,by simp [Array.getElem?_setIfInBounds,hlt]; exact ⟨rfl,rfl⟩,?_⟩;rw [h3];simpa using he
 · rw [h1] at hfk;have hkey:(es[i]?).map (·.key)=some (moV s):=by simpa using h4
   have hst:(Instr.keyThatStays (moV s) (moV s)).run Tryz.prog w=.ok (moV s) w:=by
    simp [Instr.keyThatStays,Instr.sameBits,moV]
   have hs:=MapKept.run_setObj_map (P:=Tryz.prog) (.map (es.modify i fun e=>{ e with key:=moV s,val:=u }) clock) hb;refine ⟨_,?_,?_,hon (.map (es.modify i fun e=>{ e with key:=moV s,val:=u }) clock)⟩
   · simp [Instr.mapUpdate,run_underlying ht,hg,hck,hfk,hkey,hst,hs]
   · refine ⟨_,_,by simp [Array.getElem?_setIfInBounds,hlt]; exact ⟨rfl,rfl⟩,?_⟩;rw [h3];apply List.ext_getElem?;intro j;have hej:=congrArg (fun L=>L[j]?) he;simp only [List.getElem?_map,Array.getElem?_toList] at hej;simp only [List.getElem?_map,Array.getElem?_toList,Array.getElem?_modify,List.getElem?_set]
     by_cases hij:i=j
     · subst hij;have hl:i < l.length:=by
        have:=congrArg List.length he;simp at this h5;omega
       have h5':i < es.size:=by simpa using h5
       simp [hl,h5']
     · simp [hij,hej]
end Go.Proofs.YtaedbimbbeploaaGreatDoor
