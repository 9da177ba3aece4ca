/- Maps from strings to values of any type: what a block that is such a map holds, and what reading and writing it does. -/
import Derived.Test.YtheefiaoimbeiaaGreatDoorMp4
set_option linter.unusedSimpArgs false
set_option linter.unusedVariables false

namespace Go.Proofs.YtheefiaoimbeiaaGreatDoor
open Go.RowKit
def xds (l:List (ByteArray × Value)) (s:ByteArray):Option Value:=match l with
 | []=>none
 | (k,v) :: r=>if s=k then some v else xds r s
def vd0 (l:List (ByteArray × Value)) (s:ByteArray) (u:Value):List (ByteArray × Value):=match l with
 | []=>[(s,u)]
 | (k,v) :: r=>if s=k then (s,u) :: r else (k,v) :: vd0 r s u
theorem gev (l:List (ByteArray × Value)) (s:ByteArray) (u:Value):xds (vd0 l s u) s=some u:=by
 induction l with
 | nil=>simp [vd0,xds]
 | cons x r ih =>
   obtain ⟨k,v⟩:=x;unfold vd0
   by_cases h:s=k
   · rw [if_pos h]; simp [xds]
   · rw [if_neg h]; simp [xds,h,ih]
theorem zes (l:List (ByteArray × Value)) (s t:ByteArray) (u:Value) (hne:t ≠ s):xds (vd0 l s u) t=xds l t:=by
 induction l with
 | nil=>simp [vd0,xds,hne]
 | cons x r ih =>
   obtain ⟨k,v⟩:=x;unfold vd0
   by_cases h:s=k
   · rw [if_pos h]; subst h; simp [xds,hne]
   · rw [if_neg h]; simp [xds,ih]
theorem yee (l:List (ByteArray × Value)) (s t:ByteArray) (u:Value):xds (vd0 l s u) t=if t=s then some u else xds l t:=by
 by_cases h:t=s
 · rw [if_pos h,h,gev]
 · rw [if_neg h,zes _ _ _ _ h]
def jdp (w:World) (b:Nat) (l:List (ByteArray × Value)):Prop:=
 ∃ es clock,w.heap[b]?=some (.map es clock)/\es.toList.map (fun e=>(e.key,e.val))=l.map (fun x=>(Value.string x.1,x.2))
theorem jdp.lt {w:World} {b:Nat} {l:List (ByteArray × Value)} (h:jdp w b l):b < w.heap.size:=by
 obtain ⟨es,clock,hb,_⟩:=h;exact (rA.1 hb).1
theorem jdp.made (w:World):jdp (w.alloc (.map #[] 0)) w.heap.size []:=⟨#[],0,heap_alloc_new w _,rfl⟩
theorem jdp.ext {w w':World} {b:Nat} {l:List (ByteArray × Value)} (h:jdp w b l) (hx:Ext w w'):jdp w' b l:=by
 have hlt:=h.lt;obtain ⟨es,clock,hb,he⟩:=h;exact ⟨es,clock,(hx.below.block b hlt).trans hb,he⟩
theorem jdp.alloc {w:World} {b:Nat} {l:List (ByteArray × Value)} (h:jdp w b l) (o:Obj):jdp (w.alloc o) b l:=h.ext ((Ext.refl w).alloc o)
theorem jdp.setCell {w:World} {b:Nat} {l:List (ByteArray × Value)} (h:jdp w b l) (p:Addr) (u:Value) (hne:b ≠ p.block):jdp (w.setCell p u) b l:=by
 obtain ⟨es,clock,hb,he⟩:=h;exact ⟨es,clock,(Below.heap_setCell w p u b hne).trans hb,he⟩
theorem wen (s:ByteArray) (es:List MapEntry) (l:List (ByteArray × Value)) (h:es.map (fun e=>(e.key,e.val))=l.map (fun x=>(Value.string x.1,x.2))) :
 ∀ i,(Instr.findNow .string (.string s) es i=some none/\xds l s=none/\(∀ u,vd0 l s u=l ++ [(s,u)])) \/
   ∃ k v,Instr.findNow .string (.string s) es i=some (some (i+k,v))/\xds l s=some v/\(∀ u,vd0 l s u=l.set k (s,u))/\(es[k]?).map (·.key)=some (.string s)/\k < es.length:=by
 induction es generalizing l with
 | nil =>
   intro i
   have:l=[]:=by cases l with
    | nil=>rfl
    | cons x r=>simp at h
   subst this;exact .inl ⟨rfl,rfl,fun u=>rfl⟩
 | cons e es ih =>
   cases l with
   | nil=>simp at h
   | cons x r =>
     obtain ⟨k,v⟩:=x;simp only [rL,ru,Prod.mk.injEq] at h;obtain ⟨⟨hk,hv⟩,hr⟩:=h;intro i
     by_cases hs:s=k
     · subst hs;refine .inr ⟨0,v,?_,by simp [xds],fun u=>by simp [vd0],by simp [hk],by simp⟩;simp [Instr.findNow,hk,hv,Instr.sameNow,(MapKept.bytes_beq s s).2 rfl]
     · have hb:(s == k)=false:=by rw [Bool.eq_false_iff]; exact fun e=>hs ((MapKept.bytes_beq s k).1 e)
       rcases ih r hr (i+1) with ⟨h1,h2,h3⟩ | ⟨j,u,h1,h2,h3,h4,h5⟩
       · refine .inl ⟨by simp [Instr.findNow,hk,Instr.sameNow,hb,h1],by simp [xds,hs,h2],fun u=>by simp [vd0,hs,h3]⟩
       · refine .inr ⟨j+1,u,?_,by simp [xds,hs,h2],fun u=>by simp [vd0,hs,h3],by simpa using h4,by simp; omega⟩;simp [Instr.findNow,hk,Instr.sameNow,hb,h1]; omega
theorem zel {P:Program} {k:TypeId} (hk:P.underlying k=some .string) (b:Bool) (n:Nat) (s:ByteArray) (w:World):(Instr.checkKey b (n+1) k (.string s)).run P w=.ok () w:=by
 simp [Instr.checkKey,run_underlying hk]
theorem jdp.look {P:Program} {t k e:TypeId} {w:World} {b:Nat} {l:List (ByteArray × Value)} {z:Value} (h:jdp w b l) (ht:P.underlying t=some (.map k e)) (hk:P.underlying k=some .string) (hz:(P.info? e).map (·.zero)=some (some z)) (s:ByteArray) (ok:Bool) :
 (Instr.lookup t (.map (some b)) (.string s) ok).run P w=.ok (if ok then .tuple #[(xds l s).getD z,.bool (xds l s).isSome] else (xds l s).getD z) w:=by
 obtain ⟨es,clock,hb,he⟩:=h;obtain ⟨j,hj,hz'⟩:=uw.1 hz;have hg:=MapKept.run_getObj_map (P:=P) hb;have hck:=zel hk es.isEmpty 9999 s w;have hzr:(zeroValue e).run P w=.ok z w:=by simp [zeroValue,typeInfo,hj,hz']
 rcases wen s es.toList l he 0 with ⟨h1,h2,-⟩ | ⟨i,v,h1,h2,-,-⟩
 · have hf:(Instr.findKey k (.string s) es.toList).run P w=.ok none w:=by simp [Instr.findKey,run_underlying hk,h1]
   simp only [Instr.lookup,h2];cases ok <;> simp [run_underlying ht,hg,hck,hf,hzr]
 · have hf:(Instr.findKey k (.string s) es.toList).run P w=.ok (some (0+i,v)) w:=by simp [Instr.findKey,run_underlying hk,h1]
   simp only [Instr.lookup,h2];cases ok <;> simp [run_underlying ht,hg,hck,hf]
theorem jdp.put {P:Program} {t k e:TypeId} {w:World} {b:Nat} {l:List (ByteArray × Value)} (h:jdp w b l) (ht:P.underlying t=some (.map k e)) (hk:P.underlying k=some .string) (s:ByteArray) (u:Value) :
 ∃ w',(Instr.mapUpdate t (.map (some b)) (.string s) u).run P w=.ok () w'/\jdp w' b (vd0 l s u)/\Only b w w':=by
 have hlt:=h.lt;obtain ⟨es,clock,hb,he⟩:=h;have hg:=MapKept.run_getObj_map (P:=P) hb;have hck:=zel hk false 9999 s w;have hon:∀ o,Only b w { w with heap:=w.heap.setIfInBounds b o }:=fun o=>⟨rfl,rfl,rfl,by simp,fun i hi hne=>by
  have:b ≠ i:=fun e=>hne (by rw [e])
  simp [tA,this]⟩
 rcases wen s es.toList l he 0 with ⟨h1,-,h3⟩ | ⟨i,v,h1,-,h3,h4,h5⟩
 · have hf:(Instr.findKey k (.string s) es.toList).run P w=.ok none w:=by simp [Instr.findKey,run_underlying hk,h1]
   have hs:=MapKept.run_setObj_map (P:=P) (.map (es.push { key:=.string s,val:=u,born:=clock }) (clock+1)) hb;refine ⟨_,?_,?_,hon (.map (es.push { key:=.string s,val:=u,born:=clock }) (clock+1))⟩
   · simp [Instr.mapUpdate,run_underlying ht,hg,hck,hf,hs]
   · refine ⟨_,_,by simp [tA,hlt]; exact ⟨rfl,rfl⟩,?_⟩;rw [h3];simpa using he
 · have hf:(Instr.findKey k (.string s) es.toList).run P w=.ok (some (0+i,v)) w:=by simp [Instr.findKey,run_underlying hk,h1]
   have avA:(es[i]?).map (·.key)=some (.string s):=by simpa using h4
   have hst:(Instr.keyThatStays (.string s) (.string s)).run P w=.ok (.string s) w:=by
    simp [Instr.keyThatStays,Instr.sameBits,(MapKept.bytes_beq s s).2 rfl]
   have hs:=MapKept.run_setObj_map (P:=P) (.map (es.modify i fun e=>{ e with key:=.string s,val:=u }) clock) hb;refine ⟨_,?_,?_,hon (.map (es.modify i fun e=>{ e with key:=.string s,val:=u }) clock)⟩
   · simp [Instr.mapUpdate,run_underlying ht,hg,hck,hf,avA,hst,hs]
   · refine ⟨_,_,by simp [tA,hlt]; exact ⟨rfl,rfl⟩,?_⟩;rw [h3];apply List.ext_getElem?;intro j;have hej:=congrArg (fun L=>L[j]?) he;simp only [List.getElem?_map,Array.getElem?_toList] at hej;simp only [List.getElem?_map,Array.getElem?_toList,sN,List.getElem?_set]
     by_cases hij:i=j
     · subst hij;have hl:i < l.length:=by
        have:=congrArg List.length he;simp at this h5;omega
       have h5':i < es.size:=by simpa using h5
       simp [hl,h5']
     · simp [hij,hej]
end Go.Proofs.YtheefiaoimbeiaaGreatDoor

set_option maxRecDepth 100000
set_option maxHeartbeats 8000000
namespace Go.Proofs.YtheefiaoimbeiaaGreatDoor
open Go.RowKit
attribute [local go_sem] uds ydr qdt kds zdt wds vds ydp xdr gds xdt udv qdn ydt xdp
inductive Tm where
 | num (z:Int) | name (s:ByteArray) | add (a b:Tm) | sub (a b:Tm) | mul (a b:Tm) | neg (a:Tm) | pow (a:Tm) (e:Int)
inductive Fm where
 | truth (b:Bool) | atom (l:Tm) (r:Int) (k:Tm) | not (f:Fm) | and (f g:Fm) | or (f g:Fm) | imp (f g:Fm) | iff (f g:Fm) | quant (all:Bool) (s:ByteArray) (f:Fm)
def TmV (w : World) (L : Nat) : Tm -> Value -> Prop
 | .num z,v=>∃ x,v=.iface 110 x/\wdl w x z L
 | .name s,v=>v=.iface 73 (.agg #[.string s])
 | .add a b,v=>∃ x y,v=.iface 175 (.agg #[x,y])/\TmV w L a x/\TmV w L b y
 | .sub a b,v=>∃ x y,v=.iface 176 (.agg #[x,y])/\TmV w L a x/\TmV w L b y
 | .mul a b,v=>∃ x y,v=.iface 177 (.agg #[x,y])/\TmV w L a x/\TmV w L b y
 | .neg a,v=>∃ x,v=.iface 171 (.agg #[x])/\TmV w L a x
 | .pow a e,v=>∃ x,v=.iface 173 (.agg #[x,.int .i64 e])/\TmV w L a x
def FmV (w : World) (L : Nat) : Fm -> Value -> Prop
 | .truth b,v=>v=.iface 85 (.agg #[.bool b])
 | .atom l r k,v=>∃ x y,v=.iface 77 (.agg #[x,.int .i64 r,y])/\TmV w L l x/\TmV w L k y
 | .not f,v=>∃ x,v=.iface 134 (.agg #[x])/\FmV w L f x
 | .and f g,v=>∃ x y,v=.iface 136 (.agg #[x,y])/\FmV w L f x/\FmV w L g y
 | .or f g,v=>∃ x y,v=.iface 137 (.agg #[x,y])/\FmV w L f x/\FmV w L g y
 | .imp f g,v=>∃ x y,v=.iface 138 (.agg #[x,y])/\FmV w L f x/\FmV w L g y
 | .iff f g,v=>∃ x y,v=.iface 139 (.agg #[x,y])/\FmV w L f x/\FmV w L g y
 | .quant a s f,v=>∃ x,v=.iface 79 (.agg #[.bool a,.string s,x])/\FmV w L f x
theorem TmV.ext {w w':World} {L:Nat} (hx:Ext w w') {t:Tm} {v:Value} (h:TmV w L t v):TmV w' L t v:=by
 induction t generalizing v with
 | num z=>obtain ⟨x,e,h⟩:=h; exact ⟨x,e,h.ext hx⟩
 | name s=>exact h
 | add a b iha ihb=>obtain ⟨x,y,e,h,k⟩:=h; exact ⟨x,y,e,iha h,ihb k⟩
 | sub a b iha ihb=>obtain ⟨x,y,e,h,k⟩:=h; exact ⟨x,y,e,iha h,ihb k⟩
 | mul a b iha ihb=>obtain ⟨x,y,e,h,k⟩:=h; exact ⟨x,y,e,iha h,ihb k⟩
 | neg a iha=>obtain ⟨x,e,h⟩:=h; exact ⟨x,e,iha h⟩
 | pow a n iha=>obtain ⟨x,e,h⟩:=h; exact ⟨x,e,iha h⟩
theorem FmV.ext {w w':World} {L:Nat} (hx:Ext w w') {f:Fm} {v:Value} (h:FmV w L f v):FmV w' L f v:=by
 induction f generalizing v with
 | truth b=>exact h
 | atom l r k=>obtain ⟨x,y,e,h,k⟩:=h; exact ⟨x,y,e,h.ext hx,k.ext hx⟩
 | not f ihf=>obtain ⟨x,e,h⟩:=h; exact ⟨x,e,ihf h⟩
 | and f g ihf ihg=>obtain ⟨x,y,e,h,k⟩:=h; exact ⟨x,y,e,ihf h,ihg k⟩
 | or f g ihf ihg=>obtain ⟨x,y,e,h,k⟩:=h; exact ⟨x,y,e,ihf h,ihg k⟩
 | imp f g ihf ihg=>obtain ⟨x,y,e,h,k⟩:=h; exact ⟨x,y,e,ihf h,ihg k⟩
 | iff f g ihf ihg=>obtain ⟨x,y,e,h,k⟩:=h; exact ⟨x,y,e,ihf h,ihg k⟩
 | quant a s f ihf=>obtain ⟨x,e,h⟩:=h; exact ⟨x,e,ihf h⟩
theorem TmV.iface {w:World} {L:Nat} {t:Tm} {v:Value} (h:TmV w L t v):∃ T x,v=.iface T x:=by
 cases t <;> (simp only [TmV] at h) <;> first | exact ⟨_,_,h⟩ | (obtain ⟨_,e,_⟩:=h; exact ⟨_,_,e⟩) | (obtain ⟨_,_,e,_⟩:=h; exact ⟨_,_,e⟩)
theorem FmV.iface {w:World} {L:Nat} {f:Fm} {v:Value} (h:FmV w L f v):∃ T x,v=.iface T x:=by
 cases f <;> (simp only [FmV] at h) <;> first | exact ⟨_,_,h⟩ | (obtain ⟨_,e,_⟩:=h; exact ⟨_,_,e⟩) | (obtain ⟨_,_,e,_⟩:=h; exact ⟨_,_,e⟩)
def Fm.kids : Fm -> List Fm
 | .truth _=>[]
 | .atom _ _ _=>[]
 | .not f=>[f]
 | .and f g=>[f,g]
 | .or f g=>[f,g]
 | .imp f g=>[f,g]
 | .iff f g=>[f,g]
 | .quant _ _ f=>[f]
def Tm.kids : Tm -> List Tm
 | .num _=>[]
 | .name _=>[]
 | .add a b=>[a,b]
 | .sub a b=>[a,b]
 | .mul a b=>[a,b]
 | .neg a=>[a]
 | .pow a _=>[a]
def SlR {α:Type} (P:World->α->Value->Prop) (w:World) (v:Value) (l:List α):Prop:=
 ∃ A c,v=.slice A l.length c/\l.length<=c/\c<=9223372036854775807/\∀ j (h:j < l.length),∃ ad x,A=some ad/\ad.block < w.heap.size/\w.cell? (ad.add j)=some x/\P w l[j] x
theorem SlR.ext {α:Type} {P:World->α->Value->Prop} {w w':World} {v:Value} {l:List α} (h:SlR P w v l) (hP:∀ a x,P w a x->P w' a x) (k:Ext w w'):SlR P w' v l:=by
 obtain ⟨A,c,e,h1,h2,h3⟩:=h;refine ⟨A,c,e,h1,h2,fun j hj=>?_⟩;obtain ⟨ad,x,e,hb,hc,hp⟩:=h3 j hj;exact ⟨ad,x,e,pr hb k.size,(k.cell (by rw [zc1]; exact hb)).trans hc,hP _ _ hp⟩
theorem SlR.nil {α:Type} (P:World->α->Value->Prop) (w:World):SlR P w (.slice none 0 0) []:=⟨none,0,rfl,by simp,by simp,fun j h=>absurd h (by simp)⟩
theorem SlR.one {α:Type} {P:World->α->Value->Prop} {w:World} {g:Nat} {a:α} {x:Value} (hg:g < w.heap.size) (h0:w.cell? ⟨g,0,none⟩=some x) (p0:P w a x):SlR P w (.slice (some ⟨g,0,none⟩) 1 1) [a]:=by
 refine ⟨_,1,rfl,by simp,by simp,fun j hj=>?_⟩;have:j=0:=by simp at hj; omega
 subst this;exact ⟨_,x,rfl,hg,by rw [kdo]; exact h0,p0⟩
theorem SlR.two {α:Type} {P:World->α->Value->Prop} {w:World} {g:Nat} {a b:α} {x y:Value} (hg:g < w.heap.size) (h0:w.cell? ⟨g,0,none⟩=some x) (h1:w.cell? ⟨g,1,none⟩=some y) (p0:P w a x) (p1:P w b y):SlR P w (.slice (some ⟨g,0,none⟩) 2 2) [a,b]:=by
 refine ⟨_,2,rfl,by simp,by simp,fun j hj=>?_⟩;rcases (show j=0\/j=1 by simp at hj; omega) with rfl | rfl
 · exact ⟨_,x,rfl,hg,by rw [kdo]; exact h0,p0⟩
 · exact ⟨_,y,rfl,hg,by rw [kdo]; exact h1,p1⟩
def vd7 (w0:World) (L:Nat) (l:List Fm) (w:World) (e:Ending) (w':World):Prop:=∃ s,e=.returned s/\SlR (fun _ f v=>FmV w0 L f v) w' s l/\zdo w.heap.size s/\Ext w w'
def qea (w0:World) (L:Nat) (l:List Tm) (w:World) (e:Ending) (w':World):Prop:=∃ s,e=.returned s/\SlR (fun _ f v=>TmV w0 L f v) w' s l/\zdo w.heap.size s/\Ext w w'
theorem xfa {w0 w:World} {L:Nat} {b:Bool} {v:Value} (h:FmV w0 L (Fm.truth b) v):Calls Tryz.prog 70 #[v] w (vd7 w0 L [] w):=by
 obtain rfl:=h;go_enter uC,tY;go_wp2_with fail;go_ret;exact ⟨_,rfl,SlR.nil _ _,zdo.nil _ _ _,Ext.refl _⟩
theorem wfh {w0 w:World} {L:Nat} {l k:Tm} {r:Int} {v:Value} (h:FmV w0 L (Fm.atom l r k) v):Calls Tryz.prog 70 #[v] w (vd7 w0 L [] w):=by
 obtain ⟨x,y,rfl,hx,hy⟩:=h;go_enter uC,tY;go_wp2_with fail;go_ret;exact ⟨_,rfl,SlR.nil _ _,zdo.nil _ _ _,Ext.refl _⟩
theorem gfp {w0 w:World} {L:Nat} {f:Fm} {v:Value} (h:FmV w0 L (Fm.not f) v):Calls Tryz.prog 70 #[v] w (vd7 w0 L [f] w):=by
 obtain ⟨x,rfl,hx⟩:=h;obtain ⟨T,x,rfl⟩:=hx.iface;go_enter uC,tY;go_wp2_with fail;go_ret;have hX:Ext w ((w.alloc (Obj.cells #[.iface T x] 134)).alloc (Obj.cells #[.iface T x] 37)):=((Ext.refl w).alloc _).alloc _;exact ⟨_,rfl,SlR.one (by simp) (by simp [go_sem]) hx,zdo.mk _ _ _ _ (by simp),hX⟩
theorem yfq {w0 w:World} {L:Nat} {f g:Fm} {v:Value} (h:FmV w0 L (Fm.and f g) v):Calls Tryz.prog 70 #[v] w (vd7 w0 L [f,g] w):=by
 obtain ⟨x,y,rfl,hx,hy⟩:=h;obtain ⟨T,x,rfl⟩:=hx.iface;obtain ⟨U,y,rfl⟩:=hy.iface;go_enter uC,tY;go_wp2_with fail;go_ret;have hX:Ext w ((w.alloc (Obj.cells #[.iface T x,.iface U y] 136)).alloc (Obj.cells #[.iface T x,.iface U y] 37)):=((Ext.refl w).alloc _).alloc _;exact ⟨_,rfl,SlR.two (by simp) (by simp [go_sem]) (by simp [go_sem]) hx hy,zdo.mk _ _ _ _ (by simp),hX⟩
theorem qf0 {w0 w:World} {L:Nat} {f g:Fm} {v:Value} (h:FmV w0 L (Fm.or f g) v):Calls Tryz.prog 70 #[v] w (vd7 w0 L [f,g] w):=by
 obtain ⟨x,y,rfl,hx,hy⟩:=h;obtain ⟨T,x,rfl⟩:=hx.iface;obtain ⟨U,y,rfl⟩:=hy.iface;go_enter uC,tY;go_wp2_with fail;go_ret;have hX:Ext w ((w.alloc (Obj.cells #[.iface T x,.iface U y] 137)).alloc (Obj.cells #[.iface T x,.iface U y] 37)):=((Ext.refl w).alloc _).alloc _;exact ⟨_,rfl,SlR.two (by simp) (by simp [go_sem]) (by simp [go_sem]) hx hy,zdo.mk _ _ _ _ (by simp),hX⟩
theorem wfp {w0 w:World} {L:Nat} {f g:Fm} {v:Value} (h:FmV w0 L (Fm.imp f g) v):Calls Tryz.prog 70 #[v] w (vd7 w0 L [f,g] w):=by
 obtain ⟨x,y,rfl,hx,hy⟩:=h;obtain ⟨T,x,rfl⟩:=hx.iface;obtain ⟨U,y,rfl⟩:=hy.iface;go_enter uC,tY;go_wp2_with fail;go_ret;have hX:Ext w ((w.alloc (Obj.cells #[.iface T x,.iface U y] 138)).alloc (Obj.cells #[.iface T x,.iface U y] 37)):=((Ext.refl w).alloc _).alloc _;exact ⟨_,rfl,SlR.two (by simp) (by simp [go_sem]) (by simp [go_sem]) hx hy,zdo.mk _ _ _ _ (by simp),hX⟩
theorem zfq {w0 w:World} {L:Nat} {f g:Fm} {v:Value} (h:FmV w0 L (Fm.iff f g) v):Calls Tryz.prog 70 #[v] w (vd7 w0 L [f,g] w):=by
 obtain ⟨x,y,rfl,hx,hy⟩:=h;obtain ⟨T,x,rfl⟩:=hx.iface;obtain ⟨U,y,rfl⟩:=hy.iface;go_enter uC,tY;go_wp2_with fail;go_ret;have hX:Ext w ((w.alloc (Obj.cells #[.iface T x,.iface U y] 139)).alloc (Obj.cells #[.iface T x,.iface U y] 37)):=((Ext.refl w).alloc _).alloc _;exact ⟨_,rfl,SlR.two (by simp) (by simp [go_sem]) (by simp [go_sem]) hx hy,zdo.mk _ _ _ _ (by simp),hX⟩
theorem jfa {w0 w:World} {L:Nat} {a:Bool} {s:ByteArray} {f:Fm} {v:Value} (h:FmV w0 L (Fm.quant a s f) v):Calls Tryz.prog 70 #[v] w (vd7 w0 L [f] w):=by
 obtain ⟨x,rfl,hx⟩:=h;obtain ⟨T,x,rfl⟩:=hx.iface;go_enter uC,tY;go_wp2_with fail;go_ret;have hX:Ext w ((w.alloc (Obj.cells #[.bool a,.string s,.iface T x] 79)).alloc (Obj.cells #[.iface T x] 37)):=((Ext.refl w).alloc _).alloc _;exact ⟨_,rfl,SlR.one (by simp) (by simp [go_sem]) hx,zdo.mk _ _ _ _ (by simp),hX⟩
theorem ve2 {w0 w:World} {L:Nat} {z:Int} {v:Value} (h:TmV w0 L (Tm.num z) v):Calls Tryz.prog 106 #[v] w (qea w0 L [] w):=by
 obtain ⟨x,rfl,hx⟩:=h;go_enter uM,ue;go_wp2_with fail;go_ret;exact ⟨_,rfl,SlR.nil _ _,zdo.nil _ _ _,Ext.refl _⟩
theorem xe0 {w0 w:World} {L:Nat} {s:ByteArray} {v:Value} (h:TmV w0 L (Tm.name s) v):Calls Tryz.prog 106 #[v] w (qea w0 L [] w):=by
 obtain rfl:=h;go_enter uM,ue;go_wp2_with fail;go_ret;exact ⟨_,rfl,SlR.nil _ _,zdo.nil _ _ _,Ext.refl _⟩
theorem ze3 {w0 w:World} {L:Nat} {a b:Tm} {v:Value} (h:TmV w0 L (Tm.add a b) v):Calls Tryz.prog 106 #[v] w (qea w0 L [a,b] w):=by
 obtain ⟨x,y,rfl,hx,hy⟩:=h;obtain ⟨T,x,rfl⟩:=hx.iface;obtain ⟨U,y,rfl⟩:=hy.iface;go_enter uM,ue;go_wp2_with fail;go_ret;have hX:Ext w ((w.alloc (Obj.cells #[.iface T x,.iface U y] 175)).alloc (Obj.cells #[.iface T x,.iface U y] 75)):=((Ext.refl w).alloc _).alloc _;exact ⟨_,rfl,SlR.two (by simp) (by simp [go_sem]) (by simp [go_sem]) hx hy,zdo.mk _ _ _ _ (by simp),hX⟩
theorem je2 {w0 w:World} {L:Nat} {a b:Tm} {v:Value} (h:TmV w0 L (Tm.sub a b) v):Calls Tryz.prog 106 #[v] w (qea w0 L [a,b] w):=by
 obtain ⟨x,y,rfl,hx,hy⟩:=h;obtain ⟨T,x,rfl⟩:=hx.iface;obtain ⟨U,y,rfl⟩:=hy.iface;go_enter uM,ue;go_wp2_with fail;go_ret;have hX:Ext w ((w.alloc (Obj.cells #[.iface T x,.iface U y] 176)).alloc (Obj.cells #[.iface T x,.iface U y] 75)):=((Ext.refl w).alloc _).alloc _;exact ⟨_,rfl,SlR.two (by simp) (by simp [go_sem]) (by simp [go_sem]) hx hy,zdo.mk _ _ _ _ (by simp),hX⟩
theorem ge2 {w0 w:World} {L:Nat} {a b:Tm} {v:Value} (h:TmV w0 L (Tm.mul a b) v):Calls Tryz.prog 106 #[v] w (qea w0 L [a,b] w):=by
 obtain ⟨x,y,rfl,hx,hy⟩:=h;obtain ⟨T,x,rfl⟩:=hx.iface;obtain ⟨U,y,rfl⟩:=hy.iface;go_enter uM,ue;go_wp2_with fail;go_ret;have hX:Ext w ((w.alloc (Obj.cells #[.iface T x,.iface U y] 177)).alloc (Obj.cells #[.iface T x,.iface U y] 75)):=((Ext.refl w).alloc _).alloc _;exact ⟨_,rfl,SlR.two (by simp) (by simp [go_sem]) (by simp [go_sem]) hx hy,zdo.mk _ _ _ _ (by simp),hX⟩
theorem ue2 {w0 w:World} {L:Nat} {a:Tm} {v:Value} (h:TmV w0 L (Tm.neg a) v):Calls Tryz.prog 106 #[v] w (qea w0 L [a] w):=by
 obtain ⟨x,rfl,hx⟩:=h;obtain ⟨T,x,rfl⟩:=hx.iface;go_enter uM,ue;go_wp2_with fail;go_ret;have hX:Ext w ((w.alloc (Obj.cells #[.iface T x] 171)).alloc (Obj.cells #[.iface T x] 75)):=((Ext.refl w).alloc _).alloc _;exact ⟨_,rfl,SlR.one (by simp) (by simp [go_sem]) hx,zdo.mk _ _ _ _ (by simp),hX⟩
theorem ke2 {w0 w:World} {L:Nat} {a:Tm} {n:Int} {v:Value} (h:TmV w0 L (Tm.pow a n) v):Calls Tryz.prog 106 #[v] w (qea w0 L [a] w):=by
 obtain ⟨x,rfl,hx⟩:=h;obtain ⟨T,x,rfl⟩:=hx.iface;go_enter uM,ue;go_wp2_with fail;go_ret;have hX:Ext w ((w.alloc (Obj.cells #[.iface T x,.int .i64 n] 173)).alloc (Obj.cells #[.iface T x] 75)):=((Ext.refl w).alloc _).alloc _;exact ⟨_,rfl,SlR.one (by simp) (by simp [go_sem]) hx,zdo.mk _ _ _ _ (by simp),hX⟩
theorem ydw {w0 w:World} {L:Nat} (f:Fm) {v:Value} (h:FmV w0 L f v):Calls Tryz.prog 70 #[v] w (vd7 w0 L f.kids w):=by
 cases f
 · exact xfa h
 · exact wfh h
 · exact gfp h
 · exact yfq h
 · exact qf0 h
 · exact wfp h
 · exact zfq h
 · exact jfa h
theorem qd6 {w0 w:World} {L:Nat} (t:Tm) {v:Value} (h:TmV w0 L t v):Calls Tryz.prog 106 #[v] w (qea w0 L t.kids w):=by
 cases t
 · exact ve2 h
 · exact xe0 h
 · exact ze3 h
 · exact je2 h
 · exact ge2 h
 · exact ue2 h
 · exact ke2 h
end Go.Proofs.YtheefiaoimbeiaaGreatDoor
