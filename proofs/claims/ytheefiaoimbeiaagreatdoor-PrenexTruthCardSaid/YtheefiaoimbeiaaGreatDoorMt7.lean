/- Sums of lists of polynomials, plain: level by level, as recpoly.add goes. No program in sight. -/
import Derived.Test.YtheefiaoimbeiaaGreatDoorMt5
import Derived.Test.YtheefiaoimbeiaaGreatDoorMt6
import Derived.Test.YtheefiaoimbeiaaGreatDoorMt3
import Derived.Sort.Grow
import Derived.Test.YtheefiaoimbeiaaGreatDoorMt2
set_option linter.unusedSimpArgs false
set_option linter.unusedVariables false

namespace Go.Proofs.YtheefiaoimbeiaaGreatDoor
def waa (l:List Pl):Pl:=Pl.ofS (l.flatMap fun p=>p.terms Mo.one)
def uz (ρ : Int -> Rat) : List Pl -> Rat
 | []=>0
 | p :: r=>p.val ρ+uz ρ r
def lnr : List Pl -> Nat
 | []=>0
 | p :: r=>p.nr+lnr r
theorem yau (l:List Pl):(waa l).Can:=Pl.ofS_can _
theorem ja3 (ρ:Int->Rat) (a b:List Pl):uz ρ (a ++ b)=uz ρ a+uz ρ b:=by
 induction a with
 | nil=>simp [uz]; grind
 | cons x a ih=>rw [List.cons_append,uz,uz,ih]; grind
theorem zau (ρ:Int->Rat) (l:List Pl):(waa l).val ρ=uz ρ l:=by
 unfold waa;rw [Pl.ofS_val ρ (fun x hx=>by
  obtain ⟨p,-,hp⟩:=List.mem_flatMap.1 hx
  exact p.terms_one_nonneg x hp)]
 induction l with
 | nil=>rfl
 | cons p l ih=>rw [List.flatMap_cons,jai,Pl.terms_sval,uz,ih]
theorem xa8 (a b:List Pl):lnr (a ++ b)=lnr a+lnr b:=by
 induction a with
 | nil=>simp [lnr]
 | cons x a ih=>rw [List.cons_append,lnr,lnr,ih]; omega
theorem jbt {l:List Pl} {n:Int} (hc:∀ p ∈ l,p.Can/\p.lv<=n) (h0:0<=n) (hn:n<=4):(waa l).lv<=n:=by
 obtain ⟨k,rfl⟩:∃ k:Nat,n=k:=⟨n.toNat,by omega⟩;refine Pl.ofS_lv (by omega) (fun x hx=>?_) fun x hx i hi hi4=>?_
 · obtain ⟨p,-,hp⟩:=List.mem_flatMap.1 hx;exact p.terms_one_nonneg x hp
 · obtain ⟨p,hpl,hp⟩:=List.mem_flatMap.1 hx;exact Pl.exp_above (hc p hpl).1 (hc p hpl).2 x hp i hi hi4
theorem zcl (p q:Pl):waa [p,q]=p.add q:=Pl.val_uniq (yau _) (Pl.add_can _ _) fun ρ=>by rw [zau,Pl.add_val,uz,uz,uz]; grind
def stp (a:Int × Nat) (p:Pl):Int × Nat:=
 if p.lv=(if a.1 < p.lv then (p.lv,0) else a).1 then ((if a.1 < p.lv then (p.lv,0) else a).1,max (if a.1 < p.lv then (p.lv,0) else a).2 p.cs.length) else (if a.1 < p.lv then (p.lv,0) else a)
theorem kbi {a:Int × Nat} {p:Pl} (h:a.1 < p.lv):stp a p=(p.lv,p.cs.length):=by
 unfold stp; rw [if_pos h,if_pos rfl]; simp
theorem vbi {a:Int × Nat} {p:Pl} (h:p.lv=a.1):stp a p=(a.1,max a.2 p.cs.length):=by
 unfold stp; rw [if_neg (show ¬ a.1 < p.lv by omega),if_pos h]
theorem jbi {a:Int × Nat} {p:Pl} (h:p.lv < a.1):stp a p=a:=by
 unfold stp; rw [if_neg (show ¬ a.1 < p.lv by omega),if_neg (by omega)]
def kag (l:List Pl):Int × Nat:=l.foldl stp (0,0)
theorem gb1 (l:List Pl) (k:Nat) (h:k < l.length):kag (l.take (k+1))=stp (kag (l.take k)) l[k]:=by
 unfold kag;rw [List.take_succ_eq_append_getElem h,List.foldl_append]
 rfl
theorem wb1 (l:List Pl) (M:Nat) (hl:∀ p ∈ l,0<=p.lv/\p.lv<=4/\p.cs.length<=M/\(0 < p.lv->2<=p.cs.length)) :
 (0<=(kag l).1/\(kag l).1<=4/\(kag l).2<=M/\(0 < (kag l).1->2<=(kag l).2))/\∀ p ∈ l,p.lv<=(kag l).1/\(p.lv=(kag l).1->p.cs.length<=(kag l).2):=by
 have key:∀ (l:List Pl) (a:Int × Nat),(0<=a.1/\a.1<=4/\a.2<=M/\(0 < a.1->2<=a.2))->(∀ p ∈ l,0<=p.lv/\p.lv<=4/\p.cs.length<=M/\(0 < p.lv->2<=p.cs.length)) ->
  (0<=(l.foldl stp a).1/\(l.foldl stp a).1<=4/\(l.foldl stp a).2<=M/\(0 < (l.foldl stp a).1->2<=(l.foldl stp a).2))/\(a.1 < (l.foldl stp a).1\/(a.1=(l.foldl stp a).1/\a.2<=(l.foldl stp a).2))/\∀ p ∈ l,p.lv<=(l.foldl stp a).1/\(p.lv=(l.foldl stp a).1->p.cs.length<=(l.foldl stp a).2):=by
  intro l
  induction l with
  | nil=>intro a ha _; exact ⟨ha,.inr ⟨rfl,Nat.le_refl _⟩,by simp⟩
  | cons p l ih =>
    intro a ha hp;have h1:=hp p (by simp);have hs:(0<=(stp a p).1/\(stp a p).1<=4/\(stp a p).2<=M/\(0 < (stp a p).1->2<=(stp a p).2))/\(a.1 < (stp a p).1\/(a.1=(stp a p).1/\a.2<=(stp a p).2))/\(p.lv < (stp a p).1\/(p.lv=(stp a p).1/\p.cs.length<=(stp a p).2)):=by
     rcases Int.lt_trichotomy a.1 p.lv with h | h | h
     · rw [kbi h]; exact ⟨⟨h1.1,h1.2.1,h1.2.2.1,h1.2.2.2⟩,.inl h,.inr ⟨rfl,Nat.le_refl _⟩⟩
     · rw [vbi h.symm]; refine ⟨⟨ha.1,ha.2.1,by simp only; omega,fun h0=>?_⟩,.inr ⟨rfl,by simp only; omega⟩,.inr ⟨h.symm,by simp only; omega⟩⟩;have:=ha.2.2.2 h0;simp only;omega
     · rw [jbi h]; exact ⟨ha,.inr ⟨rfl,Nat.le_refl _⟩,.inl h⟩
    obtain ⟨g1,g2,g3⟩:=ih (stp a p) hs.1 (fun q hq=>hp q (by simp [hq]));rw [List.foldl_cons];generalize l.foldl stp (stp a p)=r at *;generalize stp a p=s at *;refine ⟨g1,by omega,fun q hq=>?_⟩;rcases List.mem_cons.1 hq with rfl | hq
    · omega
    · exact g3 q hq
 obtain ⟨h1,-,h3⟩:=key l (0,0) ⟨by simp,by simp,by simp,by simp⟩ hl;exact ⟨h1,h3⟩
theorem qcm (l:List Pl) (h:0 < (kag l).1):∃ p ∈ l,p.lv=(kag l).1:=by
 have key:∀ (l:List Pl) (a:Int × Nat),(l.foldl stp a).1=a.1\/∃ p ∈ l,p.lv=(l.foldl stp a).1:=by
  intro l
  induction l with
  | nil=>intro a; exact .inl rfl
  | cons p l ih =>
    intro a;rw [List.foldl_cons];rcases ih (stp a p) with h1 | ⟨q,hq,h1⟩
    · rcases Int.lt_trichotomy a.1 p.lv with h | h | h
      · exact .inr ⟨p,by simp,by rw [h1,kbi h]⟩
      · exact .inr ⟨p,by simp,by rw [h1,vbi h.symm,h]⟩
      · exact .inl (by rw [h1,jbi h])
    · exact .inr ⟨q,by simp [hq],h1⟩
 rcases key l (0,0) with h1 | h1
 · have:(kag l).1=0:=h1;omega
 · exact h1
def partsOf (lv:Int) (i:Nat) (p:Pl):List Pl:=if p.lv=lv then (p.cs[i]?).toList else if p.lv < lv/\i=0 then [p] else []
def um (lv:Int) (i:Nat) (l:List Pl):List Pl:=l.flatMap (partsOf lv i)
theorem vbp (lv:Int) (i:Nat) (l:List Pl) (k:Nat) (h:k < l.length):um lv i (l.take (k+1))=um lv i (l.take k) ++ partsOf lv i l[k]:=by
 unfold um;rw [List.take_succ_eq_append_getElem h,List.flatMap_append];simp
theorem xa4 (lv:Int) (i:Nat) (p:Pl):(partsOf lv i p).length<=1:=by
 unfold partsOf
 split
 · cases p.cs[i]? <;> simp
 · split <;> simp
theorem ga7 (lv:Int) (i:Nat) (l:List Pl):(um lv i l).length<=l.length:=by
 induction l with
 | nil=>simp [um]
 | cons p l ih =>
   unfold um at ih ⊢;rw [List.flatMap_cons,List.length_append,List.length_cons];have:=xa4 lv i p;omega
theorem ya4 {lv:Int} {i:Nat} {p c:Pl} (hp:p.Can) (h0:0 < lv) {E:Nat} (hE:p.ex E) (h:c ∈ partsOf lv i p):c.Can/\c.lv < lv/\c.ex E/\c.nr<=p.nr:=by
 unfold partsOf at h
 split at h
 · rename_i hl;obtain ⟨l,n,d,cs⟩:=p
   change l=lv at hl
   subst hl;have hc:c ∈ cs:=by
    simp only [Pl.cs,Option.mem_toList] at h;exact List.mem_of_getElem? h
   have hk:=(hp.kids h0).2.2.2.1.mem c hc;rw [Pl.ex] at hE;exact ⟨hk.2,hk.1,za6 (hE.resolve_left (by omega)).2 c hc,by rw [Pl.nr,if_neg (by omega)]; exact wbj hc⟩
 · split at h
   · rename_i hl;obtain rfl:=List.mem_singleton.1 h;exact ⟨hp,hl.1,hE,Nat.le_refl _⟩
   · cases h
theorem van {lv:Int} {i:Nat} {l:List Pl} {c:Pl} (h0:0 < lv) {E:Nat} (hl:∀ p ∈ l,p.Can/\p.ex E) (h:c ∈ um lv i l):c.Can/\c.lv < lv/\c.ex E:=by
 obtain ⟨p,hp,hc⟩:=List.mem_flatMap.1 h;have:=ya4 (hl p hp).1 h0 (hl p hp).2 hc;exact ⟨this.1,this.2.1,this.2.2.1⟩
theorem wb4 {lv:Int} {i:Nat} {l:List Pl} (h0:0 < lv) {E:Nat} (hl:∀ p ∈ l,p.Can/\p.ex E):lnr (um lv i l)<=lnr l:=by
 induction l with
 | nil=>simp [um,lnr]
 | cons p l ih =>
   have h1:=ih fun q hq=>hl q (by simp [hq])
   unfold um at h1 ⊢;rw [List.flatMap_cons,xa8,lnr];have h2:lnr (partsOf lv i p)<=p.nr:=by
    have hm:=fun c hc=>ya4 (c:=c) (hl p (by simp)).1 h0 (hl p (by simp)).2 (i:=i) hc
    have hlen:=xa4 lv i p;generalize partsOf lv i p=q at *
    match q,hlen with
    | [],_=>simp [lnr]
    | [c],_=>have:=(hm c (by simp)).2.2.2; simpa [lnr] using this
   omega
def hsm (x : Rat) : (Nat -> Rat) -> Nat -> Rat
 | _,0=>0
 | f,n+1=>f 0+x * hsm x (fun i=>f (i+1)) n
theorem wbs (x:Rat) (n:Nat):∀ f g:Nat->Rat,hsm x (fun i=>f i+g i) n=hsm x f n+hsm x g n:=by
 induction n with
 | zero=>intro f g; simp [hsm]; grind
 | succ n ih=>intro f g; simp only [hsm]; rw [ih (fun i=>f (i+1)) (fun i=>g (i+1))]; grind
theorem vat (x:Rat) (n:Nat):hsm x (fun _=>0) n=0:=by
 induction n with
 | zero=>rfl
 | succ n ih=>simp only [hsm,ih]; grind
theorem gbd (ρ:Int->Rat) (l:Int):∀ (n:Nat) (g:Nat->Pl),uf ρ l ((List.range n).map g)=hsm (ρ l) (fun i=>(g i).val ρ) n:=by
 intro n
 induction n with
 | zero=>intro g; simp [uf,hsm]
 | succ n ih =>
   intro g;rw [List.range_succ_eq_map,List.map_cons,List.map_map,uf,hsm,<- ih (fun i=>g (i+1))]
   rfl
theorem kci (ρ:Int->Rat) (l:Int):∀ (cs:List Pl) (n:Nat),cs.length<=n->hsm (ρ l) (fun i=>uz ρ (cs[i]?).toList) n=uf ρ l cs:=by
 intro cs
 induction cs with
 | nil =>
   intro n _;rw [uf,<- vat (ρ l) n]
   congr 1
 | cons c cs ih =>
   intro n hn;obtain ⟨m,rfl⟩:∃ m,n=m+1:=⟨n - 1,by simp at hn; omega⟩;rw [hsm,uf,<- ih m (by simpa using hn)];simp [uz]
   grind
theorem zb0 {l:List Pl} {lv:Int} {n E:Nat} (h0:0 < lv) (h4:lv<=4) (hn:1<=n) (hl:∀ p ∈ l,p.Can/\p.ex E) (hlv:∀ p ∈ l,p.lv<=lv/\(p.lv=lv->p.cs.length<=n)) :
 waa l=xaf lv ((List.range n).map fun i=>waa (um lv i l)):=by
 have hk:ku lv ((List.range n).map fun i=>waa (um lv i l)):=jah fun c hc=>by
  obtain ⟨i,-,rfl⟩:=List.mem_map.1 hc;have h1:=jbt (l:=um lv i l) (n:=lv - 1) (fun p hp=>⟨(van h0 hl hp).1,by have:=(van h0 hl hp).2.1; omega⟩) (by omega) (by omega);exact ⟨by omega,yau _⟩
 obtain ⟨g1,g2,g3⟩:=zbd h0 h4 hk;refine Pl.val_uniq (yau _) g1 fun ρ=>?_
 rw [g3,gbd,zau];simp only [zau];clear g1 g2 g3 hk
 induction l with
 | nil =>
   rw [uz,<- vat (ρ lv) n]
   congr 1
 | cons p l ih =>
   rw [uz,ih (fun q hq=>hl q (by simp [hq])) (fun q hq=>hlv q (by simp [hq]))];have e1:(fun i=>uz ρ (um lv i (p :: l)))=fun i=>uz ρ (partsOf lv i p)+uz ρ (um lv i l):=by
    funext i
    unfold um;rw [List.flatMap_cons,ja3]
   rw [e1,wbs]
   congr 1
   obtain ⟨h1,h2⟩:=hlv p (by simp)
   by_cases he:p.lv=lv
   · have e2:(fun i=>uz ρ (partsOf lv i p))=fun i=>uz ρ (p.cs[i]?).toList:=by
      funext i
      unfold partsOf;rw [if_pos he]
     rw [e2,kci ρ lv p.cs n (h2 he)];obtain ⟨l',ng,d,cs⟩:=p
     change l'=lv at he
     subst he;exact Pl.mk_val ρ _ _ _ h0 h4
   · obtain ⟨m,rfl⟩:∃ m,n=m+1:=⟨n - 1,by omega⟩;have e2:(fun i=>uz ρ (partsOf lv i p))=fun i=>if i=0 then p.val ρ else 0:=by
      funext i
      unfold partsOf;rw [if_neg he]
      by_cases hi:i=0
      · rw [if_pos ⟨by omega,hi⟩,if_pos hi,uz,uz]; grind
      · rw [if_neg (by omega),if_neg hi,uz]
     rw [e2,hsm];have e3:(fun i=>if i+1=0 then p.val ρ else 0)=fun _:Nat=>(0:Rat):=by
      funext i
      rw [if_neg (by omega)]
     rw [if_pos rfl,e3,vat]
     grind
theorem zb9 {l:List Pl} (hl:∀ p ∈ l,p.Can/\p.lv=0):waa l=Pl.const (qab (l.map Pl.z)):=Pl.val_uniq (yau _) (xae _) fun ρ=>by
 rw [zau,Pl.const_val]
 induction l with
 | nil=>simp [uz,qab]
 | cons p l ih =>
   have h1:=hl p (by simp);rw [uz,ih fun q hq=>hl q (by simp [hq]),List.map_cons,qab];have h2:p.val ρ=(Pl.const p.z).val ρ:=congrArg (fun p=>p.val ρ) (gav h1.1 h1.2);rw [h2,Pl.const_val]
   push_cast
   rfl
theorem zc2 {l:List Pl} (hl:∀ p ∈ l,p.Can/\p.lv=0):inr (l.map Pl.z)=lnr l:=by
 induction l with
 | nil=>rfl
 | cons p l ih =>
   have h1:=hl p (by simp);rw [List.map_cons,inr,lnr,ih fun q hq=>hl q (by simp [hq])];have h2:=congrArg Pl.nr (gav h1.1 h1.2);rw [Pl.const_nr] at h2;rw [h2]
end Go.Proofs.YtheefiaoimbeiaaGreatDoor

/- Rows of polynomials that grow. -/
namespace Go.Proofs.YtheefiaoimbeiaaGreatDoor
open Go.RowKit
theorem kcd : yas 42 44 4 64 (.agg #[.int .i64 0, .bool false, .slice none 0 0, .slice none 0 0]) where
 und:=Tryz.underlying42
 info:=kbe
 cells:=rfl
 pos:=by omega
 nodig:=by
  intro u hu;simp only [Value.cells] at hu;simp only [List.mem_cons,List.not_mem_nil,or_false] at hu;rcases hu with rfl | rfl | rfl | rfl <;> rfl
def plC (r:Pl × Value × Value):List Value:=[.int .i64 r.1.lv,.bool r.1.neg,r.2.1,r.2.2]
def gae (rs:List (Pl × Value × Value)):List Value:=rs.flatMap plC
theorem zbm (a b:List (Pl × Value × Value)):gae (a ++ b)=gae a ++ gae b:=by simp [gae]
theorem uat (a:List (Pl × Value × Value)):(gae a).length=a.length * 4:=by
 induction a with
 | nil=>rfl
 | cons r rs ih=>simp only [gae,List.flatMap_cons,List.length_append,List.length_cons] at *; rw [ih]; simp [plC]; omega
theorem ga0 (rs:List (Pl × Value × Value)) (k:Nat) (hk:k < rs.length) (j:Nat) (hj:j < 4):(gae rs)[k * 4+j]?=(plC rs[k])[j]?:=by
 induction rs generalizing k with
 | nil=>simp at hk
 | cons r rs ih =>
   have hl:(plC r).length=4:=rfl;simp only [gae,List.flatMap_cons];cases k with
   | zero=>simp only [Nat.zero_mul,Nat.zero_add,List.getElem_cons_zero]; rw [List.getElem?_append_left (by omega)]
   | succ k =>
     rw [List.getElem?_append_right (by omega),hl,show (k+1) * 4+j - 4=k * 4+j by omega];exact ih k (by simpa using hk)
def kw (base:Nat) (q:Nat->Prop) (W:World) (v:Value) (l:List Pl):Prop:=
 ∃ rs:List (Pl × Value × Value),rs.map (fun r=>r.1)=l/\yj 44 4 base W v rs.length (gae rs)/\∀ r ∈ rs,(∃ A0 n0 c0 A1 n1 c1,r.2=(.slice A0 n0 c0,.slice A1 n1 c1))/\PlV W (fun b=>v.ownBlock ≠ some b/\q b) r.1 (plV r.1 r.2.1 r.2.2)
section
variable {base:Nat} {q:Nat->Prop} {W W':World} {v:Value} {l:List Pl}
theorem kw.nil (base:Nat) (q:Nat->Prop) (W:World):kw base q W (.slice none 0 0) []:=⟨[],rfl,yj.nil _ _ _ _,by simp⟩
theorem kw.own (h:kw base q W v l) {R:Nat} (hR:v.ownBlock=some R):base<=R/\R < W.heap.size:=by
 obtain ⟨rs,-,h2,-⟩:=h;exact h2.own hR
theorem kw.len (h:kw base q W v l):∃ A c,v=.slice A l.length c/\l.length<=c/\c<=9223372036854775807:=by
 obtain ⟨rs,rfl,h2,-⟩:=h;rw [List.length_map];exact h2.len
theorem kw.ext (h:kw base q W v l) (hx:Ext W W'):kw base q W' v l:=by
 obtain ⟨rs,e,h2,h3⟩:=h;exact ⟨rs,e,h2.ext hx,fun r hr=>⟨(h3 r hr).1,(h3 r hr).2.ext hx⟩⟩
theorem kw.at_ {A:Option Addr} {n c:Nat} (h:kw base q W (.slice A n c) l):jf W (fun b=>base<=b\/q b) l A 0:=by
 obtain ⟨rs,rfl,h2,h3⟩:=h;refine jf.of _ _ 0 fun i hi=>?_
 rw [List.length_map] at hi;obtain ⟨g,c',e',-,-,hbg,hlt,-⟩:=h2.pos (by omega);injection e' with e1 e2 e3
 subst e1 e2 e3;have hcell:∀ j,j < 4->W.cell? ⟨g,i * 4+j,none⟩=(plC rs[i])[j]?:=by
  intro j hj;rw [h2.cell (i * 4+j) (by omega)];exact ga0 rs i hi j hj
 refine ⟨⟨g,0,none⟩,rs[i].2.1,rs[i].2.2,rfl,hlt,.inl hbg,?_,?_⟩
 · rw [yx,Nat.zero_add,Nat.zero_add,List.getElem_map];exact ⟨hcell 0 (by omega),hcell 1 (by omega),hcell 2 (by omega),hcell 3 (by omega)⟩
 · rw [List.getElem_map]; exact (h3 rs[i] (List.getElem_mem hi)).2.mono fun b hb=>.inr hb.2
end
theorem wbw (a:Addr) (n:Nat):(a.add n).off=a.off+n:=by unfold Addr.add; split <;> simp_all
theorem wct (a:Addr) (n:Nat) (h:0 < n):a.add n=⟨a.block,a.off+n,none⟩:=by unfold Addr.add; rw [if_neg (by omega)]
theorem qad.cells {W:World} {ad:Addr} {r:Pl × Value × Value} {i:Nat} (h:qad W (ad.add (i * 4)) r.1 r.2.1 r.2.2) (j:Nat) (hj:j < 4) (u:Value) (hu:(plC r)[j]?=some u):W.cell? (ad.add (i * 4+j))=some u:=by
 obtain ⟨h0,h1,h2,h3⟩:=h;rw [jb,wbw] at h1 h2 h3;rcases (show j=0\/j=1\/j=2\/j=3 by omega) with rfl | rfl | rfl | rfl
 · simp only [plC,List.getElem?_cons_zero,Option.some.injEq] at hu;subst hu; exact h0
 all_goals
  rw [wct _ _ (by omega)];simp only [plC,List.getElem?_cons_zero,List.getElem?_cons_succ,Option.some.injEq] at hu;subst hu
  first | exact h1 | exact h2 | exact h3
theorem kw.append_ {base:Nat} {q:Nat->Prop} {W:World} {ov:Value} {l:List Pl} {ad:Addr} (h:kw base q W ov l) (hbase:base<=W.heap.size) (rs2:List (Pl × Value × Value)) (e2:∀ r ∈ rs2,(∃ A0 n0 c0 A1 n1 c1,r.2=(.slice A0 n0 c0,.slice A1 n1 c1))/\PlV W (fun b=>ov.ownBlock ≠ some b/\q b) r.1 (plV r.1 r.2.1 r.2.2)) (e3:∀ i (hi:i < rs2.length),qad W (ad.add (i * 4)) rs2[i].1 rs2[i].2.1 rs2[i].2.2) (hpos:0 < rs2.length) (hlen:l.length+rs2.length<=1000000000) (c:Nat) (ty:TypeId) :
 ∃ v4 w4,(Builtin.append_ #[42,42] ty #[ov,.slice (some ad) rs2.length c]).run Tryz.prog W=.ok v4 w4/\W.grownBy w4 ov.ownBlock/\(∀ v ds,ja W v ds->ja w4 v ds)/\kw base q w4 v4 (l ++ rs2.map (fun r=>r.1))/\(v4.ownBlock=ov.ownBlock\/v4.ownBlock=some W.heap.size):=by
 obtain ⟨rs,rfl,h2,h3⟩:=h;rw [List.length_map] at hlen;obtain ⟨v4,w4,hrun,r1,r2,r3,r4⟩:=h2.append kcd hbase ad rs2.length c (gae rs2) (uat rs2) (by
  intro j u hu;have hj:j < rs2.length * 4:=by rw [<- uat]; exact (List.getElem?_eq_some_iff.1 hu).1
  have hd:j / 4 * 4+j % 4=j:=by omega
  have hm:=e3 (j / 4) (by omega);have hg:=ga0 rs2 (j / 4) (by omega) (j % 4) (by omega);rw [hd,hu] at hg;have:=hm.cells (j % 4) (by omega) u hg.symm
  rwa [hd] at this) (by
  intro u hu;simp only [gae,List.mem_flatMap] at hu;obtain ⟨r,hr,hu⟩:=hu;obtain ⟨⟨A0,n0,c0,A1,n1,c1,er⟩,-⟩:=e2 r hr;simp only [plC,er,List.mem_cons,List.not_mem_nil,or_false] at hu
  rcases hu with rfl | rfl | rfl | rfl <;> exact ⟨rfl,rfl⟩) hpos (by omega) (by omega) ty
 refine ⟨v4,w4,hrun,r2,r3,⟨rs ++ rs2,by simp,?_,fun r hr=>?_⟩,r4⟩
 · rw [zbm,List.length_append]; exact r1
 · have hv4:∀ b,b < W.heap.size->ov.ownBlock ≠ some b->v4.ownBlock ≠ some b:=by
    intro b hb hne e;rcases r4 with r4 | r4
    · exact hne (by rw [<- r4]; exact e)
    · rw [r4] at e; injection e with e; omega
   have hblk:∀ b,b < W.heap.size->ov.ownBlock ≠ some b->w4.heap[b]?=W.heap[b]?:=fun b hb hne=>World.grownBy.block r2 b hb (fun e=>hne e.symm)
   rcases List.mem_append.1 hr with hr | hr
   · exact ⟨(h3 r hr).1,PlV.turn_ r2.size r3 (fun b hb hp=>⟨⟨hv4 b hb hp.1,hp.2⟩,hblk b hb hp.1⟩) (h3 r hr).2⟩
   · exact ⟨(e2 r hr).1,PlV.turn_ r2.size r3 (fun b hb hp=>⟨⟨hv4 b hb hp.1,hp.2⟩,hblk b hb hp.1⟩) (e2 r hr).2⟩
theorem kw.push {base:Nat} {q:Nat->Prop} {W:World} {ov:Value} {l:List Pl} (h:kw base q W ov l) (hbase:base<=W.heap.size) {x:Pl} {A0 A1:Option Addr} {n0 c0 n1 c1:Nat} (hx:PlV W (fun b=>ov.ownBlock ≠ some b/\q b) x (plV x (.slice A0 n0 c0) (.slice A1 n1 c1))) (hlen:l.length+1<=1000000000) (ty:TypeId) :
 ∃ v4 w4,(Builtin.append_ #[42,42] ty #[ov,.slice (some ⟨W.heap.size,0,none⟩) 1 1]).run Tryz.prog (W.alloc (.cells #[.int .i64 x.lv,.bool x.neg,.slice A0 n0 c0,.slice A1 n1 c1] 44))=.ok v4 w4/\W.grownBy w4 ov.ownBlock/\(∀ v ds,ja W v ds->ja w4 v ds)/\kw base q w4 v4 (l ++ [x])/\(v4.ownBlock=ov.ownBlock\/v4.ownBlock=some (W.heap.size+1)):=by
 have hxa:Ext W (W.alloc (.cells #[.int .i64 x.lv,.bool x.neg,.slice A0 n0 c0,.slice A1 n1 c1] 44)):=(Ext.refl W).alloc _;obtain ⟨v4,w4,hrun,h2,h3,h4,h5⟩:=(h.ext hxa).append_ (ad:=⟨W.heap.size,0,none⟩) (by have:=hxa.size; omega) [(x,.slice A0 n0 c0,.slice A1 n1 c1)] (by
  intro r hr;obtain rfl:=List.mem_singleton.1 hr;exact ⟨⟨_,_,_,_,_,_,rfl⟩,hx.ext hxa⟩) (by
  intro i hi;obtain rfl:i=0:=by simpa using hi
  rw [Nat.zero_mul,yx,Nat.zero_add]
  refine ⟨?_,?_,?_,?_⟩ <;> simp [go_sem]) (by simp) (by simpa using hlen) 1 ty
 refine ⟨v4,w4,hrun,⟨h2.os.trans hxa.below.os,h2.tape.trans hxa.below.tape,h2.output.trans hxa.below.output,Nat.le_trans hxa.size h2.size,fun i hi hne=>(World.grownBy.block h2 i (Nat.lt_of_lt_of_le hi hxa.size) hne).trans (hxa.below.block i hi)⟩,fun v ds hv=>h3 v ds (hv.ext hxa),h4,?_⟩
 rwa [World.size_alloc] at h5
end Go.Proofs.YtheefiaoimbeiaaGreatDoor

/- Rows of integers that a call makes and fills. -/
namespace Go.Proofs.YtheefiaoimbeiaaGreatDoor
open Go.RowKit
def vav (W:World) (R:Nat) (l:List Int):Prop:=
 R < W.heap.size/\(∀ i,W.frozen? ⟨R,i,none⟩=false)/\∀ i (h:i < l.length),∃ A n c,W.cell? ⟨R,i * 2,none⟩=some (.bool (decide (l[i] < 0)))/\W.cell? ⟨R,i * 2+1,none⟩=some (.slice A n c)/\ja W (.slice A n c) (dg l[i].natAbs)
section
variable {W W':World} {R:Nat} {l:List Int}
theorem vav.ext (h:vav W R l) (hx:Ext W W'):vav W' R l:=by
 obtain ⟨h1,h2,h3⟩:=h;refine ⟨Nat.lt_of_lt_of_le h1 hx.size,fun i=>(hx.frozen (p:=⟨R,i,none⟩) h1).trans (h2 i),fun i hi=>?_⟩;obtain ⟨A,n,c,h4,h5,h6⟩:=h3 i hi;exact ⟨A,n,c,(hx.cell (p:=⟨R,i * 2,none⟩) h1).trans h4,(hx.cell (p:=⟨R,i * 2+1,none⟩) h1).trans h5,h6.ext hx⟩
theorem vav.fin (h:vav W R l) (c:Nat) (h1:l.length<=c) (h2:c<=9223372036854775807):IsV W (.slice (some ⟨R,0,none⟩) l.length c) l:=by
 obtain ⟨h3,-,h4⟩:=h;refine ⟨_,c,rfl,h1,h2,fun k hk=>?_⟩;obtain ⟨A,n,d,h5,h6,h7⟩:=h4 k hk;refine ⟨⟨R,0,none⟩,A,n,d,rfl,h3,?_,?_,h7⟩
 · rw [yx,Nat.zero_add]; exact h5
 · rw [yx,Nat.zero_add]; exact h6
theorem vav.set_ (h:vav W R l) (k:Nat) (hk:k < l.length) (z:Int) {A:Option Addr} {n c:Nat} (hz:ja W (.slice A n c) (dg z.natAbs)) :
 vav ((W.setCell ⟨R,k * 2,none⟩ (.bool (decide (z < 0)))).setCell ⟨R,k * 2+1,none⟩ (.slice A n c)) R (l.set k z):=by
 obtain ⟨h1,h2,h3⟩:=h;obtain ⟨B,m,d,g0,g1,-⟩:=h3 k hk;have q1:(W.setCell ⟨R,k * 2,none⟩ (.bool (decide (z < 0)))).cell? ⟨R,k * 2+1,none⟩=some (.slice B m d):=by rw [World.cell?_setCell_other _ _ _ _ (by intro e; injection e; omega)]; exact g1
 have hnat:∀ v ds,ja W v ds->ja ((W.setCell ⟨R,k * 2,none⟩ (.bool (decide (z < 0)))).setCell ⟨R,k * 2+1,none⟩ (.slice A n c)) v ds:=fun v ds hv=>(hv.box g0 rfl _).box q1 rfl _
 refine ⟨by simpa [World.setCell] using h1,fun i=>by rw [World.frozen?_setCell,World.frozen?_setCell]; exact h2 i,fun i hi=>?_⟩;rw [List.length_set] at hi
 by_cases hik:i=k
 · subst hik;rw [List.getElem_set_self];refine ⟨A,n,c,?_,World.cell?_setCell_same _ _ _ q1,hnat _ _ hz⟩;rw [World.cell?_setCell_other _ _ _ _ (by intro e; injection e; omega)];exact World.cell?_setCell_same _ _ _ g0
 · rw [List.getElem_set_ne (Ne.symm hik)];obtain ⟨C,j,f,h4,h5,h6⟩:=h3 i hi;refine ⟨C,j,f,?_,?_,hnat _ _ h6⟩
   · rw [World.cell?_setCell_other _ _ _ _ (by intro e; injection e; omega),World.cell?_setCell_other _ _ _ _ (by intro e; injection e; omega)]; exact h4
   · rw [World.cell?_setCell_other _ _ _ _ (by intro e; injection e; omega),World.cell?_setCell_other _ _ _ _ (by intro e; injection e; omega)]; exact h5
end
theorem gb6:(Tryz.prog.info? 25).map (fun i=>(i.zero,i.size,i.bytes))=some (some (.agg #[.bool false,.slice none 0 0]),2,32):=by kernel_rfl
theorem ybj (n:Int) (h0:0<=n) (h1:n<=1099511627776) (w:World) :
 ∃ w',(Instr.makeSlice 54 (.int .i64 n) (.int .i64 n)).run Tryz.prog w=.ok (.slice (some ⟨w.heap.size,0,none⟩) n.toNat n.toNat) w'/\Ext w w'/\w'.heap.size=w.heap.size+1/\vav w' w.heap.size (List.replicate n.toNat 0):=by
 obtain ⟨i0,hi,hz0,hz1,hz2⟩:=info_parts gb6;refine ⟨_,run_make w 54 25 i0 _ Tryz.underlying54 hi hz0 .i64 .i64 n n h0 (by omega) (by rw [hz2]; omega) (by omega),(Ext.refl w).alloc _,by simp,⟨by simp,fun i=>by simp [go_sem],fun i hi2=>?_⟩⟩;rw [List.length_replicate] at hi2;have hc:∀ j,j < 2->(w.alloc (.cells (madeCells (Value.agg #[.bool false,.slice none 0 0]).cells (n.toNat * i0.size)) 25)).cell? ⟨w.heap.size,i * 2+j,none⟩=#[Value.bool false,.slice none 0 0][j]?:=by
  intro j hj;have hlt:i * 2+j < n.toNat * 2:=by omega
  have hmod:(i * 2+j) % 2=j:=by omega
  rw [cell_of_row _ _ (i * 2+j) _ _ (0,0) (heap_alloc_new w _)];rw [hz1];unfold madeCells;rw [Array.getElem?_map,Array.getElem?_range,if_pos hlt];show some ((#[Value.bool false,.slice none 0 0]:Array Value)[(i * 2+j) % 2]!)=_;rw [hmod];rcases (show j=0\/j=1 by omega) with rfl | rfl <;> rfl
 rw [List.getElem_replicate];exact ⟨none,0,0,hc 0 (by omega),hc 1 (by omega),by rw [Int.natAbs_zero,jm]; exact ja.nil _⟩
end Go.Proofs.YtheefiaoimbeiaaGreatDoor

/- Layer 22: recpoly.trim. -/
set_option maxRecDepth 100000
set_option maxHeartbeats 8000000
namespace Go.Proofs.YtheefiaoimbeiaaGreatDoor
open Go.RowKit
theorem jf.take {w:World} {q:Nat->Prop} {l:List Pl} {A:Option Addr} (h:jf w q l A 0) (n:Nat):jf w q (l.take n) A 0:=by
 refine jf.of _ _ _ fun i hi=>?_
 rw [List.length_take] at hi;obtain ⟨ad,s,K,e,h1,h2,h3,h4⟩:=h.get_ l A 0 i (by omega);refine ⟨ad,s,K,e,h1,h2,?_,?_⟩
 · rw [List.getElem_take]; exact h3
 · rw [List.getElem_take]; exact h4
theorem vbd {w:World} {q:Nat->Prop} (l:Int) (cs:List Pl) (A:Option Addr) (c:Nat) (h:jf w q cs A 0) (hl1:cs.length<=c) (hl2:c<=9223372036854775807) :
 Calls Tryz.prog 126 #[.int .i64 l,.slice A cs.length c] w (ji q (xaf l cs) w):=by
 have hh:jf w (fun b=>q b/\b < w.heap.size) cs A 0:=jf.turn (Nat.le_refl _) (fun _ _ h=>h) (fun b hb hq=>⟨⟨hq,hb⟩,rfl⟩) cs A 0 h;have HH:=Lib.hid hh;obtain ⟨W,hW⟩:=n_m (w.alloc (.cells #[.int .i64 0,.bool false,.slice none 0 0,.slice none 0 0] 44));have hWx:Ext w W:=by rw [<- hW]; exact (Ext.refl w).alloc _
 have hWs:W.heap.size=w.heap.size+1:=by rw [<- hW]; simp
 have hz:yh W w.heap.size:=by rw [<- hW]; exact yh.new w _
 have HWX:=Lib.hid hWx;have HZ:=Lib.hid hz;clear h hh hWx hz;go_enter Tryz.func126,Tryz.ntmps126;go_wp2_with fail;clear hW
 go_loopw [5] (fun nv wr=>∃ n:Nat,n<=cs.length/\nv=.int .i64 n/\Hid (vw cs=vw (cs.take n)/\Ext W wr)) (fun nv _=>(intOf nv).toNat)
 case atStart=>exact ⟨cs.length,Nat.le_refl _,rfl,⟨by rw [List.take_length],Ext.refl W⟩⟩
 case round =>
  obtain ⟨n,hn,rfl,⟨hst,hx⟩⟩:=hrel;have HST:=Lib.hid hst;have HX:=Lib.hid hx;have hws:=hx.size;clear hst hx;cases n with
  | zero =>
    have HT:Hid (xaf l cs=Pl.zero):=Lib.hid (by
     rw [qa5 (Nat.zero_le _) (by rw [HST.out]; rfl),if_pos rfl])
    have hzn:=HZ.out.ext HX.out (by omega);have HF:Hid (ji q (xaf l cs) w (.returned (plV Pl.zero (.slice none 0 0) (.slice none 0 0))) ((((wr.setCell ⟨w.heap.size,0,none⟩ (.int .i64 0)).setCell ⟨w.heap.size,1,none⟩ (.bool false)).setCell ⟨w.heap.size,2,none⟩ (.slice none 0 0)).setCell ⟨w.heap.size,3,none⟩ (.slice none 0 0))):=by
     rw [HT.out];exact qi (p:=Pl.zero) (q:=fun _=>False) (HWX.out.trans HX.out) (Nat.le_refl _) hzn (Pl.zero_v _ _ none 0 (by omega)) (fun b _ h=>h.elim)
    obtain ⟨⟨z0,z1,z2,z3⟩,zf⟩:=hzn;clear hn;go_wp2_with fail;exact bodyPost_ret (v:=plV Pl.zero (.slice none 0 0) (.slice none 0 0)) (by simp [results,Tryz.results126,go_sem,z0,z1,z2,z3,plV,Pl.zero,Pl.lv,Pl.neg]) rfl HF.out
  | succ n =>
    have hlt:n < cs.length:=by omega
    obtain ⟨ad,C0,j0,g0,C1,j1,g1,rfl,hadb,hnd,hkt⟩:=jf.kid HH.out n hlt;have hxx:=HWX.out.trans HX.out;obtain ⟨a0,a1,a2,a3⟩:=hnd.ext hxx (by rw [jb]; exact hadb);have HIZ:=Lib.hid (uah _ _ (hkt.ext hxx));have hwn:IntKind.i64.wrap (((n+1:Nat):Int) - 1)=(n:Int):=by rw [IntKind.wrap_i64]; omega
    have HTK:Hid (cs.take (n+1)=cs.take n ++ [cs[n]]):=Lib.hid (List.take_succ_eq_append_getElem hlt);have HIZ2:Hid (cs[n].isZ=false->vw cs=cs.take (n+1)):=Lib.hid (fun hz=>by rw [HST.out,HTK.out,ub2 hz]);have HIZ3:Hid (cs[n].isZ=true->vw cs=vw (cs.take n)):=Lib.hid (fun hz=>by rw [HST.out,HTK.out,qbo hz]);have hpos:(0:Int) < ((n+1:Nat):Int):=by omega
    unfold plV at HIZ;generalize cs[n].isZ=bz at *;generalize cs[n]=cn at *;clear hnd hkt hadb;go_wp2_with fail;clear a0 a1 a2 a3;refine HIZ.out.mono ?_;rintro e w2 ⟨rfl,x2⟩;have X2:=Lib.hid (HX.out.trans x2);clear x2 HIZ;cases bz
    · have HS:=Lib.hid (HIZ2.out rfl);have hzn:=HZ.out.ext X2.out (by omega);cases n with
      | zero =>
        have HT:Hid (xaf l cs=cs[0]):=Lib.hid (by
         rw [qa5 (show 0+1<=cs.length by omega) HS.out,if_neg (by omega),dif_pos ⟨rfl,hlt⟩])
        obtain ⟨ad',D0,i0,h0,D1,i1,h1,e4,hadb,hnd,hkt⟩:=jf.kid HH.out 0 hlt;injection e4 with e4
        subst e4;have hxx2:=HWX.out.trans X2.out;obtain ⟨a0,a1,a2,a3⟩:=hnd.ext hxx2 (by rw [jb]; exact hadb);have HF:Hid (ji q (xaf l cs) w (.returned (plV cs[0] (.slice D0 i0 h0) (.slice D1 i1 h1))) ((((w2.setCell ⟨w.heap.size,0,none⟩ (.int .i64 cs[0].lv)).setCell ⟨w.heap.size,1,none⟩ (.bool cs[0].neg)).setCell ⟨w.heap.size,2,none⟩ (.slice D0 i0 h0)).setCell ⟨w.heap.size,3,none⟩ (.slice D1 i1 h1))):=by
         rw [HT.out];exact qi hxx2 (Nat.le_refl _) hzn (hkt.ext hxx2) (fun b _ hb=>⟨by omega,hb.1⟩)
        rw [show ad.add (0 * 4)=ad by simp [Addr.add]] at a0 a1 a2 a3;have hb1:=hadb;obtain ⟨⟨z0,z1,z2,z3⟩,zf⟩:=hzn;clear hnd hkt hn hwn;generalize cs[0]=c0' at *;go_wp2_with fail;exact bodyPost_ret (v:=plV c0' (.slice D0 i0 h0) (.slice D1 i1 h1)) (by simp [results,Tryz.results126,go_sem,z0,z1,z2,z3,plV]) rfl HF.out
      | succ n =>
        have HT:Hid (xaf l cs=.mk l false [] (cs.take (n+2))):=Lib.hid (by
         rw [qa5 (show n+2<=cs.length by omega) HS.out,if_neg (by omega),dif_neg (by omega)])
        have hln:(cs.take (n+2)).length=n+2:=by rw [List.length_take]; omega
        have HF:Hid (ji q (xaf l cs) w (.returned (plV (.mk l false [] (cs.take (n+2))) (.slice none 0 0) (.slice (some ad) (n+2) (n+2)))) ((((w2.setCell ⟨w.heap.size,0,none⟩ (.int .i64 l)).setCell ⟨w.heap.size,1,none⟩ (.bool false)).setCell ⟨w.heap.size,2,none⟩ (.slice none 0 0)).setCell ⟨w.heap.size,3,none⟩ (.slice (some ad) (n+2) (n+2)))):=by
         rw [HT.out];have h1:=PlV.mk (t:=.mk l false [] (cs.take (n+2))) (c:=n+2) (ja.nil w2) (by simp only [Pl.cs]; omega) (by omega) ((HH.out.take (n+2)).ext (HWX.out.trans X2.out));rw [show (Pl.mk l false [] (cs.take (n+2))).cs.length=n+2 from hln] at h1;exact qi (p:=.mk l false [] (cs.take (n+2))) (HWX.out.trans X2.out) (Nat.le_refl _) hzn h1 (fun b _ hb=>⟨by omega,hb.1⟩)
        obtain ⟨⟨z0,z1,z2,z3⟩,zf⟩:=hzn;have hn1:((((n+1+1:Nat):Int)) == 0)=false:=by simp; omega
        have hn2:((((n+1+1:Nat):Int)) == 1)=false:=by simp; omega
        clear hwn;go_wp2_with fail;exact bodyPost_ret (v:=plV (.mk l false [] (cs.take (n+2))) (.slice none 0 0) (.slice (some ad) (n+2) (n+2))) (by simp [results,Tryz.results126,go_sem,z0,z1,z2,z3,plV,Pl.lv,Pl.neg]) rfl HF.out
    · have HS:=Lib.hid (HIZ3.out rfl);go_wp2_with fail
      go_roundw
      case rel=>exact ⟨n,by omega,by go_num,⟨HS.out,X2.out⟩⟩
      case measure=>simp [intOf]
end Go.Proofs.YtheefiaoimbeiaaGreatDoor

/- The negative of a canonical polynomial, plain. No program in sight. -/
namespace Go.Proofs.YtheefiaoimbeiaaGreatDoor
def Pl.opp (p:Pl):Pl:=p.mul (Pl.const (-1))
theorem Pl.opp_can (p:Pl):p.opp.Can:=Pl.mul_can _ _
theorem Pl.opp_val (ρ:Int->Rat) (p:Pl):p.opp.val ρ=- p.val ρ:=by unfold Pl.opp; rw [Pl.mul_val,Pl.const_val]; push_cast; grind
theorem Fit.opp {p:Pl} {E D:Nat} (h:Fit p E D):Fit p.opp E (D+1):=h.mul (F:=0) (G:=1) (Fit.const (by decide))
end Go.Proofs.YtheefiaoimbeiaaGreatDoor

/- Reference 38: roomPoly, FewPoly: how many coefficients a polynomial has, up to a limit. -/
namespace Go.Proofs.YtheefiaoimbeiaaGreatDoor
open Go.RowKit
end Go.Proofs.YtheefiaoimbeiaaGreatDoor

/- Layer 38: matrices as values. -/
namespace Go.Proofs.YtheefiaoimbeiaaGreatDoor
open Go.RowKit
inductive Mx where
 | mk (kind rel:Int) (p:Pl) (ks:List Mx)
def Mx.kind : Mx -> Int
 | .mk k _ _ _=>k
def Mx.rel : Mx -> Int
 | .mk _ r _ _=>r
def Mx.p : Mx -> Pl
 | .mk _ _ p _=>p
def Mx.ks : Mx -> List Mx
 | .mk _ _ _ ks=>ks
def mxV (m:Mx) (s A K:Value):Value:=.agg #[.int .i64 m.kind,.int .i64 m.rel,.int .i64 m.p.lv,.bool m.p.neg,s,A,K]
def vay (w:World) (ad:Addr) (m:Mx) (s A K:Value):Prop:=
 w.cell? ad=some (.int .i64 m.kind)/\w.cell? ⟨ad.block,ad.off+1,none⟩=some (.int .i64 m.rel)/\w.cell? ⟨ad.block,ad.off+2,none⟩=some (.int .i64 m.p.lv)/\w.cell? ⟨ad.block,ad.off+3,none⟩=some (.bool m.p.neg)/\w.cell? ⟨ad.block,ad.off+4,none⟩=some s/\w.cell? ⟨ad.block,ad.off+5,none⟩=some A/\w.cell? ⟨ad.block,ad.off+6,none⟩=some K
mutual
def MxV (w : World) (q : Nat -> Prop) : Mx -> Value -> Prop
 | .mk k r p ks,v=>∃ s A K c,v=.agg #[.int .i64 k,.int .i64 r,.int .i64 p.lv,.bool p.neg,s,A,.slice K ks.length c]/\PlV w q p (plV p s A)/\ks.length<=c/\c<=9223372036854775807/\qac w q ks K 0
def qac (w : World) (q : Nat -> Prop) : List Mx -> Option Addr -> Nat -> Prop
 | [],_,_=>True
 | t :: r,A,j=>(∃ ad s B K,A=some ad/\ad.block < w.heap.size/\q ad.block/\vay w (ad.add (j * 7)) t s B K/\MxV w q t (mxV t s B K))/\qac w q r A (j+1)
end
section
variable {w w':World} {p q:Nat->Prop}
theorem qac.get_ (l:List Mx):∀ (A:Option Addr) (j:Nat),qac w p l A j->∀ i (h:i < l.length),∃ ad s B K,A=some ad/\ad.block < w.heap.size/\p ad.block/\vay w (ad.add ((j+i) * 7)) l[i] s B K/\MxV w p l[i] (mxV l[i] s B K):=by
 induction l with
 | nil=>intro A j h i hi; simp at hi
 | cons t r ih =>
   intro A j h i hi;unfold qac at h;cases i with
   | zero=>exact h.1
   | succ i =>
     have:=ih A (j+1) h.2 i (by simpa using hi);rw [show j+(i+1)=j+1+i by omega];exact this
theorem vay.same {ad:Addr} {t:Mx} {s A K:Value} (h:vay w ad t s A K) (k0:w'.cell? ad=w.cell? ad) (k:∀ n,n < 7->w'.cell? ⟨ad.block,ad.off+n,none⟩=w.cell? ⟨ad.block,ad.off+n,none⟩):vay w' ad t s A K:=by
 obtain ⟨h0,h1,h2,h3,h4,h5,h6⟩:=h;exact ⟨k0.trans h0,(k 1 (by omega)).trans h1,(k 2 (by omega)).trans h2,(k 3 (by omega)).trans h3,(k 4 (by omega)).trans h4,(k 5 (by omega)).trans h5,(k 6 (by omega)).trans h6⟩
theorem vay.ext {ad:Addr} {t:Mx} {s A K:Value} (h:vay w ad t s A K) (hx:Ext w w') (hb:ad.block < w.heap.size):vay w' ad t s A K:=h.same (hx.cell hb) (fun n _=>hx.cell (p:=⟨ad.block,ad.off+n,none⟩) hb)
mutual
theorem MxV.turn (hs : w.heap.size <= w'.heap.size) (hn : ∀ v ds, ja w v ds -> ja w' v ds) (hc : ∀ b, b < w.heap.size -> p b -> q b /\ w'.heap[b]? = w.heap[b]?) : ∀ (t : Mx) (v : Value), MxV w p t v -> MxV w' q t v
 | .mk k r pl ks,v,h=>by
   unfold MxV at h ⊢;obtain ⟨s,A,K,c,e,h1,h2,h3,h4⟩:=h;exact ⟨s,A,K,c,e,PlV.turn_ hs hn hc h1,h2,h3,qac.turn hs hn hc ks K 0 h4⟩
theorem qac.turn (hs : w.heap.size <= w'.heap.size) (hn : ∀ v ds, ja w v ds -> ja w' v ds) (hc : ∀ b, b < w.heap.size -> p b -> q b /\ w'.heap[b]? = w.heap[b]?) : ∀ (l : List Mx) (A : Option Addr) (j : Nat), qac w p l A j -> qac w' q l A j
 | [],A,j,h=>by unfold qac; trivial
 | t :: r,A,j,h=>by
   unfold qac at h ⊢;obtain ⟨⟨ad,s,B,K,e,hb,hpb,h1,h2⟩,h3⟩:=h;obtain ⟨hq,hk⟩:=hc _ hb hpb;exact ⟨⟨ad,s,B,K,e,Nat.lt_of_lt_of_le hb hs,hq,h1.same (World.cell?_of_block (by rw [jb]; exact hk)) (fun n _=>World.cell?_of_block (a:=⟨(ad.add (j * 7)).block,(ad.add (j * 7)).off+n,none⟩) (by show w'.heap[(ad.add (j * 7)).block]?=_; rw [jb]; exact hk)),MxV.turn hs hn hc t _ h2⟩,qac.turn hs hn hc r A (j+1) h3⟩
end
theorem MxV.turn_ {t:Mx} {v:Value} (hs:w.heap.size<=w'.heap.size) (hn:∀ v ds,ja w v ds->ja w' v ds) (hc:∀ b,b < w.heap.size->p b->q b/\w'.heap[b]?=w.heap[b]?) (h:MxV w p t v):MxV w' q t v:=MxV.turn hs hn hc t v h
theorem MxV.ext {t:Mx} {v:Value} (h:MxV w p t v) (hx:Ext w w'):MxV w' p t v:=MxV.turn hx.size (fun _ _ h=>h.ext hx) (fun b hb hp=>⟨hp,hx.below.block b hb⟩) t v h
theorem MxV.mono {t:Mx} {v:Value} (h:MxV w p t v) (hp:∀ b,p b->q b):MxV w q t v:=MxV.turn (Nat.le_refl _) (fun _ _ h=>h) (fun b _ h=>⟨hp b h,rfl⟩) t v h
theorem MxV.open_ {t:Mx} {v:Value} (h:MxV w p t v):∃ A0 n0 c0 A n1 c1 K c,v=mxV t (.slice A0 n0 c0) (.slice A n1 c1) (.slice K t.ks.length c)/\PlV w p t.p (plV t.p (.slice A0 n0 c0) (.slice A n1 c1))/\t.ks.length<=c/\c<=9223372036854775807/\qac w p t.ks K 0:=by
 cases t with
 | mk k r pl ks =>
   unfold MxV at h;obtain ⟨s,A,K,c,e,h1,h2,h3,h4⟩:=h;obtain ⟨A0,n0,c0,A1,c1,e2,-,-⟩:=h1.open_;unfold plV at e2;simp only [Value.agg.injEq,Array.mk.injEq,List.cons.injEq,and_true,true_and] at e2;obtain ⟨rfl,rfl⟩:=e2;exact ⟨A0,n0,c0,A1,_,c1,K,c,e,h1,h2,h3,h4⟩
theorem MxV.mk {t:Mx} {s A:Value} {K:Option Addr} {c:Nat} (h1:PlV w p t.p (plV t.p s A)) (h2:t.ks.length<=c) (h3:c<=9223372036854775807) (h4:qac w p t.ks K 0):MxV w p t (mxV t s A (.slice K t.ks.length c)):=by
 cases t with
 | mk k r pl ks=>unfold MxV; exact ⟨s,A,K,c,rfl,h1,h2,h3,h4⟩
theorem qac.kid {l:List Mx} {A:Option Addr} (h:qac w p l A 0) (k:Nat) (hk:k < l.length):∃ ad A0 n0 c0 A1 n1 c1 K n2 c2,A=some ad/\ad.block < w.heap.size/\vay w (ad.add (k * 7)) l[k] (.slice A0 n0 c0) (.slice A1 n1 c1) (.slice K n2 c2)/\MxV w p l[k] (mxV l[k] (.slice A0 n0 c0) (.slice A1 n1 c1) (.slice K n2 c2)):=by
 obtain ⟨ad,s,B,K,e,hb,-,h1,h2⟩:=qac.get_ l A 0 h k hk;rw [Nat.zero_add] at h1;obtain ⟨A0,n0,c0,A1,n1,c1,K',c',e2,-,-⟩:=h2.open_;unfold mxV at e2;simp only [Value.agg.injEq,Array.mk.injEq,List.cons.injEq,and_true,true_and] at e2;obtain ⟨rfl,rfl,rfl⟩:=e2;exact ⟨ad,A0,n0,c0,A1,n1,c1,K',_,c',e,hb,h1,h2⟩
end
end Go.Proofs.YtheefiaoimbeiaaGreatDoor

/- Reference 38: room, Few: how many nodes a matrix has, up to a limit, and that its polynomials are small. -/
namespace Go.Proofs.YtheefiaoimbeiaaGreatDoor
open Go.RowKit
mutual
def Mx.sz : Mx -> Nat
 | .mk _ _ _ ks=>qav ks+1
def qav : List Mx -> Nat
 | []=>0
 | t :: r=>t.sz+qav r
end
theorem ucf {l:List Mx} {t:Mx} (h:t ∈ l):t.sz<=qav l:=by
 induction l with
 | nil=>cases h
 | cons x r ih =>
   rcases List.mem_cons.1 h with rfl | h
   · rw [qav]; omega
   · have:=ih h; rw [qav]; omega
theorem gcf (l:List Mx):l.length<=qav l:=by
 induction l with
 | nil=>exact Nat.le_refl _
 | cons x r ih=>cases x; rw [qav,Mx.sz]; simp only [List.length_cons]; omega
def vad (w:World) (g:Nat) (m:Mx) (s A K:Value):Prop:=
 w.cell? ⟨g,0,none⟩=some (.int .i64 m.kind)/\w.cell? ⟨g,1,none⟩=some (.int .i64 m.rel)/\w.cell? ⟨g,2,none⟩=some (.int .i64 m.p.lv)/\w.cell? ⟨g,3,none⟩=some (.bool m.p.neg)/\w.cell? ⟨g,4,none⟩=some s/\w.cell? ⟨g,5,none⟩=some A/\w.cell? ⟨g,6,none⟩=some K
theorem vad.turn {w w':World} {g:Nat} {m:Mx} {s A K:Value} (h:vad w g m s A K) (hb:w'.heap[g]?=w.heap[g]?):vad w' g m s A K:=by
 obtain ⟨h0,h1,h2,h3,h4,h5,h6⟩:=h;have k:∀ i,w'.cell? ⟨g,i,none⟩=w.cell? ⟨g,i,none⟩:=fun i=>World.cell?_of_block (a:=⟨g,i,none⟩) hb
 exact ⟨(k _).trans h0,(k _).trans h1,(k _).trans h2,(k _).trans h3,(k _).trans h4,(k _).trans h5,(k _).trans h6⟩
theorem vad.ext {w w':World} {g:Nat} {m:Mx} {s A K:Value} (h:vad w g m s A K) (hx:Ext w w') (hg:g < w.heap.size):vad w' g m s A K:=h.turn (hx.below.block g hg)
theorem vad.new (w:World) (m:Mx) (s A K:Value) (T:TypeId):vad (w.alloc (.cells #[.int .i64 m.kind,.int .i64 m.rel,.int .i64 m.p.lv,.bool m.p.neg,s,A,K] T)) w.heap.size m s A K:=by
 refine ⟨?_,?_,?_,?_,?_,?_,?_⟩ <;> simp [go_sem]
end Go.Proofs.YtheefiaoimbeiaaGreatDoor

/- Matrices that a call makes: rows of them that grow, results. -/
namespace Go.Proofs.YtheefiaoimbeiaaGreatDoor
open Go.RowKit
def ucl (q:Nat->Prop) (m:Mx) (w:World) (e:Ending) (w':World):Prop:=∃ v,e=.returned v/\MxV w' q m v/\Ext w w'
def zn (w:World) (g:Nat):Prop:=vad w g (.mk 0 0 Pl.zero []) (.slice none 0 0) (.slice none 0 0) (.slice none 0 0)/\∀ i,w.frozen? ⟨g,i,none⟩=false
theorem zn.ext {w w':World} {g:Nat} (h:zn w g) (hx:Ext w w') (hg:g < w.heap.size):zn w' g:=⟨h.1.ext hx hg,fun i=>(hx.frozen (p:=⟨g,i,none⟩) hg).trans (h.2 i)⟩
theorem zn.new (w:World) (T:TypeId):zn (w.alloc (.cells #[.int .i64 0,.int .i64 0,.int .i64 0,.bool false,.slice none 0 0,.slice none 0 0,.slice none 0 0] T)) w.heap.size:=
 ⟨vad.new w (.mk 0 0 Pl.zero []) _ _ _ T,fun i=>by simp [go_sem]⟩
theorem qa9 {W:World} {g:Nat} {m m':Mx} {A0 A1 K0 B0 B1 K1:Option Addr} {n0 c0 n1 c1 n2 c2 m0 d0 m1 d1 m2 d2:Nat} (h:vad W g m (.slice A0 n0 c0) (.slice A1 n1 c1) (.slice K0 n2 c2)) :
 (∀ v ds,ja W v ds->ja (((((((W.setCell ⟨g,0,none⟩ (.int .i64 m'.kind)).setCell ⟨g,1,none⟩ (.int .i64 m'.rel)).setCell ⟨g,2,none⟩ (.int .i64 m'.p.lv)).setCell ⟨g,3,none⟩ (.bool m'.p.neg)).setCell ⟨g,4,none⟩ (.slice B0 m0 d0)).setCell ⟨g,5,none⟩ (.slice B1 m1 d1)).setCell ⟨g,6,none⟩ (.slice K1 m2 d2)) v ds) /\
 (∀ b,b ≠ g->(((((((W.setCell ⟨g,0,none⟩ (.int .i64 m'.kind)).setCell ⟨g,1,none⟩ (.int .i64 m'.rel)).setCell ⟨g,2,none⟩ (.int .i64 m'.p.lv)).setCell ⟨g,3,none⟩ (.bool m'.p.neg)).setCell ⟨g,4,none⟩ (.slice B0 m0 d0)).setCell ⟨g,5,none⟩ (.slice B1 m1 d1)).setCell ⟨g,6,none⟩ (.slice K1 m2 d2)).heap[b]?=W.heap[b]?):=by
 obtain ⟨h0,h1,h2,h3,h4,h5,h6⟩:=h;refine ⟨fun v ds hv=>?_,fun b hb=>?_⟩
 · refine ((((((hv.box h0 rfl _).box (u:=.int .i64 m.rel) ?_ rfl _).box (u:=.int .i64 m.p.lv) ?_ rfl _).box (u:=.bool m.p.neg) ?_ rfl _).box (u:=.slice A0 n0 c0) ?_ rfl _).box (u:=.slice A1 n1 c1) ?_ rfl _).box (u:=.slice K0 n2 c2) ?_ rfl _
   all_goals
    repeat rw [World.cell?_setCell_other _ _ _ _ (by simp)]
    first | exact h1 | exact h2 | exact h3 | exact h4 | exact h5 | exact h6
 · have hb':b ≠ (⟨g,0,none⟩:Addr).block:=hb
   repeat rw [Below.heap_setCell _ _ _ b (by exact hb)]
theorem vcj {w W:World} {g:Nat} {m:Mx} {q q':Nat->Prop} {A0 A1 K:Option Addr} {n0 c0 n1 c1 n2 c2:Nat} (hx:Ext w W) (hg:w.heap.size<=g) (hz:zn W g) (hp:MxV W q m (mxV m (.slice A0 n0 c0) (.slice A1 n1 c1) (.slice K n2 c2))) (hq:∀ b,b < W.heap.size->q b->b ≠ g/\q' b) :
 ucl q' m w (.returned (mxV m (.slice A0 n0 c0) (.slice A1 n1 c1) (.slice K n2 c2))) (((((((W.setCell ⟨g,0,none⟩ (.int .i64 m.kind)).setCell ⟨g,1,none⟩ (.int .i64 m.rel)).setCell ⟨g,2,none⟩ (.int .i64 m.p.lv)).setCell ⟨g,3,none⟩ (.bool m.p.neg)).setCell ⟨g,4,none⟩ (.slice A0 n0 c0)).setCell ⟨g,5,none⟩ (.slice A1 n1 c1)).setCell ⟨g,6,none⟩ (.slice K n2 c2)):=by
 obtain ⟨hn,hb⟩:=qa9 (m':=m) (B0:=A0) (m0:=n0) (d0:=c0) (B1:=A1) (m1:=n1) (d1:=c1) (K1:=K) (m2:=n2) (d2:=c2) hz.1;refine ⟨_,rfl,MxV.turn_ (by simp [World.setCell]) hn (fun b hlt hqb=>⟨(hq b hlt hqb).2,hb b (hq b hlt hqb).1⟩) hp,((((((hx.setCell hg _).setCell hg _).setCell hg _).setCell hg _).setCell hg _).setCell hg _).setCell hg _⟩
section
variable {base:Nat} {W W':World} {v:Value} {l:List Mx}
end
end Go.Proofs.YtheefiaoimbeiaaGreatDoor

/- Layer 22: recpoly.copyOf. -/
set_option maxRecDepth 100000
set_option maxHeartbeats 8000000
namespace Go.Proofs.YtheefiaoimbeiaaGreatDoor
open Go.RowKit
def gc0 (w0:World) (q:Nat->Prop) (n:Nat):Prop:=∀ (p:Pl) (v:Value) (w:World),p.sz < n->p.Can->p.sz<=1099511627776->p.dm<=35184372088832->PlV w0 q p v->Ext w0 w->Calls Tryz.prog 95 #[v] w (ji (fun b=>w.heap.size<=b) p w)
theorem gb7 {w0 w:World} {q:Nat->Prop} (p:Pl) (v:Value) (hcan:p.Can) (hdm:p.dm<=35184372088832) (h:PlV w0 q p v) (hx0:Ext w0 w) (hl:p.lv=0):Calls Tryz.prog 95 #[v] w (ji (fun b=>w.heap.size<=b) p w):=by
 have hds:=p.dm_ds;obtain ⟨A0,n0,c0,A,c,rfl,hnat,hl1,hl2,h4⟩:=h.open_;obtain ⟨l,ng,ds,cs⟩:=p
 change l=0 at hl
 subst hl;simp only [Pl.cs,Pl.ds,Pl.lv,Pl.neg,plV] at *;have hc2:cs=[]/\ds=dg (val ds)/\(ds=[]->ng=false):=by
  unfold Pl.Can at hcan;rcases hcan with h | h
  · exact h.2
  · omega
 obtain ⟨rfl,hdg,hng⟩:=hc2;have hngz:ng=decide (sgn ng (val ds) < 0):=by
  rw [va3,<- hdg];cases ng
  · rfl
  · have:0 < ds.length:=List.length_pos_iff.2 (fun e=>by have:=hng e; cases this);simp [this]
 have HNG:=Lib.hid hngz;have HDG:=Lib.hid hdg;obtain ⟨W,hW⟩:=n_m ((w.alloc (.cells #[.int .i64 0,.bool ng,.slice A0 n0 c0,.slice A ([]:List Pl).length c] 44)).alloc (.cells #[.int .i64 0,.bool false,.slice none 0 0,.slice none 0 0] 44));have hWx:Ext w W:=by rw [<- hW]; exact ((Ext.refl w).alloc _).alloc _
 have hWs:W.heap.size=w.heap.size+1+1:=by rw [<- hW]; simp
 have hz:yh W (w.heap.size+1):=by
  have:=yh.new (w.alloc (.cells #[.int .i64 0,.bool ng,.slice A0 n0 c0,.slice A ([]:List Pl).length c] 44)) 44;rw [hW] at this;simpa using this
 have HNAT:=Lib.hid (hnat.ext (hx0.trans hWx));have HWX:=Lib.hid hWx;have HZ:=Lib.hid hz;clear h h4 hnat hx0 hcan hng hdg hngz hWx hz;go_enter Tryz.func95,Tryz.ntmps95;go_wp2_with fail;rw [List.length_nil] at hW;rw [hW];clear hW;refine (jar _ (sgn ng (val ds)) ds.length W ⟨ng,_,ds,rfl,HNAT.out,rfl,Nat.le_refl _⟩ (by omega)).mono ?_;rintro e w1 ⟨x,rfl,⟨v1,rfl,hv1⟩,x1⟩;rw [uq,<- HDG.out] at hv1;rw [<- HNG.out];obtain ⟨⟨z0,z1,z2,z3⟩,zf⟩:=HZ.out.ext x1 (by omega);have hws:=x1.size;have HF:Hid (∀ A' n' c',v1=.slice A' n' c'->ji (fun b=>w.heap.size<=b) (.mk 0 ng ds []) w (.returned (plV (.mk 0 ng ds []) (.slice A' n' c') (.slice none 0 0))) ((((w1.setCell ⟨w.heap.size+1,0,none⟩ (.int .i64 0)).setCell ⟨w.heap.size+1,1,none⟩ (.bool ng)).setCell ⟨w.heap.size+1,2,none⟩ (.slice A' n' c')).setCell ⟨w.heap.size+1,3,none⟩ (.slice none 0 0))):=by
  intro A' n' c' e;subst e;exact qi (p:=.mk 0 ng ds []) (q:=fun _=>False) (HWX.out.trans x1) (by omega) (HZ.out.ext x1 (by omega)) (PlV.mk (t:=.mk 0 ng ds []) hv1 (Nat.le_refl _) (by simp [Pl.cs]) (by unfold Pl.cs jf; trivial)) (fun b _ h=>h.elim)
 obtain ⟨A1,d1,rfl,-⟩:=hv1;have HF2:=Lib.hid (HF.out _ _ _ rfl);clear HF x1 HZ;go_wp2_with fail;exact bodyPost_ret (v:=plV (.mk 0 ng ds []) (.slice A1 ds.length d1) (.slice none 0 0)) (by simp [results,Tryz.results95,go_sem,z0,z1,z2,z3,plV,Pl.lv,Pl.neg]) rfl HF2.out
theorem jct (w0:World) (q:Nat->Prop) (n:Nat):gc0 w0 q n:=by
 induction n with
 | zero=>intro p v w h; omega
 | succ n ih =>
 intro p v w hn hcan hbig hdm h hx0
 by_cases hl:p.lv=0
 · exact gb7 p v hcan hdm h hx0 hl
 obtain ⟨A0,n0,c0,A,c,rfl,hnat,hl1,hl2,h4⟩:=h.open_;obtain ⟨l,ng,ds,cs⟩:=p;simp only [Pl.cs,Pl.ds,Pl.lv,Pl.neg,plV] at *;have hk:=hcan.kids (by have:=hcan.lv_nonneg.1; simp only [Pl.lv] at this; omega);obtain ⟨rfl,rfl,hlen,hcs,-⟩:=hk;have hszp:(Pl.mk l false [] cs).sz=wad cs+1:=by rw [Pl.sz]
 have hdmp:gao cs<=(Pl.mk l false [] cs).dm:=by rw [Pl.dm]; exact Nat.le_max_right _ _
 have hlb:=jce cs;have IH:=Lib.hid ih;have H4:=Lib.hid h4;have HX0:=Lib.hid hx0;have HSZ:Hid (∀ k (hk:k < cs.length),cs[k].sz < n/\cs[k].Can/\cs[k].sz<=1099511627776/\cs[k].dm<=35184372088832):=by
  have:∀ k (hk:k < cs.length),cs[k].sz < n/\cs[k].Can/\cs[k].sz<=1099511627776/\cs[k].dm<=35184372088832:=fun k hk=>by
   have h1:=vax (List.getElem_mem hk);have h2:=uce (List.getElem_mem hk);exact ⟨by omega,(hcs.mem _ (List.getElem_mem hk)).2,by omega,by omega⟩
  exact this
 have hlz:(l == 0)=false:=by simpa using hl
 have hcb:cs.length<=1099511627776:=by omega
 clear h h4 ih hx0 hnat hcan hcs hdmp hdm hlb;obtain ⟨W,hW⟩:=n_m ((w.alloc (.cells #[.int .i64 l,.bool false,.slice A0 n0 c0,.slice A cs.length c] 44)).alloc (.cells #[.int .i64 0,.bool false,.slice none 0 0,.slice none 0 0] 44));have hWx:Ext w W:=by rw [<- hW]; exact ((Ext.refl w).alloc _).alloc _
 have hWs:W.heap.size=w.heap.size+1+1:=by rw [<- hW]; simp
 have hbx:ql W w.heap.size (.mk l false [] cs) (.slice A0 n0 c0) (.slice A cs.length c):=by rw [<- hW]; exact (ql.new w (.mk l false [] cs) _ _ _).ext ((Ext.refl _).alloc _) (by simp)
 have hz:yh W (w.heap.size+1):=by
  have:=yh.new (w.alloc (.cells #[.int .i64 l,.bool false,.slice A0 n0 c0,.slice A cs.length c] 44)) 44;rw [hW] at this;simpa using this
 obtain ⟨V,hmk,hVx,hVs,hrow⟩:=xaq (cs.length:Int) (by omega) (by omega) W;rw [Int.toNat_natCast] at hmk hrow;have HWX:=Lib.hid hWx;have HVX:=Lib.hid hVx;have hrow0:=hrow (fun b=>w.heap.size+1+1<=b);rw [hWs] at hmk hrow0;have HROW:=Lib.hid hrow0;have HBX:=Lib.hid hbx;have HZ:=Lib.hid hz;obtain ⟨b0,b1,b2,b3⟩:=id hbx;obtain ⟨d0,d1,d2,d3⟩:=hbx.ext hVx (by omega);simp only [Pl.lv,Pl.neg] at b0 b1 d0 d1;clear hWx hVx hrow hrow0 hbx hz;go_enter Tryz.func95,Tryz.ntmps95;go_wp2_with fail;clear hW hmk b0 b1 b2 b3 d0 d1 d2 d3
 go_loopw [20] (fun iv wr=>∃ k:Nat,k<=cs.length/\iv=.int .i64 k/\Hid ((∃ L:List Pl,L.length=cs.length/\L.take k=cs.take k/\wap wr (fun b=>w.heap.size+1+1<=b) (w.heap.size+1+1) L)/\Ext W wr)) (fun iv _=>cs.length - (intOf iv).toNat)
 case atStart=>exact ⟨0,Nat.zero_le _,rfl,⟨⟨_,List.length_replicate,by simp,HROW.out⟩,HVX.out⟩⟩
 case round =>
  obtain ⟨k,hk,rfl,⟨⟨L,hLl,hLt,hrow⟩,hx⟩⟩:=hrel;have HX:=Lib.hid hx;have HROWk:=Lib.hid hrow;have HLT:=Lib.hid hLt;obtain ⟨b0,b1,b2,b3⟩:=HBX.out.ext hx (by omega);simp only [Pl.lv,Pl.neg] at b0 b1;have hRlt:w.heap.size+1+1 < wr.heap.size:=hrow.1;clear hx hrow hLt HVX HROW
  by_cases hlt:k < cs.length
  · obtain ⟨ad,B0,m0,e0,B1,m1,e1,rfl,hadb,hnd,hkt⟩:=jf.kid H4.out k hlt;have hxx:Ext w0 wr:=(HX0.out.trans HWX.out).trans HX.out;obtain ⟨a0,a1,a2,a3⟩:=hnd.ext hxx (by rw [jb]; exact hadb);obtain ⟨hsz1,hsz2,hsz3,hsz4⟩:=HSZ.out k hlt;have HC:=Lib.hid (fun W' (hxW:Ext wr W')=>IH.out cs[k] _ W' hsz1 hsz2 hsz3 hsz4 hkt (hxx.trans hxW));have HSET:Hid ((L.set k cs[k]).take (k+1)=cs.take (k+1)):=xai L cs k HLT.out (by omega) hlt;generalize cs[k]=ck at *;clear hnd hkt hadb hsz1 hsz2 hsz3 hsz4 hxx HLT;go_wp2_with fail;refine (HC.out _ ((Ext.refl _).alloc _)).mono ?_;rintro e w2 ⟨v2,rfl,p2,x2⟩;have x2':Ext wr w2:=((Ext.refl wr).alloc _).trans x2;obtain ⟨C0,j0,f0,C1,f1,rfl,-⟩:=id p2.open_;have hr2:=HROWk.out.ext x2';obtain ⟨D0,n2,g0,D1,n3,g1,⟨r0,r1,r2,r3⟩,-⟩:=hr2.2.2 k (by omega);have hfr:=hr2.2.1;have hst:=(hr2.set_ k (by omega) ck (p2.mono fun b hb=>by
     have hb':wr.heap.size+1<=b:=by simpa using hb
     exact ⟨by omega,by omega⟩)).1
    simp only at r0 r1 r2 r3;have HST:=Lib.hid hst;have X2:=Lib.hid (HX.out.trans x2');unfold plV;clear hr2 hst p2 x2 x2' HC HROWk a0 a1 a2 a3 b0 b1 b2 b3;go_wp2_with fail
    go_roundw
    case rel=>exact ⟨k+1,by omega,by go_num,⟨_,by rw [List.length_set]; exact hLl,HSET.out,HST.out⟩,(((X2.out.setCell (by show W.heap.size<=w.heap.size+1+1; omega) _).setCell (by show W.heap.size<=w.heap.size+1+1; omega) _).setCell (by show W.heap.size<=w.heap.size+1+1; omega) _).setCell (by show W.heap.size<=w.heap.size+1+1; omega) _⟩
    case measure=>simp [intOf]; omega
  · have hke:k=cs.length:=by omega
    have hLe:L=cs:=by
     have h:=HLT.out;rw [hke,List.take_length,<- hLl,List.take_length] at h;exact h
    obtain ⟨⟨z0,z1,z2,z3⟩,zf⟩:=HZ.out.ext HX.out (by omega);have hfin:=HROWk.out.fin (Nat.le_refl _);rw [hLe] at hfin;have HF:=Lib.hid (qi (p:=.mk l false [] cs) (q':=fun b=>w.heap.size<=b) (HWX.out.trans HX.out) (Nat.le_succ _) (HZ.out.ext HX.out (by omega)) (PlV.mk (t:=.mk l false [] cs) (c:=cs.length) (ja.nil _) (Nat.le_refl _) (by omega) hfin) (fun b _ hb=>⟨by omega,by omega⟩));clear hfin HROWk HLT hLe HZ;go_wp2_with fail;exact bodyPost_ret (v:=plV (.mk l false [] cs) (.slice none 0 0) (.slice (some ⟨w.heap.size+1+1,0,none⟩) cs.length cs.length)) (by simp [results,Tryz.results95,go_sem,z0,z1,z2,z3,plV,Pl.lv,Pl.neg]) rfl HF.out
theorem jap {w:World} {q:Nat->Prop} (p:Pl) (v:Value) (hcan:p.Can) (hsz:p.sz<=1099511627776) (hdm:p.dm<=35184372088832) (h:PlV w q p v):Calls Tryz.prog 95 #[v] w (ji (fun b=>w.heap.size<=b) p w):=
 jct w q (p.sz+1) p v w (Nat.lt_succ_self _) hcan hsz hdm h (Ext.refl w)
end Go.Proofs.YtheefiaoimbeiaaGreatDoor

/- Layer 20: sparse.negative, cmp.Compare, sparse.CompareMono. -/
namespace Go.Proofs.YtheefiaoimbeiaaGreatDoor
open Go.RowKit Go.Sort
end Go.Proofs.YtheefiaoimbeiaaGreatDoor

/- Layer 20: (*gather).add: the terms collected by their monomials. -/
namespace Go.Proofs.YtheefiaoimbeiaaGreatDoor
open Go.RowKit
end Go.Proofs.YtheefiaoimbeiaaGreatDoor

/- Layer 20: a coefficient of a row of terms is overwritten. -/
namespace Go.Proofs.YtheefiaoimbeiaaGreatDoor
open Go.RowKit
theorem yj.set_ {T k base:Nat} {W:World} {g c n:Nat} {xs:List Value} (h:yj T k base W (.slice (some ⟨g,0,none⟩) n c) n xs) (j:Nat) (hj:j < n * k) (u:Value) (hu:uu u=false) :
 yj T k base (W.setCell ⟨g,j,none⟩ u) (.slice (some ⟨g,0,none⟩) n c) n (xs.set j u):=by
 obtain ⟨⟨h1,h2⟩,h3⟩:=h;rcases h2 with ⟨h2,-⟩ | ⟨g',cap,cur,e,hb,hg,hc,hm,hs,ht⟩
 · cases h2
 injection e with e1 e2 e3
 injection e1 with e1
 injection e1 with e1
 subst e1 e3;have hheap:(W.setCell ⟨g,j,none⟩ u).heap[g]?=some (.cells (cur.setIfInBounds j u) T (0,0)):=by
  simp [World.setCell,Array.getElem?_modify,hg]
 refine ⟨⟨by rw [List.length_set]; exact h1,.inr ⟨g,c,cur.setIfInBounds j u,rfl,hb,hheap,hc,hm,by simpa using hs,?_⟩⟩,?_⟩
 · rw [Array.toList_setIfInBounds,List.take_set,ht]
 · intro R cur' T' fr e hb' u' hu';have hR:g=R:=by simpa [Value.ownBlock] using e
   rw [<- hR,hheap] at hb';injection hb' with hb'
   injection hb' with hb'
   rw [<- hb',Array.toList_setIfInBounds] at hu';rcases List.mem_or_eq_of_mem_set hu' with hu' | rfl
   · exact h3 g cur T (0,0) rfl hg u' hu'
   · exact hu
end Go.Proofs.YtheefiaoimbeiaaGreatDoor

/- Layer 20: (*gather).add of a monomial that is there; the whole. -/
namespace Go.Proofs.YtheefiaoimbeiaaGreatDoor
open Go.RowKit
end Go.Proofs.YtheefiaoimbeiaaGreatDoor
