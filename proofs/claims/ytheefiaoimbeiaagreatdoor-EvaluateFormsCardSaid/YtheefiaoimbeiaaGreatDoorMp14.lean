/- Sums of lists of polynomials, plain: level by level, as recpoly.add goes. No program in sight. -/
import Derived.Test.YtheefiaoimbeiaaGreatDoorMp13
set_option linter.unusedSimpArgs false
set_option linter.unusedVariables false

namespace Go.Proofs.YtheefiaoimbeiaaGreatDoor
open Lib (hid)
def jdt (l:List Pl):Pl:=Pl.zY (l.flatMap fun p=>p.qe Mo.one)
def yds (ρ : Int -> Rat) : List Pl -> Rat
 | []=>0
 | p :: r=>p.val ρ+yds ρ r
def lnr : List Pl -> Nat
 | []=>0
 | p :: r=>p.nr+lnr r
theorem xed (l:List Pl):(jdt l).Can:=Pl.xB _
theorem uem (ρ:Int->Rat) (a b:List Pl):yds ρ (a ++ b)=yds ρ a+yds ρ b:=by
 induction a with
 | nil=>simp [yds]; grind
 | cons x a ih=>rw [rj,yds,yds,ih]; grind
theorem yed (ρ:Int->Rat) (l:List Pl):(jdt l).val ρ=yds ρ l:=by
 unfold jdt;rw [Pl.zj ρ (fun x hx=>by
  obtain ⟨p,-,hp⟩:=tu.1 hx
  exact p.qi x hp)]
 induction l with
 | nil=>rfl
 | cons p l ih=>rw [rG,gd1,Pl.qE,yds,ih]
theorem xes (a b:List Pl):lnr (a ++ b)=lnr a+lnr b:=by
 induction a with
 | nil=>simp [lnr]
 | cons x a ih=>rw [rj,lnr,lnr,ih]; omega
theorem ufe {l:List Pl} {n:Int} (hc:∀ p ∈ l,p.Can/\p.lv<=n) (h0:0<=n) (hn:n<=4):(jdt l).lv<=n:=by
 obtain ⟨k,rfl⟩:∃ k:Nat,n=k:=⟨n.toNat,by omega⟩;refine Pl.ym (by omega) (fun x hx=>?_) fun x hx i hi hi4=>?_
 · obtain ⟨p,-,hp⟩:=tu.1 hx;exact p.qi x hp
 · obtain ⟨p,hpl,hp⟩:=tu.1 hx;exact Pl.xM (hc p hpl).1 (hc p hpl).2 x hp i hi hi4
theorem yf7 (p q:Pl):jdt [p,q]=p.add q:=Pl.qH (xed _) (Pl.xI _ _) fun ρ=>by rw [yed,Pl.xU,yds,yds,yds]; grind
def stp (a:Int × Nat) (p:Pl):Int × Nat:=
 if p.lv=(if a.1 < p.lv then (p.lv,0) else a).1 then ((if a.1 < p.lv then (p.lv,0) else a).1,max (if a.1 < p.lv then (p.lv,0) else a).2 p.cs.length) else (if a.1 < p.lv then (p.lv,0) else a)
theorem xe3 {a:Int × Nat} {p:Pl} (h:a.1 < p.lv):stp a p=(p.lv,p.cs.length):=by
 unfold stp; rw [if_pos h,if_pos rfl]; simp
theorem qe3 {a:Int × Nat} {p:Pl} (h:p.lv=a.1):stp a p=(a.1,max a.2 p.cs.length):=by
 unfold stp; rw [if_neg (show ¬ a.1 < p.lv by omega),if_pos h]
theorem ye3 {a:Int × Nat} {p:Pl} (h:p.lv < a.1):stp a p=a:=by
 unfold stp; rw [if_neg (show ¬ a.1 < p.lv by omega),if_neg (by omega)]
def xdz (l:List Pl):Int × Nat:=l.foldl stp (0,0)
theorem wfm (l:List Pl) (k:Nat) (h:k < l.length):xdz (l.take (k+1))=stp (xdz (l.take k)) l[k]:=by
 unfold xdz;rw [pg h,List.foldl_append]
 rfl
theorem zfn (l:List Pl) (M:Nat) (hl:∀ p ∈ l,0<=p.lv/\p.lv<=4/\p.cs.length<=M/\(0 < p.lv->2<=p.cs.length)) :
 (0<=(xdz l).1/\(xdz l).1<=4/\(xdz l).2<=M/\(0 < (xdz l).1->2<=(xdz l).2))/\∀ p ∈ l,p.lv<=(xdz l).1/\(p.lv=(xdz l).1->p.cs.length<=(xdz l).2):=by
 have key:∀ (l:List Pl) (a:Int × Nat),(0<=a.1/\a.1<=4/\a.2<=M/\(0 < a.1->2<=a.2))->(∀ p ∈ l,0<=p.lv/\p.lv<=4/\p.cs.length<=M/\(0 < p.lv->2<=p.cs.length)) ->
  (0<=(l.foldl stp a).1/\(l.foldl stp a).1<=4/\(l.foldl stp a).2<=M/\(0 < (l.foldl stp a).1->2<=(l.foldl stp a).2))/\(a.1 < (l.foldl stp a).1\/(a.1=(l.foldl stp a).1/\a.2<=(l.foldl stp a).2))/\∀ p ∈ l,p.lv<=(l.foldl stp a).1/\(p.lv=(l.foldl stp a).1->p.cs.length<=(l.foldl stp a).2):=by
  intro l
  induction l with
  | nil=>intro a ha _; exact ⟨ha,.inr ⟨rfl,pf _⟩,by simp⟩
  | cons p l ih =>
    intro a ha hp;have h1:=hp p (by simp);have hs:(0<=(stp a p).1/\(stp a p).1<=4/\(stp a p).2<=M/\(0 < (stp a p).1->2<=(stp a p).2))/\(a.1 < (stp a p).1\/(a.1=(stp a p).1/\a.2<=(stp a p).2))/\(p.lv < (stp a p).1\/(p.lv=(stp a p).1/\p.cs.length<=(stp a p).2)):=by
     rcases sU a.1 p.lv with h | h | h
     · rw [xe3 h]; exact ⟨⟨h1.1,h1.2.1,h1.2.2.1,h1.2.2.2⟩,.inl h,.inr ⟨rfl,pf _⟩⟩
     · rw [qe3 h.symm]; refine ⟨⟨ha.1,ha.2.1,by simp only; omega,fun h0=>?_⟩,.inr ⟨rfl,by simp only; omega⟩,.inr ⟨h.symm,by simp only; omega⟩⟩;have:=ha.2.2.2 h0;simp only;omega
     · rw [ye3 h]; exact ⟨ha,.inr ⟨rfl,pf _⟩,.inl h⟩
    obtain ⟨g1,g2,g3⟩:=ih (stp a p) hs.1 (fun q hq=>hp q (by simp [hq]));rw [List.foldl_cons];generalize l.foldl stp (stp a p)=r at *;generalize stp a p=s at *;refine ⟨g1,by omega,fun q hq=>?_⟩;rcases pI.1 hq with rfl | hq
    · omega
    · exact g3 q hq
 obtain ⟨h1,-,h3⟩:=key l (0,0) ⟨by simp,by simp,by simp,by simp⟩ hl;exact ⟨h1,h3⟩
theorem gf8 (l:List Pl) (h:0 < (xdz l).1):∃ p ∈ l,p.lv=(xdz l).1:=by
 have key:∀ (l:List Pl) (a:Int × Nat),(l.foldl stp a).1=a.1\/∃ p ∈ l,p.lv=(l.foldl stp a).1:=by
  intro l
  induction l with
  | nil=>intro a; exact .inl rfl
  | cons p l ih =>
    intro a;rw [List.foldl_cons];rcases ih (stp a p) with h1 | ⟨q,hq,h1⟩
    · rcases sU a.1 p.lv with h | h | h
      · exact .inr ⟨p,by simp,by rw [h1,xe3 h]⟩
      · exact .inr ⟨p,by simp,by rw [h1,qe3 h.symm,h]⟩
      · exact .inl (by rw [h1,ye3 h])
    · exact .inr ⟨q,by simp [hq],h1⟩
 rcases key l (0,0) with h1 | h1
 · have:(xdz l).1=0:=h1;omega
 · exact h1
def partsOf (lv:Int) (i:Nat) (p:Pl):List Pl:=if p.lv=lv then (p.cs[i]?).toList else if p.lv < lv/\i=0 then [p] else []
def kdn (lv:Int) (i:Nat) (l:List Pl):List Pl:=l.flatMap (partsOf lv i)
theorem kfa (lv:Int) (i:Nat) (l:List Pl) (k:Nat) (h:k < l.length):kdn lv i (l.take (k+1))=kdn lv i (l.take k) ++ partsOf lv i l[k]:=by
 unfold kdn;rw [pg h,tV];simp
theorem ken (lv:Int) (i:Nat) (p:Pl):(partsOf lv i p).length<=1:=by
 unfold partsOf
 split
 · cases p.cs[i]? <;> simp
 · split <;> simp
theorem uer (lv:Int) (i:Nat) (l:List Pl):(kdn lv i l).length<=l.length:=by
 induction l with
 | nil=>simp [kdn]
 | cons p l ih =>
   unfold kdn at ih ⊢;rw [rG,pz,py];have:=ken lv i p;omega
theorem jen {lv:Int} {i:Nat} {p c:Pl} (hp:p.Can) (h0:0 < lv) {E:Nat} (hE:p.ex E) (h:c ∈ partsOf lv i p):c.Can/\c.lv < lv/\c.ex E/\c.nr<=p.nr:=by
 unfold partsOf at h
 split at h
 · rename_i hl;obtain ⟨l,n,d,cs⟩:=p
   change l=lv at hl
   subst hl;have hc:c ∈ cs:=by
    simp only [Pl.cs,Option.mem_toList] at h;exact rH h
   have hk:=(hp.kids h0).2.2.2.1.mem c hc;rw [Pl.ex] at hE;exact ⟨hk.2,hk.1,vep (hE.resolve_left (by omega)).2 c hc,by rw [Pl.nr,if_neg (by omega)]; exact we4 hc⟩
 · split at h
   · rename_i hl;obtain rfl:=rb.1 h;exact ⟨hp,hl.1,hE,pf _⟩
   · cases h
theorem yd7 {lv:Int} {i:Nat} {l:List Pl} {c:Pl} (h0:0 < lv) {E:Nat} (hl:∀ p ∈ l,p.Can/\p.ex E) (h:c ∈ kdn lv i l):c.Can/\c.lv < lv/\c.ex E:=by
 obtain ⟨p,hp,hc⟩:=tu.1 h;have:=jen (hl p hp).1 h0 (hl p hp).2 hc;exact ⟨this.1,this.2.1,this.2.2.1⟩
theorem xfq {lv:Int} {i:Nat} {l:List Pl} (h0:0 < lv) {E:Nat} (hl:∀ p ∈ l,p.Can/\p.ex E):lnr (kdn lv i l)<=lnr l:=by
 induction l with
 | nil=>simp [kdn,lnr]
 | cons p l ih =>
   have h1:=ih fun q hq=>hl q (by simp [hq])
   unfold kdn at h1 ⊢;rw [rG,xes,lnr];have h2:lnr (partsOf lv i p)<=p.nr:=by
    have hm:=fun c hc=>jen (c:=c) (hl p (by simp)).1 h0 (hl p (by simp)).2 (i:=i) hc
    have hlen:=ken lv i p;generalize partsOf lv i p=q at *
    match q,hlen with
    | [],_=>simp [lnr]
    | [c],_=>have:=(hm c (by simp)).2.2.2; simpa [lnr] using this
   omega
def hsm (x : Rat) : (Nat -> Rat) -> Nat -> Rat
 | _,0=>0
 | f,n+1=>f 0+x * hsm x (fun i=>f (i+1)) n
theorem wfd (x:Rat) (n:Nat):∀ f g:Nat->Rat,hsm x (fun i=>f i+g i) n=hsm x f n+hsm x g n:=by
 induction n with
 | zero=>intro f g; simp [hsm]; grind
 | succ n ih=>intro f g; simp only [hsm]; rw [ih (fun i=>f (i+1)) (fun i=>g (i+1))]; grind
theorem uec (x:Rat) (n:Nat):hsm x (fun _=>0) n=0:=by
 induction n with
 | zero=>rfl
 | succ n ih=>simp only [hsm,ih]; grind
theorem xey (ρ:Int->Rat) (l:Int):∀ (n:Nat) (g:Nat->Pl),wdk ρ l ((List.range n).map g)=hsm (ρ l) (fun i=>(g i).val ρ) n:=by
 intro n
 induction n with
 | zero=>intro g; simp [wdk,hsm]
 | succ n ih =>
   intro g;rw [List.range_succ_eq_map,rL,List.map_map,wdk,hsm,<- ih (fun i=>g (i+1))]
   rfl
theorem kf4 (ρ:Int->Rat) (l:Int):∀ (cs:List Pl) (n:Nat),cs.length<=n->hsm (ρ l) (fun i=>yds ρ (cs[i]?).toList) n=wdk ρ l cs:=by
 intro cs
 induction cs with
 | nil =>
   intro n _;rw [wdk,<- uec (ρ l) n]
   congr 1
 | cons c cs ih =>
   intro n hn;obtain ⟨m,rfl⟩:∃ m,n=m+1:=⟨n - 1,by simp at hn; omega⟩;rw [hsm,wdk,<- ih m (by simpa using hn)];simp [yds]
   grind
theorem kfl {l:List Pl} {lv:Int} {n E:Nat} (h0:0 < lv) (h4:lv<=4) (hn:1<=n) (hl:∀ p ∈ l,p.Can/\p.ex E) (hlv:∀ p ∈ l,p.lv<=lv/\(p.lv=lv->p.cs.length<=n)) :
 jdt l=wdx lv ((List.range n).map fun i=>jdt (kdn lv i l)):=by
 have hk:wdp lv ((List.range n).map fun i=>jdt (kdn lv i l)):=vd5 fun c hc=>by
  obtain ⟨i,-,rfl⟩:=sF.1 hc;have h1:=ufe (l:=kdn lv i l) (n:=lv - 1) (fun p hp=>⟨(yd7 h0 hl hp).1,by have:=(yd7 h0 hl hp).2.1; omega⟩) (by omega) (by omega);exact ⟨by omega,xed _⟩
 obtain ⟨g1,g2,g3⟩:=vex h0 h4 hk;refine Pl.qH (xed _) g1 fun ρ=>?_
 rw [g3,xey,yed];simp only [yed];clear g1 g2 g3 hk
 induction l with
 | nil =>
   rw [yds,<- uec (ρ lv) n]
   congr 1
 | cons p l ih =>
   rw [yds,ih (fun q hq=>hl q (by simp [hq])) (fun q hq=>hlv q (by simp [hq]))];have e1:(fun i=>yds ρ (kdn lv i (p :: l)))=fun i=>yds ρ (partsOf lv i p)+yds ρ (kdn lv i l):=by
    funext i
    unfold kdn;rw [rG,uem]
   rw [e1,wfd]
   congr 1
   obtain ⟨h1,h2⟩:=hlv p (by simp)
   by_cases he:p.lv=lv
   · have e2:(fun i=>yds ρ (partsOf lv i p))=fun i=>yds ρ (p.cs[i]?).toList:=by
      funext i
      unfold partsOf;rw [if_pos he]
     rw [e2,kf4 ρ lv p.cs n (h2 he)];obtain ⟨l',ng,d,cs⟩:=p
     change l'=lv at he
     subst he;exact Pl.mk_val ρ _ _ _ h0 h4
   · obtain ⟨m,rfl⟩:∃ m,n=m+1:=⟨n - 1,by omega⟩;have e2:(fun i=>yds ρ (partsOf lv i p))=fun i=>if i=0 then p.val ρ else 0:=by
      funext i
      unfold partsOf;rw [if_neg he]
      by_cases hi:i=0
      · rw [if_pos ⟨by omega,hi⟩,if_pos hi,yds,yds]; grind
      · rw [if_neg (by omega),if_neg hi,yds]
     rw [e2,hsm];have e3:(fun i=>if i+1=0 then p.val ρ else 0)=fun _:Nat=>(0:Rat):=by
      funext i
      rw [if_neg (by omega)]
     rw [if_pos rfl,e3,uec]
     grind
theorem xfu {l:List Pl} (hl:∀ p ∈ l,p.Can/\p.lv=0):jdt l=Pl.const (gdt (l.map Pl.z)):=Pl.qH (xed _) (yd0 _) fun ρ=>by
 rw [yed,Pl.qC]
 induction l with
 | nil=>simp [yds,gdt]
 | cons p l ih =>
   have h1:=hl p (by simp);rw [yds,ih fun q hq=>hl q (by simp [hq]),rL,gdt];have h2:p.val ρ=(Pl.const p.z).val ρ:=congrArg (fun p=>p.val ρ) (kef h1.1 h1.2);rw [h2,Pl.qC]
   push_cast
   rfl
theorem ygr {l:List Pl} (hl:∀ p ∈ l,p.Can/\p.lv=0):inr (l.map Pl.z)=lnr l:=by
 induction l with
 | nil=>rfl
 | cons p l ih =>
   have h1:=hl p (by simp);rw [rL,inr,lnr,ih fun q hq=>hl q (by simp [hq])];have h2:=congrArg Pl.nr (kef h1.1 h1.2);rw [Pl.qL] at h2;rw [h2]
open Go.RowKit
theorem wfy : vee 42 44 4 64 (.agg #[.int .i64 0, .bool false, .slice none 0 0, .slice none 0 0]) where
 und:=Tryz.underlying42
 info:=yez
 cells:=rfl
 pos:=by omega
 nodig:=by
  intro u hu;simp only [Value.cells] at hu;simp only [pI,rM,or_false] at hu;rcases hu with rfl | rfl | rfl | rfl <;> rfl
def plC (r:Pl × Value × Value):List Value:=[.int .i64 r.1.lv,.bool r.1.neg,r.2.1,r.2.2]
def vdx (rs:List (Pl × Value × Value)):List Value:=rs.flatMap plC
theorem ue6 (a b:List (Pl × Value × Value)):vdx (a ++ b)=vdx a ++ vdx b:=by simp [vdx]
theorem gec (a:List (Pl × Value × Value)):(vdx a).length=a.length * 4:=by
 induction a with
 | nil=>rfl
 | cons r rs ih=>simp only [vdx,rG,pz,py] at *; rw [ih]; simp [plC]; omega
theorem uek (rs:List (Pl × Value × Value)) (k:Nat) (hk:k < rs.length) (j:Nat) (hj:j < 4):(vdx rs)[k * 4+j]?=(plC rs[k])[j]?:=by
 induction rs generalizing k with
 | nil=>simp at hk
 | cons r rs ih =>
   have hl:(plC r).length=4:=rfl;simp only [vdx,rG];cases k with
   | zero=>simp only [tc,pH,pR]; rw [List.getElem?_append_left (by omega)]
   | succ k =>
     rw [vc (by omega),hl,show (k+1) * 4+j - 4=k * 4+j by omega];exact ih k (by simpa using hk)
def kdq (base:Nat) (q:Nat->Prop) (W:World) (v:Value) (l:List Pl):Prop:=
 ∃ rs:List (Pl × Value × Value),rs.map (fun r=>r.1)=l/\vdm 44 4 base W v rs.length (vdx rs)/\∀ r ∈ rs,(∃ A0 n0 c0 A1 n1 c1,r.2=(.slice A0 n0 c0,.slice A1 n1 c1))/\PlV W (fun b=>v.ownBlock ≠ some b/\q b) r.1 (plV r.1 r.2.1 r.2.2)
section
variable {base:Nat} {q:Nat->Prop} {W W':World} {v:Value} {l:List Pl}
theorem kdq.nil (base:Nat) (q:Nat->Prop) (W:World):kdq base q W (.slice none 0 0) []:=⟨[],rfl,vdm.nil _ _ _ _,by simp⟩
theorem kdq.own (h:kdq base q W v l) {R:Nat} (hR:v.ownBlock=some R):base<=R/\R < W.heap.size:=by
 obtain ⟨rs,-,h2,-⟩:=h;exact h2.own hR
theorem kdq.len (h:kdq base q W v l):∃ A c,v=.slice A l.length c/\l.length<=c/\c<=9223372036854775807:=by
 obtain ⟨rs,rfl,h2,-⟩:=h;rw [pC];exact h2.len
theorem kdq.ext (h:kdq base q W v l) (hx:Ext W W'):kdq base q W' v l:=by
 obtain ⟨rs,e,h2,h3⟩:=h;exact ⟨rs,e,h2.ext hx,fun r hr=>⟨(h3 r hr).1,(h3 r hr).2.ext hx⟩⟩
theorem kdq.at_ {A:Option Addr} {n c:Nat} (h:kdq base q W (.slice A n c) l):jdk W (fun b=>base<=b\/q b) l A 0:=by
 obtain ⟨rs,rfl,h2,h3⟩:=h;refine jdk.of _ _ 0 fun i hi=>?_
 rw [pC] at hi;obtain ⟨g,c',e',-,-,hbg,hlt,-⟩:=h2.pos (by omega);injection e' with e1 e2 e3
 subst e1 e2 e3;have abZ:∀ j,j < 4->W.cell? ⟨g,i * 4+j,none⟩=(plC rs[i])[j]?:=by
  intro j hj;rw [h2.cell (i * 4+j) (by omega)];exact uek rs i hi j hj
 refine ⟨⟨g,0,none⟩,rs[i].2.1,rs[i].2.2,rfl,hlt,.inl hbg,?_,?_⟩
 · rw [kdo,pH,pH,rJ];exact ⟨abZ 0 (by omega),abZ 1 (by omega),abZ 2 (by omega),abZ 3 (by omega)⟩
 · rw [rJ]; exact (h3 rs[i] (pt hi)).2.mono fun b hb=>.inr hb.2
end
theorem yfi (a:Addr) (n:Nat):(a.add n).off=a.off+n:=by unfold Addr.add; split <;> simp_all
theorem qgi (a:Addr) (n:Nat) (h:0 < n):a.add n=⟨a.block,a.off+n,none⟩:=by unfold Addr.add; rw [if_neg (by omega)]
theorem qdw.cells {W:World} {ad:Addr} {r:Pl × Value × Value} {i:Nat} (h:qdw W (ad.add (i * 4)) r.1 r.2.1 r.2.2) (j:Nat) (hj:j < 4) (u:Value) (hu:(plC r)[j]?=some u):W.cell? (ad.add (i * 4+j))=some u:=by
 obtain ⟨h0,h1,h2,h3⟩:=h;rw [zc1,yfi] at h1 h2 h3;rcases (show j=0\/j=1\/j=2\/j=3 by omega) with rfl | rfl | rfl | rfl
 · simp only [plC,sD,Option.some.injEq] at hu;subst hu; exact h0
 all_goals
  rw [qgi _ _ (by omega)];simp only [plC,sD,sP,Option.some.injEq] at hu;subst hu
  first | exact h1 | exact h2 | exact h3
theorem kdq.append_ {base:Nat} {q:Nat->Prop} {W:World} {ov:Value} {l:List Pl} {ad:Addr} (h:kdq base q W ov l) (adW:base<=W.heap.size) (rs2:List (Pl × Value × Value)) (e2:∀ r ∈ rs2,(∃ A0 n0 c0 A1 n1 c1,r.2=(.slice A0 n0 c0,.slice A1 n1 c1))/\PlV W (fun b=>ov.ownBlock ≠ some b/\q b) r.1 (plV r.1 r.2.1 r.2.2)) (e3:∀ i (hi:i < rs2.length),qdw W (ad.add (i * 4)) rs2[i].1 rs2[i].2.1 rs2[i].2.2) (adT:0 < rs2.length) (hlen:l.length+rs2.length<=1000000000) (c:Nat) (ty:TypeId) :
 ∃ v4 w4,(Builtin.append_ #[42,42] ty #[ov,.slice (some ad) rs2.length c]).run Tryz.prog W=.ok v4 w4/\W.grownBy w4 ov.ownBlock/\(∀ v ds,zb1 W v ds->zb1 w4 v ds)/\kdq base q w4 v4 (l ++ rs2.map (fun r=>r.1))/\(v4.ownBlock=ov.ownBlock\/v4.ownBlock=some W.heap.size):=by
 obtain ⟨rs,rfl,h2,h3⟩:=h;rw [pC] at hlen;obtain ⟨v4,w4,ab3,r1,r2,r3,r4⟩:=h2.append wfy adW ad rs2.length c (vdx rs2) (gec rs2) (by
  intro j u hu;have hj:j < rs2.length * 4:=by rw [<- gec]; exact (ti.1 hu).1
  have hd:j / 4 * 4+j % 4=j:=by omega
  have hm:=e3 (j / 4) (by omega);have hg:=uek rs2 (j / 4) (by omega) (j % 4) (by omega);rw [hd,hu] at hg;have:=hm.cells (j % 4) (by omega) u hg.symm
  rwa [hd] at this) (by
  intro u hu;simp only [vdx,tu] at hu;obtain ⟨r,hr,hu⟩:=hu;obtain ⟨⟨A0,n0,c0,A1,n1,c1,er⟩,-⟩:=e2 r hr;simp only [plC,er,pI,rM,or_false] at hu
  rcases hu with rfl | rfl | rfl | rfl <;> exact ⟨rfl,rfl⟩) adT (by omega) (by omega) ty
 refine ⟨v4,w4,ab3,r2,r3,⟨rs ++ rs2,by simp,?_,fun r hr=>?_⟩,r4⟩
 · rw [ue6,pz]; exact r1
 · have hv4:∀ b,b < W.heap.size->ov.ownBlock ≠ some b->v4.ownBlock ≠ some b:=by
    intro b hb hne e;rcases r4 with r4 | r4
    · exact hne (by rw [<- r4]; exact e)
    · rw [r4] at e; injection e with e; omega
   have hblk:∀ b,b < W.heap.size->ov.ownBlock ≠ some b->w4.heap[b]?=W.heap[b]?:=fun b hb hne=>pW r2 b hb (fun e=>hne e.symm)
   rcases rq.1 hr with hr | hr
   · exact ⟨(h3 r hr).1,PlV.qO r2.size r3 (fun b hb hp=>⟨⟨hv4 b hb hp.1,hp.2⟩,hblk b hb hp.1⟩) (h3 r hr).2⟩
   · exact ⟨(e2 r hr).1,PlV.qO r2.size r3 (fun b hb hp=>⟨⟨hv4 b hb hp.1,hp.2⟩,hblk b hb hp.1⟩) (e2 r hr).2⟩
theorem kdq.push {base:Nat} {q:Nat->Prop} {W:World} {ov:Value} {l:List Pl} (h:kdq base q W ov l) (adW:base<=W.heap.size) {x:Pl} {A0 A1:Option Addr} {n0 c0 n1 c1:Nat} (hx:PlV W (fun b=>ov.ownBlock ≠ some b/\q b) x (plV x (.slice A0 n0 c0) (.slice A1 n1 c1))) (hlen:l.length+1<=1000000000) (ty:TypeId) :
 ∃ v4 w4,(Builtin.append_ #[42,42] ty #[ov,.slice (some ⟨W.heap.size,0,none⟩) 1 1]).run Tryz.prog (W.alloc (.cells #[.int .i64 x.lv,.bool x.neg,.slice A0 n0 c0,.slice A1 n1 c1] 44))=.ok v4 w4/\W.grownBy w4 ov.ownBlock/\(∀ v ds,zb1 W v ds->zb1 w4 v ds)/\kdq base q w4 v4 (l ++ [x])/\(v4.ownBlock=ov.ownBlock\/v4.ownBlock=some (W.heap.size+1)):=by
 have hxa:Ext W (W.alloc (.cells #[.int .i64 x.lv,.bool x.neg,.slice A0 n0 c0,.slice A1 n1 c1] 44)):=(Ext.refl W).alloc _;obtain ⟨v4,w4,ab3,h2,h3,h4,h5⟩:=(h.ext hxa).append_ (ad:=⟨W.heap.size,0,none⟩) (by have:=hxa.size; omega) [(x,.slice A0 n0 c0,.slice A1 n1 c1)] (by
  intro r hr;obtain rfl:=rb.1 hr;exact ⟨⟨_,_,_,_,_,_,rfl⟩,hx.ext hxa⟩) (by
  intro i hi;obtain rfl:i=0:=by simpa using hi
  rw [tc,kdo,pH]
  refine ⟨?_,?_,?_,?_⟩ <;> simp [go_sem]) (by simp) (by simpa using hlen) 1 ty
 refine ⟨v4,w4,ab3,⟨h2.os.trans hxa.below.os,h2.tape.trans hxa.below.tape,h2.output.trans hxa.below.output,po hxa.size h2.size,fun i hi hne=>(pW h2 i (pr hi hxa.size) hne).trans (hxa.below.block i hi)⟩,fun v ds hv=>h3 v ds (hv.ext hxa),h4,?_⟩
 rwa [pU] at h5
def xef (W:World) (R:Nat) (l:List Int):Prop:=
 R < W.heap.size/\(∀ i,W.frozen? ⟨R,i,none⟩=false)/\∀ i (h:i < l.length),∃ A n c,W.cell? ⟨R,i * 2,none⟩=some (.bool (decide (l[i] < 0)))/\W.cell? ⟨R,i * 2+1,none⟩=some (.slice A n c)/\zb1 W (.slice A n c) (dg l[i].natAbs)
section
variable {W W':World} {R:Nat} {l:List Int}
theorem xef.ext (h:xef W R l) (hx:Ext W W'):xef W' R l:=by
 obtain ⟨h1,h2,h3⟩:=h;refine ⟨pr h1 hx.size,fun i=>(hx.frozen (p:=⟨R,i,none⟩) h1).trans (h2 i),fun i hi=>?_⟩;obtain ⟨A,n,c,h4,h5,h6⟩:=h3 i hi;exact ⟨A,n,c,(hx.cell (p:=⟨R,i * 2,none⟩) h1).trans h4,(hx.cell (p:=⟨R,i * 2+1,none⟩) h1).trans h5,h6.ext hx⟩
theorem xef.fin (h:xef W R l) (c:Nat) (h1:l.length<=c) (h2:c<=9223372036854775807):IsV W (.slice (some ⟨R,0,none⟩) l.length c) l:=by
 obtain ⟨h3,-,h4⟩:=h;refine ⟨_,c,rfl,h1,h2,fun k hk=>?_⟩;obtain ⟨A,n,d,h5,h6,h7⟩:=h4 k hk;refine ⟨⟨R,0,none⟩,A,n,d,rfl,h3,?_,?_,h7⟩
 · rw [kdo,pH]; exact h5
 · rw [kdo,pH]; exact h6
theorem xef.qG (h:xef W R l) (k:Nat) (hk:k < l.length) (z:Int) {A:Option Addr} {n c:Nat} (hz:zb1 W (.slice A n c) (dg z.natAbs)) :
 xef ((W.setCell ⟨R,k * 2,none⟩ (.bool (decide (z < 0)))).setCell ⟨R,k * 2+1,none⟩ (.slice A n c)) R (l.set k z):=by
 obtain ⟨h1,h2,h3⟩:=h;obtain ⟨B,m,d,g0,g1,-⟩:=h3 k hk;have q1:(W.setCell ⟨R,k * 2,none⟩ (.bool (decide (z < 0)))).cell? ⟨R,k * 2+1,none⟩=some (.slice B m d):=by rw [pe _ _ _ _ (by intro e; injection e; omega)]; exact g1
 have abM:∀ v ds,zb1 W v ds->zb1 ((W.setCell ⟨R,k * 2,none⟩ (.bool (decide (z < 0)))).setCell ⟨R,k * 2+1,none⟩ (.slice A n c)) v ds:=fun v ds hv=>(hv.box g0 rfl _).box q1 rfl _
 refine ⟨by simpa [World.setCell] using h1,fun i=>by rw [pJ,pJ]; exact h2 i,fun i hi=>?_⟩;rw [pN] at hi
 by_cases hik:i=k
 · subst hik;rw [sy];refine ⟨A,n,c,?_,pG _ _ _ q1,abM _ _ hz⟩;rw [pe _ _ _ _ (by intro e; injection e; omega)];exact pG _ _ _ g0
 · rw [uY (Ne.symm hik)];obtain ⟨C,j,f,h4,h5,h6⟩:=h3 i hi;refine ⟨C,j,f,?_,?_,abM _ _ h6⟩
   · rw [pe _ _ _ _ (by intro e; injection e; omega),pe _ _ _ _ (by intro e; injection e; omega)]; exact h4
   · rw [pe _ _ _ _ (by intro e; injection e; omega),pe _ _ _ _ (by intro e; injection e; omega)]; exact h5
end
theorem gfr:(Tryz.prog.info? 25).map (fun i=>(i.zero,i.size,i.bytes))=some (some (.agg #[.bool false,.slice none 0 0]),2,32):=by kernel_rfl
theorem we3 (n:Int) (h0:0<=n) (h1:n<=1099511627776) (w:World) :
 ∃ w',(Instr.makeSlice 54 (.int .i64 n) (.int .i64 n)).run Tryz.prog w=.ok (.slice (some ⟨w.heap.size,0,none⟩) n.toNat n.toNat) w'/\Ext w w'/\w'.heap.size=w.heap.size+1/\xef w' w.heap.size (List.replicate n.toNat 0):=by
 obtain ⟨i0,hi,hz0,hz1,hz2⟩:=info_parts gfr;refine ⟨_,run_make w 54 25 i0 _ Tryz.underlying54 hi hz0 .i64 .i64 n n h0 (by omega) (by rw [hz2]; omega) (by omega),(Ext.refl w).alloc _,by simp,⟨by simp,fun i=>by simp [go_sem],fun i hi2=>?_⟩⟩;rw [rp] at hi2;have hc:∀ j,j < 2->(w.alloc (.cells (madeCells (Value.agg #[.bool false,.slice none 0 0]).cells (n.toNat * i0.size)) 25)).cell? ⟨w.heap.size,i * 2+j,none⟩=#[Value.bool false,.slice none 0 0][j]?:=by
  intro j hj;have hlt:i * 2+j < n.toNat * 2:=by omega
  have alA:(i * 2+j) % 2=j:=by omega
  rw [cell_of_row _ _ (i * 2+j) _ _ (0,0) (heap_alloc_new w _)];rw [hz1];unfold madeCells;rw [Array.getElem?_map,Array.getElem?_range,if_pos hlt];show some ((#[Value.bool false,.slice none 0 0]:Array Value)[(i * 2+j) % 2]!)=_;rw [alA];rcases (show j=0\/j=1 by omega) with rfl | rfl <;> rfl
 rw [List.getElem_replicate];exact ⟨none,0,0,hc 0 (by omega),hc 1 (by omega),by rw [Int.natAbs_zero,jdn]; exact zb1.nil _⟩
end Go.Proofs.YtheefiaoimbeiaaGreatDoor

set_option maxRecDepth 100000
set_option maxHeartbeats 8000000
namespace Go.Proofs.YtheefiaoimbeiaaGreatDoor
open Lib (hid)
open Go.RowKit
theorem jdk.take {w:World} {q:Nat->Prop} {l:List Pl} {A:Option Addr} (h:jdk w q l A 0) (n:Nat):jdk w q (l.take n) A 0:=by
 refine jdk.of _ _ _ fun i hi=>?_
 rw [px] at hi;obtain ⟨ad,s,K,e,h1,h2,h3,h4⟩:=h.qt l A 0 i (by omega);refine ⟨ad,s,K,e,h1,h2,?_,?_⟩
 · rw [List.getElem_take]; exact h3
 · rw [List.getElem_take]; exact h4
theorem zey {w:World} {q:Nat->Prop} (l:Int) (cs:List Pl) (A:Option Addr) (c:Nat) (h:jdk w q cs A 0) (hl1:cs.length<=c) (hl2:c<=9223372036854775807) :
 Calls Tryz.prog 126 #[.int .i64 l,.slice A cs.length c] w (gdl q (wdx l cs) w):=by
 have hh:jdk w (fun b=>q b/\b < w.heap.size) cs A 0:=jdk.ql (pf _) (fun _ _ h=>h) (fun b hb hq=>⟨⟨hq,hb⟩,rfl⟩) cs A 0 h;have HH:=hid hh;obtain ⟨W,hW⟩:=n_m (w.alloc (.cells #[.int .i64 0,.bool false,.slice none 0 0,.slice none 0 0] 44));have hWx:Ext w W:=by rw [<- hW]; exact (Ext.refl w).alloc _
 have hWs:W.heap.size=w.heap.size+1:=by rw [<- hW]; simp
 have hz:zdl W w.heap.size:=by rw [<- hW]; exact zdl.new w _
 have HWX:=hid hWx;have HZ:=hid hz;clear h hh hWx hz;go_enter Tryz.func126,Tryz.ntmps126;go_wp2_with fail;clear hW
 go_loopw [5] (fun nv wr=>∃ n:Nat,n<=cs.length/\nv=.int .i64 n/\Hid (udq cs=udq (cs.take n)/\Ext W wr)) (fun nv _=>(intOf nv).toNat)
 case atStart=>exact ⟨cs.length,pf _,rfl,⟨by rw [pw],Ext.refl W⟩⟩
 case round =>
  obtain ⟨n,hn,rfl,⟨hst,hx⟩⟩:=hrel;have HST:=hid hst;have HX:=hid hx;have hws:=hx.size;clear hst hx;cases n with
  | zero =>
    have HT:Hid (wdx l cs=Pl.zero):=hid (by
     rw [ueo (pM _) (by rw [HST.out]; rfl),if_pos rfl])
    have hzn:=HZ.out.ext HX.out (by omega);have HF:Hid (gdl q (wdx l cs) w (.returned (plV Pl.zero (.slice none 0 0) (.slice none 0 0))) ((((wr.setCell ⟨w.heap.size,0,none⟩ (.int .i64 0)).setCell ⟨w.heap.size,1,none⟩ (.bool false)).setCell ⟨w.heap.size,2,none⟩ (.slice none 0 0)).setCell ⟨w.heap.size,3,none⟩ (.slice none 0 0))):=by
     rw [HT.out];exact zdm (p:=Pl.zero) (q:=fun _=>False) (HWX.out.trans HX.out) (pf _) hzn (Pl.qV _ _ none 0 (by omega)) (fun b _ h=>h.elim)
    obtain ⟨⟨z0,z1,z2,z3⟩,zf⟩:=hzn;clear hn;go_wp2_with fail;exact bodyPost_ret (v:=plV Pl.zero (.slice none 0 0) (.slice none 0 0)) (by simp [results,Tryz.results126,go_sem,z0,z1,z2,z3,plV,Pl.zero,Pl.lv,Pl.neg]) rfl HF.out
  | succ n =>
    have hlt:n < cs.length:=by omega
    obtain ⟨ad,C0,j0,g0,C1,j1,g1,rfl,abW,hnd,hkt⟩:=jdk.kid HH.out n hlt;have hxx:=HWX.out.trans HX.out;obtain ⟨a0,a1,a2,a3⟩:=hnd.ext hxx (by rw [zc1]; exact abW);have HIZ:=hid (gd0 _ _ (hkt.ext hxx));have hwn:IntKind.i64.wrap (((n+1:Nat):Int) - 1)=(n:Int):=by rw [rD]; omega
    have HTK:Hid (cs.take (n+1)=cs.take n ++ [cs[n]]):=hid (pg hlt);have aw5:Hid (cs[n].xw=false->udq cs=cs.take (n+1)):=hid (fun hz=>by rw [HST.out,HTK.out,kfn hz]);have aw4:Hid (cs[n].xw=true->udq cs=udq (cs.take n)):=hid (fun hz=>by rw [HST.out,HTK.out,xe9 hz]);have adT:(0:Int) < ((n+1:Nat):Int):=by omega
    unfold plV at HIZ;generalize cs[n].xw=bz at *;generalize cs[n]=cn at *;clear hnd hkt abW;go_wp2_with fail;clear a0 a1 a2 a3;refine HIZ.out.mono ?_;rintro e w2 ⟨rfl,x2⟩;have X2:=hid (HX.out.trans x2);clear x2 HIZ;cases bz
    · have HS:=hid (aw5.out rfl);have hzn:=HZ.out.ext X2.out (by omega);cases n with
      | zero =>
        have HT:Hid (wdx l cs=cs[0]):=hid (by
         rw [ueo (show 0+1<=cs.length by omega) HS.out,if_neg (by omega),dif_pos ⟨rfl,hlt⟩])
        obtain ⟨ad',D0,i0,h0,D1,i1,h1,e4,abW,hnd,hkt⟩:=jdk.kid HH.out 0 hlt;injection e4 with e4
        subst e4;have aov:=HWX.out.trans X2.out;obtain ⟨a0,a1,a2,a3⟩:=hnd.ext aov (by rw [zc1]; exact abW);have HF:Hid (gdl q (wdx l cs) w (.returned (plV cs[0] (.slice D0 i0 h0) (.slice D1 i1 h1))) ((((w2.setCell ⟨w.heap.size,0,none⟩ (.int .i64 cs[0].lv)).setCell ⟨w.heap.size,1,none⟩ (.bool cs[0].neg)).setCell ⟨w.heap.size,2,none⟩ (.slice D0 i0 h0)).setCell ⟨w.heap.size,3,none⟩ (.slice D1 i1 h1))):=by
         rw [HT.out];exact zdm aov (pf _) hzn (hkt.ext aov) (fun b _ hb=>⟨by omega,hb.1⟩)
        rw [show ad.add (0 * 4)=ad by simp [Addr.add]] at a0 a1 a2 a3;have hb1:=abW;obtain ⟨⟨z0,z1,z2,z3⟩,zf⟩:=hzn;clear hnd hkt hn hwn;generalize cs[0]=c0' at *;go_wp2_with fail;exact bodyPost_ret (v:=plV c0' (.slice D0 i0 h0) (.slice D1 i1 h1)) (by simp [results,Tryz.results126,go_sem,z0,z1,z2,z3,plV]) rfl HF.out
      | succ n =>
        have HT:Hid (wdx l cs=.mk l false [] (cs.take (n+2))):=hid (by
         rw [ueo (show n+2<=cs.length by omega) HS.out,if_neg (by omega),dif_neg (by omega)])
        have hln:(cs.take (n+2)).length=n+2:=by rw [px]; omega
        have HF:Hid (gdl q (wdx l cs) w (.returned (plV (.mk l false [] (cs.take (n+2))) (.slice none 0 0) (.slice (some ad) (n+2) (n+2)))) ((((w2.setCell ⟨w.heap.size,0,none⟩ (.int .i64 l)).setCell ⟨w.heap.size,1,none⟩ (.bool false)).setCell ⟨w.heap.size,2,none⟩ (.slice none 0 0)).setCell ⟨w.heap.size,3,none⟩ (.slice (some ad) (n+2) (n+2)))):=by
         rw [HT.out];have h1:=PlV.mk (t:=.mk l false [] (cs.take (n+2))) (c:=n+2) (zb1.nil w2) (by simp only [Pl.cs]; omega) (by omega) ((HH.out.take (n+2)).ext (HWX.out.trans X2.out));rw [show (Pl.mk l false [] (cs.take (n+2))).cs.length=n+2 from hln] at h1;exact zdm (p:=.mk l false [] (cs.take (n+2))) (HWX.out.trans X2.out) (pf _) hzn h1 (fun b _ hb=>⟨by omega,hb.1⟩)
        obtain ⟨⟨z0,z1,z2,z3⟩,zf⟩:=hzn;have hn1:((((n+1+1:Nat):Int)) == 0)=false:=by simp; omega
        have hn2:((((n+1+1:Nat):Int)) == 1)=false:=by simp; omega
        clear hwn;go_wp2_with fail;exact bodyPost_ret (v:=plV (.mk l false [] (cs.take (n+2))) (.slice none 0 0) (.slice (some ad) (n+2) (n+2))) (by simp [results,Tryz.results126,go_sem,z0,z1,z2,z3,plV,Pl.lv,Pl.neg]) rfl HF.out
    · have HS:=hid (aw4.out rfl);go_wp2_with fail
      go_roundw
      case rel=>exact ⟨n,by omega,by go_num,⟨HS.out,X2.out⟩⟩
      case measure=>simp [intOf]
end Go.Proofs.YtheefiaoimbeiaaGreatDoor
