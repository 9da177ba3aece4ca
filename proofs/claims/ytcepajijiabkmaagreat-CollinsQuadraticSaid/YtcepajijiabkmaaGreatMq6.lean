/- Polynomials in four variables, plain: monomials, sums of terms, recursive polynomials, and their values. No program in sight. -/
import Derived.Test.YtcepajijiabkmaaGreatMq5
set_option linter.unusedSimpArgs false
set_option linter.unusedVariables false
namespace Go.Proofs.YtcepajijiabkmaaGreat
structure Mo where
 a:Int
 b:Int
 c:Int
 d:Int
deriving DecidableEq
def Mo.one:Mo:=⟨0,0,0,0⟩
def Mo.get (m:Mo) (i:Int):Int:=if i=1 then m.a else if i=2 then m.b else if i=3 then m.c else m.d
def Mo.put (m:Mo) (i e:Int):Mo:=if i=1 then { m with a:=e } else if i=2 then { m with b:=e } else if i=3 then { m with c:=e } else { m with d:=e }
def Mo.nonneg (m:Mo):Prop:=0<=m.a/\0<=m.b/\0<=m.c/\0<=m.d
instance (m:Mo):Decidable m.nonneg:=by unfold Mo.nonneg; infer_instance
def Mo.lt (m n:Mo):Prop:=m.d < n.d\/(m.d=n.d/\(m.c < n.c\/(m.c=n.c/\(m.b < n.b\/(m.b=n.b/\m.a < n.a)))))
instance (m n:Mo):Decidable (m.lt n):=by unfold Mo.lt; infer_instance
theorem Mo.ext_ {m n:Mo} (h1:m.a=n.a) (h2:m.b=n.b) (h3:m.c=n.c) (h4:m.d=n.d):m=n:=by cases m; cases n; simp_all
theorem Mo.lt_irrefl (m:Mo):¬ m.lt m:=by unfold Mo.lt; omega
theorem Mo.lt_trans {m n k:Mo} (h1:m.lt n) (h2:n.lt k):m.lt k:=by unfold Mo.lt at *; omega
theorem Mo.tri (m n:Mo):m.lt n\/m=n\/n.lt m:=by
 by_cases h:m=n
 · exact .inr (.inl h)
 · have:¬ (m.a=n.a/\m.b=n.b/\m.c=n.c/\m.d=n.d):=fun hh=>h (Mo.ext_ hh.1 hh.2.1 hh.2.2.1 hh.2.2.2)
   unfold Mo.lt; omega
abbrev Sp:=List (Int × Mo)
def je : Sp -> Mo -> Int
 | [],_=>0
 | (c,n) :: r,m=>(if n=m then c else 0)+je r m
theorem gal (l r:Sp) (m:Mo):je (l ++ r) m=je l m+je r m:=by
 induction l with
 | nil=>simp [je]
 | cons x l ih=>simp only [List.cons_append,je,ih]; omega
def qp : Sp -> Prop
 | []=>True
 | (c,m) :: r=>c ≠ 0/\(∀ x ∈ r,x.2.lt m)/\qp r
theorem qac {l:Sp} {m:Mo} (h:∀ x ∈ l,x.2 ≠ m):je l m=0:=by
 induction l with
 | nil=>rfl
 | cons x l ih =>
   rw [je,if_neg (h x (by simp)),ih (fun y hy=>h y (by simp [hy]))]; rfl
theorem ual {c:Int} {m:Mo} {r:Sp} (h:qp ((c,m) :: r)):je ((c,m) :: r) m=c/\∀ n,m.lt n->je ((c,m) :: r) n=0:=by
 have af:=h.2.1
 constructor
 · rw [je,if_pos rfl,qac (m:=m) (fun x hx e=>Mo.lt_irrefl m (by have:=af x hx; rw [e] at this; exact this))]; omega
 · intro n hn;refine qac fun x hx e=>?_
   rcases List.mem_cons.1 hx with rfl | hx
   · exact Mo.lt_irrefl m (by rw [<- e] at hn; exact hn)
   · exact Mo.lt_irrefl m (Mo.lt_trans (by rw [<- e] at hn; exact hn) (af x hx))
theorem qp.uniq : ∀ (l l' : Sp), qp l -> qp l' -> (∀ m, je l m = je l' m) -> l = l'
 | [],[],_,_,_=>rfl
 | [],(c,m) :: r,_,h',e=>by
   have h1:=(ual h').1;rw [<- e m] at h1;exact absurd h1.symm h'.1
 | (c,m) :: r,[],h,_,e=>by
   have h1:=(ual h).1;rw [e m] at h1;exact absurd h1.symm h.1
 | (c,m) :: r,(c',m') :: r',h,h',e=>by
   have h1:=ual h;have h2:=ual h';have hm:m=m':=by
    rcases Mo.tri m m' with af | he | af
    · have:=h1.2 m' af;rw [e m',h2.1] at this;exact absurd this h'.1
    · exact he
    · have:=h2.2 m af;rw [<- e m,h1.1] at this;exact absurd this h.1
   subst hm;have hc:c=c':=by rw [<- h1.1,e m,h2.1]
   subst hc;have hr:r=r':=qp.uniq r r' h.2.2 h'.2.2 (fun n=>by
    have:=e n;simp only [je] at this
    omega)
   rw [hr]
def Mo.val (ρ:Int->Rat) (m:Mo):Rat:=ρ 1 ^ m.a.toNat * ρ 2 ^ m.b.toNat * ρ 3 ^ m.c.toNat * ρ 4 ^ m.d.toNat
def jk (ρ : Int -> Rat) : Sp -> Rat
 | []=>0
 | (c,m) :: r=>(c:Rat) * m.val ρ+jk ρ r
theorem xag (ρ:Int->Rat) (l r:Sp):jk ρ (l ++ r)=jk ρ l+jk ρ r:=by
 induction l with
 | nil=>simp [jk]; grind
 | cons x l ih=>obtain ⟨c,m⟩:=x; simp only [List.cons_append,jk,ih]; grind
theorem xb9 (ρ:Int->Rat) (m:Mo) (l:Sp):jk ρ l=(je l m:Rat) * m.val ρ+jk ρ (l.filter fun x=>decide (x.2 ≠ m)):=by
 induction l with
 | nil=>simp [jk,je]; grind
 | cons x l ih =>
   obtain ⟨c,n⟩:=x
   by_cases h:n=m
   · subst h;simp only [jk,je,if_true,List.filter_cons,ne_eq,not_true,decide_false,Bool.false_eq_true,if_false];rw [ih]
     push_cast
     grind
   · have:decide (n ≠ m)=true:=by simpa using h
     simp only [jk,je,if_neg h,List.filter_cons,this,if_true];rw [ih]
     push_cast
     grind
theorem ybs (l:Sp) (m n:Mo):je (l.filter fun x=>decide (x.2 ≠ m)) n=if n=m then 0 else je l n:=by
 induction l with
 | nil=>simp [je]
 | cons x l ih =>
   obtain ⟨c,k⟩:=x
   by_cases h:k=m
   · subst h;simp only [List.filter_cons,ne_eq,not_true,decide_false,Bool.false_eq_true,if_false,je];rw [ih]
     by_cases h2:n=k
     · simp [h2]
     · rw [if_neg h2,if_neg h2,if_neg (fun e=>h2 e.symm)]; omega
   · have:decide (k ≠ m)=true:=by simpa using h
     simp only [List.filter_cons,this,if_true,je,ih]
     by_cases h2:n=m
     · subst h2; simp [h]
     · simp [h2]
theorem qcg (ρ:Int->Rat) (n:Nat):∀ l:Sp,l.length<=n->(∀ m,je l m=0)->jk ρ l=0:=by
 induction n with
 | zero=>intro l h _; obtain rfl:l=[]:=List.eq_nil_of_length_eq_zero (by omega); rfl
 | succ n ih =>
   intro l h h0;cases l with
   | nil=>rfl
   | cons x l =>
     obtain ⟨c,m⟩:=x;rw [xb9 ρ m,h0 m];have hl:(((c,m) :: l).filter fun x=>decide (x.2 ≠ m)).length<=n:=by
      rw [List.filter_cons];simp only [ne_eq,not_true,decide_false,Bool.false_eq_true,if_false];have:=List.length_filter_le (fun x:Int × Mo=>decide (x.2 ≠ m)) l;simp only [List.length_cons] at h;simp only [ne_eq] at this ⊢;omega
     rw [ih _ hl (fun k=>by rw [ybs]; split <;> simp [h0])];simp; grind
def yan (l:Sp):Sp:=l.map fun x=>(-x.1,x.2)
theorem ybl (l:Sp) (m:Mo):je (yan l) m=- je l m:=by
 induction l with
 | nil=>rfl
 | cons x l ih =>
   obtain ⟨c,n⟩:=x;simp only [yan,List.map_cons,je];rw [show (List.map (fun x:Int × Mo=>(-x.1,x.2)) l)=yan l from rfl,ih]
   split <;> omega
theorem gbp (ρ:Int->Rat) (l:Sp):jk ρ (yan l)=- jk ρ l:=by
 induction l with
 | nil=>simp [yan,jk]
 | cons x l ih =>
   obtain ⟨c,n⟩:=x;simp only [yan,List.map_cons,jk];rw [show (List.map (fun x:Int × Mo=>(-x.1,x.2)) l)=yan l from rfl,ih]
   push_cast
   grind
theorem qap (ρ:Int->Rat) {l l':Sp} (h:∀ m,je l m=je l' m):jk ρ l=jk ρ l':=by
 have h1:=qcg ρ (l ++ yan l').length (l ++ yan l') (Nat.le_refl _) (fun m=>by rw [gal,ybl,h m]; omega);rw [xag,gbp] at h1
 grind
inductive Pl where
 | mk (lv:Int) (neg:Bool) (ds:List Nat) (cs:List Pl)
def Pl.lv : Pl -> Int
 | .mk l _ _ _=>l
def Pl.neg : Pl -> Bool
 | .mk _ n _ _=>n
def Pl.ds : Pl -> List Nat
 | .mk _ _ d _=>d
def Pl.cs : Pl -> List Pl
 | .mk _ _ _ c=>c
def Pl.z (p:Pl):Int:=sgn p.neg (val p.ds)
mutual
def Pl.terms (m : Mo) : Pl -> Sp
 | .mk l n d cs=>if l<=0 then [(sgn n (val d),m)] else if 4 < l then [] else xe m l (m.get l) cs
def xe (m : Mo) (l e : Int) : List Pl -> Sp
 | []=>[]
 | c :: r=>c.terms (m.put l e) ++ xe m l (e+1) r
end
mutual
def Pl.val (ρ : Int -> Rat) : Pl -> Rat
 | .mk l n d cs=>if l<=0 then ((sgn n (val d):Int):Rat) else if 4 < l then 0 else qf ρ l cs
def qf (ρ : Int -> Rat) (l : Int) : List Pl -> Rat
 | []=>0
 | c :: r=>c.val ρ+ρ l * qf ρ l r
end
theorem Mo.val_put (ρ:Int->Rat) (m:Mo) (l e:Int) (h1:0 < l) (h2:l<=4) (he:0<=e):(m.put l (e+1)).val ρ=ρ l * (m.put l e).val ρ:=by
 have ht:(e+1).toNat=e.toNat+1:=by omega
 rcases (show l=1\/l=2\/l=3\/l=4 by omega) with rfl | rfl | rfl | rfl
 · show ρ 1 ^ (e+1).toNat * ρ 2 ^ m.b.toNat * ρ 3 ^ m.c.toNat * ρ 4 ^ m.d.toNat=ρ 1 * (ρ 1 ^ e.toNat * ρ 2 ^ m.b.toNat * ρ 3 ^ m.c.toNat * ρ 4 ^ m.d.toNat);rw [ht,Rat.pow_succ]; grind
 · show ρ 1 ^ m.a.toNat * ρ 2 ^ (e+1).toNat * ρ 3 ^ m.c.toNat * ρ 4 ^ m.d.toNat=ρ 2 * (ρ 1 ^ m.a.toNat * ρ 2 ^ e.toNat * ρ 3 ^ m.c.toNat * ρ 4 ^ m.d.toNat);rw [ht,Rat.pow_succ]; grind
 · show ρ 1 ^ m.a.toNat * ρ 2 ^ m.b.toNat * ρ 3 ^ (e+1).toNat * ρ 4 ^ m.d.toNat=ρ 3 * (ρ 1 ^ m.a.toNat * ρ 2 ^ m.b.toNat * ρ 3 ^ e.toNat * ρ 4 ^ m.d.toNat);rw [ht,Rat.pow_succ]; grind
 · show ρ 1 ^ m.a.toNat * ρ 2 ^ m.b.toNat * ρ 3 ^ m.c.toNat * ρ 4 ^ (e+1).toNat=ρ 4 * (ρ 1 ^ m.a.toNat * ρ 2 ^ m.b.toNat * ρ 3 ^ m.c.toNat * ρ 4 ^ e.toNat);rw [ht,Rat.pow_succ]; grind
mutual
theorem Pl.terms_val (ρ : Int -> Rat) : ∀ (p : Pl) (m : Mo), m.nonneg -> jk ρ (p.terms m) = m.val ρ * p.val ρ
 | .mk l n d cs,m,hm=>by
   rw [Pl.terms,Pl.val]
   by_cases h1:l<=0
   · rw [if_pos h1,if_pos h1]; simp only [jk]; grind
   · rw [if_neg h1,if_neg h1]
     by_cases h2:4 < l
     · rw [if_pos h2,if_pos h2]; simp only [jk]; grind
     · rw [if_neg h2,if_neg h2];have hg:0<=m.get l:=by unfold Mo.nonneg at hm; unfold Mo.get; split <;> (try split) <;> (try split) <;> omega
       rw [ya9 ρ cs m l (m.get l) (by omega) (by omega) hg hm];have:m.put l (m.get l)=m:=by unfold Mo.put Mo.get; split <;> (try split) <;> (try split) <;> rfl
       rw [this]
theorem ya9 (ρ : Int -> Rat) : ∀ (cs : List Pl) (m : Mo) (l e : Int), 0 < l -> l <= 4 -> 0 <= e -> m.nonneg -> jk ρ (xe m l e cs) = (m.put l e).val ρ * qf ρ l cs
 | [],m,l,e,h1,h2,he,hm=>by rw [xe,qf]; simp only [jk]; grind
 | c :: r,m,l,e,h1,h2,he,hm=>by
   have hp:(m.put l e).nonneg:=by unfold Mo.nonneg at *; unfold Mo.put; split <;> (try split) <;> (try split) <;> simp_all
   rw [xe,qf,xag,Pl.terms_val ρ c _ hp,ya9 ρ r m l (e+1) h1 h2 (by omega) hm,Mo.val_put ρ m l e h1 h2 he]
   grind
end
theorem Mo.val_one (ρ:Int->Rat):Mo.one.val ρ=1:=by simp [Mo.one,Mo.val]
theorem Pl.val_coef (ρ:Int->Rat) {p q:Pl} (h:∀ m,je (p.terms Mo.one) m=je (q.terms Mo.one) m):p.val ρ=q.val ρ:=by
 have h1:=qap ρ h;rw [Pl.terms_val ρ p _ (by unfold Mo.nonneg Mo.one; simp),Pl.terms_val ρ q _ (by unfold Mo.nonneg Mo.one; simp),Mo.val_one] at h1
 grind
def Pl.zero:Pl:=.mk 0 false [] []
def Pl.const (z:Int):Pl:=.mk 0 (decide (z < 0)) (dg z.natAbs) []
theorem Pl.const_terms (z:Int) (m:Mo):(Pl.const z).terms m=[(z,m)]:=by
 rw [Pl.const,Pl.terms,if_pos (by omega),qg,xan]
def bld : Nat -> Sp -> Pl
 | _,[]=>Pl.zero
 | 0,(c,_) :: _=>Pl.const c
 | n+1,(c,m) :: r=>if m.get (n+1:Nat)=0 then bld n ((c,m) :: r) else .mk (n+1:Nat) false [] ((List.range ((m.get (n+1:Nat)).toNat+1)).map fun (i:Nat)=>bld n (((c,m) :: r).filter fun x=>decide (x.2.get (n+1:Nat)=Int.ofNat i)))
def ga7 (n:Nat) (m:Mo) (l:Sp):Prop:=∀ x ∈ l,∀ i:Nat,n < i->i<=4->x.2.get i=m.get i
theorem Mo.get_all {m k:Mo} (h:∀ i:Nat,0 < i->i<=4->m.get i=k.get i):m=k:=by
 have h1:=h 1 (by omega) (by omega);have h2:=h 2 (by omega) (by omega);have h3:=h 3 (by omega) (by omega);have h4:=h 4 (by omega) (by omega);simp [Mo.get] at h1 h2 h3 h4;exact Mo.ext_ h1 h2 h3 h4
theorem Mo.get_put (m:Mo) (i:Nat) (e:Int) (h1:0 < i) (h2:i<=4) (j:Nat) (h3:0 < j) (h4:j<=4):(m.put i e).get j=if j=i then e else m.get j:=by
 rcases (show i=1\/i=2\/i=3\/i=4 by omega) with rfl | rfl | rfl | rfl <;> rcases (show j=1\/j=2\/j=3\/j=4 by omega) with rfl | rfl | rfl | rfl <;> simp [Mo.put,Mo.get]
theorem Mo.lt_get {x m:Mo} {n:Nat} (hn:0 < n) (ik:n<=4) (h:x.lt m) (ha:∀ i:Nat,n < i->i<=4->x.get i=m.get i):x.get n<=m.get n:=by
 unfold Mo.lt at h;have h2:=ha 2;have h3:=ha 3;have h4:=ha 4;rcases (show n=1\/n=2\/n=3\/n=4 by omega) with rfl | rfl | rfl | rfl <;> simp [Mo.get] at h2 h3 h4 ⊢ <;> omega
theorem qp.filter {l:Sp} (h:qp l) (f:Int × Mo->Bool):qp (l.filter f):=by
 induction l with
 | nil=>exact trivial
 | cons x l ih =>
   obtain ⟨c,m⟩:=x;rw [List.filter_cons]
   split
   · exact ⟨h.1,fun y hy=>h.2.1 y (List.mem_filter.1 hy).1,ih h.2.2⟩
   · exact ih h.2.2
theorem qca (l:Sp) (m:Mo) (f g k:Int × Mo->Bool) (h:∀ x ∈ l,k x=(f x || g x)) (hd:∀ x ∈ l,¬ (f x=true/\g x=true)):je (l.filter k) m=je (l.filter f) m+je (l.filter g) m:=by
 induction l with
 | nil=>rfl
 | cons x l ih =>
   have ihl:=ih (fun y hy=>h y (by simp [hy])) (fun y hy=>hd y (by simp [hy]));have hk:=h x (by simp);have hx:=hd x (by simp);rw [List.filter_cons,List.filter_cons,List.filter_cons];cases hf:f x <;> cases hg:g x <;> rw [hf,hg] at hk <;> simp only [Bool.or_false,Bool.or_true,Bool.true_or,Bool.false_or] at hk <;> rw [hk] <;> simp only [if_true,Bool.false_eq_true,if_false,je]
   · exact ihl
   · rw [ihl]; omega
   · rw [ihl]; omega
   · exact absurd ⟨hf,hg⟩ hx
theorem vbb (l:Sp) (m:Mo) (f:Int × Mo->Bool) (h:∀ x ∈ l,f x=true):l.filter f=l:=List.filter_eq_self.2 h
theorem zbe (n:Nat) (hn:n<=4):∀ (l:Sp) (m:Mo),qp l->(∀ x ∈ l,x.2.nonneg)->ga7 n m l->(∀ i:Nat,0 < i->i<=n->m.get i=0)->∀ k,je ((bld n l).terms m) k=je l k:=by
 induction n with
 | zero =>
   intro l m hl kU ha _ k;cases l with
   | nil=>simp [bld,Pl.zero,Pl.terms,je,sgn,val]
   | cons x r =>
     obtain ⟨c,m'⟩:=x;have hm:m'=m:=Mo.get_all (fun i h1 h2=>ha (c,m') (by simp) i h1 h2);subst hm;have hr:r=[]:=by
      cases r with
      | nil=>rfl
      | cons y r =>
        have h1:=hl.2.1 y (by simp);have h2:y.2=m':=Mo.get_all (fun i h1 h2=>ha y (by simp) i h1 h2);rw [h2] at h1;exact absurd h1 (Mo.lt_irrefl _)
     subst hr;rw [bld,Pl.const_terms]
 | succ n ih =>
   intro l m hl kU ha hz k;cases l with
   | nil=>simp [bld,Pl.zero,Pl.terms,je,sgn,val]
   | cons x r =>
     obtain ⟨c,m'⟩:=x;have Df:∀ y ∈ ((c,m') :: r:Sp),y.2.get (n+1:Nat)<=m'.get (n+1:Nat):=by
      intro y hy;rcases List.mem_cons.1 hy with rfl | VM
      · exact Int.le_refl _
      · exact Mo.lt_get (by omega) (by omega) (hl.2.1 y VM) (fun i h1 h2=>(ha y hy i (by omega) h2).trans (ha (c,m') (by simp) i (by omega) h2).symm)
     have lw:∀ y ∈ ((c,m') :: r:Sp),0<=y.2.get (n+1:Nat):=by
      intro y hy;have:=kU y hy;unfold Mo.nonneg at this;unfold Mo.get
      split <;> (try split) <;> (try split) <;> omega
     rw [bld]
     by_cases h0:m'.get (n+1:Nat)=0
     · rw [if_pos h0];refine ih (by omega) _ m hl kU (fun y hy i h1 h2=>?_) (fun i h1 h2=>hz i h1 (by omega)) k
       by_cases hi:i=n+1
       · subst hi;rw [hz (n+1) (by omega) (by omega)];have h1:=Df y hy;have h2:=lw y hy;omega
       · exact ha y hy i (by omega) h2
     · rw [if_neg h0];have iy:m.get (n+1:Nat)=0:=hz (n+1) (by omega) (by omega);rw [Pl.terms,if_neg (by omega),if_neg (by omega),iy];generalize hL:((c,m') :: r:Sp)=L at *;have key:∀ (cnt e:Nat),je (xe m (n+1:Nat) (e:Int) ((List.range' e cnt).map fun (i:Nat)=>bld n (L.filter fun x=>decide (x.2.get (n+1:Nat)=Int.ofNat i)))) k=je (L.filter fun x=>decide ((e:Int)<=x.2.get (n+1:Nat)) && decide (x.2.get (n+1:Nat) < (e:Int)+cnt)) k:=by
        intro cnt
        induction cnt with
        | zero =>
          intro e;have:(L.filter fun x=>decide ((e:Int)<=x.2.get (n+1:Nat)) && decide (x.2.get (n+1:Nat) < (e:Int)+(0:Nat)))=[]:=List.filter_eq_nil_iff.2 (fun x _=>by simp);rw [this]; rfl
        | succ cnt ihc =>
          intro e;rw [List.range'_succ,List.map_cons,xe,gal];have e1:((e:Int)+1)=((e+1:Nat):Int):=by omega
          rw [e1,ihc (e+1)];rw [ih (by omega) _ (m.put (n+1:Nat) e) (hl.filter _) (fun x hx=>kU x (List.mem_filter.1 hx).1) (fun x hx i h1 h2=>?_) (fun i h1 h2=>?_)]
          · refine (qca L k _ _ _ (fun x _=>?_) (fun x _=>?_)).symm
            · simp only [<- Bool.decide_and,<- Bool.decide_or,decide_eq_decide,Int.ofNat_eq_natCast];omega
            · simp only [Bool.and_eq_true,decide_eq_true_eq,Int.ofNat_eq_natCast];omega
          · obtain ⟨hx1,aO⟩:=List.mem_filter.1 hx;rw [Mo.get_put m (n+1) e (by omega) (by omega) i (by omega) h2]
            by_cases hi:i=n+1
            · rw [if_pos hi,hi]; simpa using aO
            · rw [if_neg hi]; exact ha x hx1 i (by omega) h2
          · rw [Mo.get_put m (n+1) e (by omega) (by omega) i h1 (by omega),if_neg (by omega)];exact hz i h1 (by omega)
       have h1:=key ((m'.get (n+1:Nat)).toNat+1) 0;rw [<- List.range_eq_range'] at h1;refine Eq.trans h1 ?_;rw [vbb L k _ (fun x hx=>?_)];have h2:=Df x hx;have h3:=lw x hx;simp only [Bool.and_eq_true,decide_eq_true_eq];omega
mutual
def Pl.Can : Pl -> Prop
 | .mk l n d cs=>(l=0/\cs=[]/\d=dg (val d)/\(d=[]->n=false))\/(1<=l/\l<=4/\n=false/\d=[]/\2<=cs.length/\gp l cs/\cs.getLast? ≠ some Pl.zero)
def gp (l : Int) : List Pl -> Prop
 | []=>True
 | c :: r=>c.lv < l/\c.Can/\gp l r
end
theorem gp.mem {l : Int} : ∀ {cs : List Pl}, gp l cs -> ∀ c ∈ cs, c.lv < l /\ c.Can
 | c :: r,h,x,hx=>by
   unfold gp at h;rcases List.mem_cons.1 hx with rfl | hx
   · exact ⟨h.1,h.2.1⟩
   · exact gp.mem h.2.2 x hx
theorem Pl.zero_can:Pl.zero.Can:=by unfold Pl.zero Pl.Can; left; exact ⟨rfl,rfl,by simp [val,xn],fun _=>rfl⟩
theorem Pl.Can.lv_nonneg {p:Pl} (h:p.Can):0<=p.lv/\p.lv<=4:=by
 cases p with
 | mk l n d cs=>unfold Pl.Can at h; show 0<=l/\l<=4; rcases h with h | h <;> omega
mutual
theorem Pl.terms_above : ∀ (p : Pl) (m : Mo) (n : Nat), p.Can -> p.lv <= n -> ∀ x ∈ p.terms m, ∀ i : Nat, n < i -> i <= 4 -> x.2.get i = m.get i
 | .mk l ng d cs,m,n,h,hl,x,hx,i,h1,h2=>by
   rw [Pl.terms] at hx;unfold Pl.Can at h
   change l<=n at hl
   by_cases h0:l<=0
   · rw [if_pos h0] at hx;rw [(List.mem_singleton.1 hx)]
   · rw [if_neg h0] at hx
     by_cases h4:4 < l
     · rw [if_pos h4] at hx; cases hx
     · rw [if_neg h4] at hx;rcases h with h | h
       · omega
       · exact ja3 cs m l (m.get l) n h.2.2.2.2.2.1 (by omega) (by omega) hl x hx i h1 h2
theorem ja3 : ∀ (cs : List Pl) (m : Mo) (l e : Int) (n : Nat), gp l cs -> 0 < l -> l <= 4 -> l <= n -> ∀ x ∈ xe m l e cs, ∀ i : Nat, n < i -> i <= 4 -> x.2.get i = m.get i
 | [],m,l,e,n,h,kV,aj,hl,x,hx,i,h1,h2=>by rw [xe] at hx; cases hx
 | c :: r,m,l,e,n,h,kV,aj,hl,x,hx,i,h1,h2=>by
   rw [xe] at hx;unfold gp at h;rcases List.mem_append.1 hx with hx | hx
   · obtain ⟨ln,rfl⟩:∃ ln:Nat,l=ln:=⟨l.toNat,by omega⟩;rw [Pl.terms_above c _ n h.2.1 (by omega) x hx i h1 h2,Mo.get_put m ln e (by omega) (by omega) i (by omega) h2,if_neg (by omega)]
   · exact ja3 r m l (e+1) n h.2.2 kV aj hl x hx i h1 h2
end
theorem zam (m : Mo) (l : Nat) (kV : 0 < l) (aj : l <= 4) (k : Mo) : ∀ (cs : List Pl) (e : Int), gp l cs -> je (xe m l e cs) k = if h : e <= k.get l /\ (k.get l - e).toNat < cs.length then je ((cs[(k.get l - e).toNat]'h.2).terms (m.put l (k.get l))) k else 0
 | [],e,_=>by rw [xe,dif_neg (by simp)]; rfl
 | c :: r,e,h=>by
   unfold gp at h;have hz:∀ (c:Pl) (e:Int),c.lv < l->c.Can->k.get l ≠ e->je (c.terms (m.put l e)) k=0:=by
    intro c e bZ dw au;refine qac fun x hx he=>au ?_
    have:=Pl.terms_above c (m.put l e) (l - 1) dw (by omega) x hx l (by omega) aj;rw [he,Mo.get_put m l e kV aj l kV aj,if_pos rfl] at this;exact this
   rw [xe,gal,zam m l kV aj k r (e+1) h.2.2]
   by_cases he:k.get l=e
   · rw [dif_neg (by omega),dif_pos (by constructor; omega; simp; omega)];have h0:(k.get l - e).toNat=0:=by omega
     have nS:∀ (j:Nat) (hj:j < (c :: r).length),j=0->(c :: r)[j]=c:=by intro j hj h; subst h; rfl
     rw [nS _ _ h0,he];omega
   · rw [hz c e h.1 h.2.1 he]
     by_cases af:e<=k.get l/\(k.get l - e).toNat < (c :: r).length
     · have hs:(k.get l - e).toNat=(k.get l - (e+1)).toNat+1:=by omega
       have fF:e+1<=k.get l/\(k.get l - (e+1)).toNat < r.length:=by
        have:=af.2;simp only [List.length_cons] at this;omega
       rw [dif_pos af,dif_pos fF];simp only [hs,List.getElem_cons_succ];omega
     · rw [dif_neg af,dif_neg (by
        simp only [List.length_cons] at af
        omega)]
       rfl
theorem Pl.Can.kids {l:Int} {n:Bool} {d:List Nat} {cs:List Pl} (h:(Pl.mk l n d cs).Can) (hl:0 < l):n=false/\d=[]/\2<=cs.length/\gp l cs/\cs.getLast? ≠ some Pl.zero:=by
 unfold Pl.Can at h;rcases h with h | h
 · omega
 · exact h.2.2
theorem Pl.zero_coef (m k:Mo):je (Pl.zero.terms m) k=0:=by simp [Pl.zero,Pl.terms,je,sgn,val]
theorem kcw (n:Nat) (hn:n<=4):∀ (p p':Pl) (m:Mo),p.Can->p'.Can->p.lv<=n->p'.lv<=n->(∀ i:Nat,0 < i->i<=n->m.get i=0)->(∀ k,je (p.terms m) k=je (p'.terms m) k)->p=p':=by
 induction n with
 | zero =>
   intro p p' m h h' hl kL _ he;obtain ⟨l,ng,d,cs⟩:=p;obtain ⟨l',KN,d',cs'⟩:=p';unfold Pl.Can at h h'
   change l<=(0:Nat) at hl
   change l'<=(0:Nat) at kL
   rcases h with ⟨rfl,rfl,hd,pY⟩ | h
   · rcases h' with ⟨rfl,rfl,DK,WW⟩ | h'
     · have e1:=he m;simp only [Pl.terms,if_pos (show (0:Int)<=0 by omega),je,if_true,Int.add_zero] at e1;have hv:val d=val d':=by
        have:=congrArg Int.natAbs e1;rw [uu,uu] at this;exact this
       have kX:d=d':=by rw [hd,hv,<- DK]
       subst kX;have kU:ng=KN:=by
        by_cases hz:d=[]
        · rw [pY hz,WW hz]
        · have hvz:val d ≠ 0:=fun e=>hz (by rw [hd,e,xn])
          cases ng <;> cases KN <;> first | rfl | (exfalso; simp [sgn] at e1; omega)
       rw [kU]
     · omega
   · omega
 | succ n ih =>
   have low:∀ (p p':Pl) (m:Mo),p.Can->p'.Can->p.lv<=n->p'.lv=(n+1:Nat)->(∀ i:Nat,0 < i->i<=n+1->m.get i=0)->(∀ k,je (p.terms m) k=je (p'.terms m) k)->False:=by
    intro p p' m h h' hl kL hm he;obtain ⟨l',KN,d',cs'⟩:=p'
    change l'=(n+1:Nat) at kL
    subst kL;obtain ⟨-,-,hlen,eH,dC⟩:=h'.kids (by omega);have hL:cs'.length - 1 < cs'.length:=by omega
    have hc:=eH.mem cs'[cs'.length - 1] (List.getElem_mem hL);apply dC;rw [List.getLast?_eq_getElem?,List.getElem?_eq_getElem hL]
    congr 1
    refine ih (by omega) _ _ (m.put (n+1:Nat) ((cs'.length - 1:Nat):Int)) hc.2 Pl.zero_can (by omega) (by show (0:Int)<=_; omega) (fun i h1 h2=>?_) (fun k=>?_)
    · rw [Mo.get_put m (n+1) _ (by omega) (by omega) i h1 (by omega),if_neg (by omega)];exact hm i h1 (by omega)
    · rw [Pl.zero_coef]
      by_cases hk:k.get (n+1:Nat)=((cs'.length - 1:Nat):Int)
      · have e1:=he k;rw [qac (l:=p.terms m) (fun x hx e=>by
         have:=Pl.terms_above p m n h hl x hx (n+1) (by omega) (by omega);rw [e,hm (n+1) (by omega) (by omega),hk] at this
         omega)] at e1
        rw [Pl.terms,if_neg (by omega),if_neg (by omega),hm (n+1) (by omega) (by omega),zam m (n+1) (by omega) (by omega) k cs' 0 eH,dif_pos (by omega)] at e1;have hi:(k.get (n+1:Nat) - 0).toNat=cs'.length - 1:=by omega
        have nS:∀ (j:Nat) (hj:j < cs'.length),j=cs'.length - 1->cs'[j]=cs'[cs'.length - 1]:=by intro j hj h; subst h; rfl
        rw [nS _ _ hi] at e1;rw [<- hk];exact e1.symm
      · refine qac fun x hx e=>hk ?_
        have:=Pl.terms_above cs'[cs'.length - 1] _ n hc.2 (by omega) x hx (n+1) (by omega) (by omega);rw [e,Mo.get_put m (n+1) _ (by omega) (by omega) (n+1) (by omega) (by omega),if_pos rfl] at this;exact this
   intro p p' m h h' hl kL hm he
   by_cases hp:p.lv=(n+1:Nat)
   · by_cases Ii:p'.lv=(n+1:Nat)
     · obtain ⟨l,ng,d,cs⟩:=p;obtain ⟨l',KN,d',cs'⟩:=p'
       change l=(n+1:Nat) at hp
       change l'=(n+1:Nat) at Ii
       subst hp Ii;obtain ⟨rfl,rfl,hlen,eH,dC⟩:=h.kids (by omega);obtain ⟨rfl,rfl,OZ,xG,Iw⟩:=h'.kids (by omega);have hg:m.get (n+1:Nat)=0:=hm (n+1) (by omega) (by omega);have sN:∀ k,je (xe m (n+1:Nat) 0 cs) k=je (xe m (n+1:Nat) 0 cs') k:=by
        intro k;have:=he k;rw [Pl.terms,if_neg (by omega),if_neg (by omega),Pl.terms,if_neg (by omega),if_neg (by omega),hg] at this;exact this
       have mJ:∀ (i:Nat) (e:Int),0 < i->i<=n->(m.put (n+1:Nat) e).get i=0:=fun i e h1 h2=>by
        rw [Mo.get_put m (n+1) _ (by omega) (by omega) i h1 (by omega),if_neg (by omega)];exact hm i h1 (by omega)
       have Ij:∀ (c:Pl) (e:Int) (k:Mo),c.Can->c.lv < (n+1:Nat)->k.get (n+1:Nat) ≠ e->je (c.terms (m.put (n+1:Nat) e)) k=0:=by
        intro c e k bZ dw au;refine qac fun x hx he'=>au ?_
        have:=Pl.terms_above c _ n bZ (by omega) x hx (n+1) (by omega) (by omega);rw [he',Mo.get_put m (n+1) _ (by omega) (by omega) (n+1) (by omega) (by omega),if_pos rfl] at this;exact this
       have nK:∀ (cs:List Pl) (i:Nat) (hi:i < cs.length) (k:Mo),gp (n+1:Nat) cs->k.get (n+1:Nat)=(i:Int)->je (xe m (n+1:Nat) 0 cs) k=je (cs[i].terms (m.put (n+1:Nat) (i:Int))) k:=by
        intro cs i hi k eH hk;rw [zam m (n+1) (by omega) (by omega) k cs 0 eH,dif_pos (by omega)];have iO:(k.get (n+1:Nat) - 0).toNat=i:=by omega
        have nS:∀ (j:Nat) (hj:j < cs.length),j=i->cs[j]=cs[i]:=by intro j hj h; subst h; rfl
        rw [nS _ _ iO,hk]
       have KZ:∀ (cs:List Pl) (i:Nat) (k:Mo),cs.length<=i->gp (n+1:Nat) cs->k.get (n+1:Nat)=(i:Int)->je (xe m (n+1:Nat) 0 cs) k=0:=by
        intro cs i k hi eH hk;rw [zam m (n+1) (by omega) (by omega) k cs 0 eH,dif_neg (by omega)]
       have nol:∀ (cs cs':List Pl),gp (n+1:Nat) cs->gp (n+1:Nat) cs'->2<=cs.length->cs.getLast? ≠ some Pl.zero->(∀ k,je (xe m (n+1:Nat) 0 cs) k=je (xe m (n+1:Nat) 0 cs') k)->cs.length<=cs'.length:=by
        intro cs cs' eH xG hlen dC sN;rcases Nat.lt_or_ge cs'.length cs.length with af | lS
        · exfalso
          apply dC;have hL:cs.length - 1 < cs.length:=by omega
          rw [List.getLast?_eq_getElem?,List.getElem?_eq_getElem hL]
          congr 1
          have hc:=eH.mem cs[cs.length - 1] (List.getElem_mem hL);refine ih (by omega) _ _ (m.put (n+1:Nat) ((cs.length - 1:Nat):Int)) hc.2 Pl.zero_can (by omega) (by show (0:Int)<=_; omega) (fun i h1 h2=>mJ i _ h1 h2) (fun k=>?_);rw [Pl.zero_coef]
          by_cases hk:k.get (n+1:Nat)=((cs.length - 1:Nat):Int)
          · rw [<- nK cs (cs.length - 1) hL k eH hk,sN k];exact KZ cs' _ k (by omega) xG hk
          · exact Ij _ _ k hc.2 hc.1 hk
        · exact lS
       have uN:cs.length=cs'.length:=Nat.le_antisymm (nol cs cs' eH xG hlen dC sN) (nol cs' cs xG eH OZ Iw (fun k=>(sN k).symm));have jO:cs=cs':=by
        refine List.ext_getElem uN fun i hi iO=>?_
        have hc:=eH.mem cs[i] (List.getElem_mem hi);have jH:=xG.mem cs'[i] (List.getElem_mem iO);refine ih (by omega) _ _ (m.put (n+1:Nat) (i:Int)) hc.2 jH.2 (by omega) (by omega) (fun j h1 h2=>mJ j _ h1 h2) (fun k=>?_)
        by_cases hk:k.get (n+1:Nat)=(i:Int)
        · rw [<- nK cs i hi k eH hk,<- nK cs' i iO k xG hk]; exact sN k
        · rw [Ij _ _ k hc.2 hc.1 hk,Ij _ _ k jH.2 jH.1 hk]
       rw [jO]
     · exact (low p' p m h' h (by omega) hp hm (fun k=>(he k).symm)).elim
   · by_cases Ii:p'.lv=(n+1:Nat)
     · exact (low p p' m h h' (by omega) Ii hm he).elim
     · exact ih (by omega) p p' m h h' (by omega) (by omega) (fun i h1 h2=>hm i h1 (by omega)) he
theorem Pl.can_eq {p p':Pl} (h:p.Can) (h':p'.Can) (he:∀ k,je (p.terms Mo.one) k=je (p'.terms Mo.one) k):p=p':=
 kcw 4 (Nat.le_refl _) p p' Mo.one h h' h.lv_nonneg.2 h'.lv_nonneg.2 (fun i h1 h2=>by
  rcases (show i=1\/i=2\/i=3\/i=4 by omega) with rfl | rfl | rfl | rfl <;> rfl) he
theorem ut (z:Int):(Pl.const z).Can:=by
 unfold Pl.const Pl.Can
 left
 refine ⟨rfl,rfl,by rw [qg],fun h=>?_⟩;have:z.natAbs=0:=by
  have h1:(dg z.natAbs).length=0:=by rw [h]; rfl
  exact vay h1
 have hz:z=0:=by omega
 rw [hz]; rfl
theorem zae {l : Int} : ∀ {cs : List Pl}, (∀ c ∈ cs, c.lv < l /\ c.Can) -> gp l cs
 | [],_=>by unfold gp; trivial
 | c :: r,h=>by
   unfold gp;exact ⟨(h c (by simp)).1,(h c (by simp)).2,zae (fun x hx=>h x (by simp [hx]))⟩
theorem wb7 (n:Nat) (hn:n<=4):∀ (l:Sp) (m:Mo),qp l->(∀ x ∈ l,x.2.nonneg)->ga7 n m l->(∀ i:Nat,0 < i->i<=n->m.get i=0)->(bld n l).Can/\(bld n l).lv<=n:=by
 induction n with
 | zero =>
   intro l m hl kU ha hz;cases l with
   | nil=>rw [bld]; exact ⟨Pl.zero_can,by show (0:Int)<=_; omega⟩
   | cons x r=>obtain ⟨c,m'⟩:=x; rw [bld]; exact ⟨ut c,by show (0:Int)<=_; omega⟩
 | succ n ih =>
   intro l m hl kU ha hz;cases l with
   | nil=>rw [bld]; exact ⟨Pl.zero_can,by show (0:Int)<=_; omega⟩
   | cons x r =>
     obtain ⟨c,m'⟩:=x;have Df:∀ y ∈ ((c,m') :: r:Sp),y.2.get (n+1:Nat)<=m'.get (n+1:Nat):=by
      intro y hy;rcases List.mem_cons.1 hy with rfl | VM
      · exact Int.le_refl _
      · exact Mo.lt_get (by omega) (by omega) (hl.2.1 y VM) (fun i h1 h2=>(ha y hy i (by omega) h2).trans (ha (c,m') (by simp) i (by omega) h2).symm)
     have lw:∀ y ∈ ((c,m') :: r:Sp),0<=y.2.get (n+1:Nat):=by
      intro y hy;have:=kU y hy;unfold Mo.nonneg at this;unfold Mo.get
      split <;> (try split) <;> (try split) <;> omega
     rw [bld]
     by_cases h0:m'.get (n+1:Nat)=0
     · rw [if_pos h0];obtain ⟨h1,h2⟩:=ih (by omega) _ m hl kU (fun y hy i h1 h2=>by
        by_cases hi:i=n+1
        · subst hi;rw [hz (n+1) (by omega) (by omega)];have h1:=Df y hy;have h2:=lw y hy;omega
        · exact ha y hy i (by omega) h2) (fun i h1 h2=>hz i h1 (by omega))
       exact ⟨h1,by omega⟩
     · rw [if_neg h0];have dh:0 < m'.get (n+1:Nat):=by have:=lw (c,m') (by simp); simp only at this; omega
       have ES:∀ i:Nat,qp (((c,m') :: r).filter fun x=>decide (x.2.get (n+1:Nat)=Int.ofNat i))/\(∀ x ∈ (((c,m') :: r).filter fun x=>decide (x.2.get (n+1:Nat)=Int.ofNat i)),x.2.nonneg)/\ga7 n (m.put (n+1:Nat) (i:Int)) (((c,m') :: r).filter fun x=>decide (x.2.get (n+1:Nat)=Int.ofNat i))/\(∀ j:Nat,0 < j->j<=n->(m.put (n+1:Nat) (i:Int)).get j=0):=by
        intro i;refine ⟨hl.filter _,fun x hx=>kU x (List.mem_filter.1 hx).1,fun x hx j h1 h2=>?_,fun j h1 h2=>?_⟩
        · obtain ⟨hx1,aO⟩:=List.mem_filter.1 hx;rw [Mo.get_put m (n+1) _ (by omega) (by omega) j (by omega) h2]
          by_cases hj:j=n+1
          · rw [if_pos hj,hj]; simpa using aO
          · rw [if_neg hj]; exact ha x hx1 j (by omega) h2
        · rw [Mo.get_put m (n+1) _ (by omega) (by omega) j h1 (by omega),if_neg (by omega)];exact hz j h1 (by omega)
       refine ⟨?_,by show ((n+1:Nat):Int)<=_; omega⟩;unfold Pl.Can
       right
       refine ⟨by omega,by omega,rfl,rfl,by rw [List.length_map,List.length_range]; omega,zae (fun x hx=>?_),?_⟩
       · obtain ⟨i,-,rfl⟩:=List.mem_map.1 hx;obtain ⟨q1,q2,q3,q4⟩:=ES i;obtain ⟨h1,h2⟩:=ih (by omega) _ _ q1 q2 q3 q4;exact ⟨by omega,h1⟩
       · rw [List.getLast?_map,List.getLast?_range];rw [if_neg (by omega)];simp only [Option.map_some,Nat.add_sub_cancel,ne_eq,Option.some.injEq];intro e;obtain ⟨q1,q2,q3,q4⟩:=ES (m'.get (n+1:Nat)).toNat;have sN:=zbe n (by omega) _ _ q1 q2 q3 q4 m';rw [e,Pl.zero_coef] at sN;have Pv:(((c,m') :: r).filter fun x=>decide (x.2.get (n+1:Nat)=Int.ofNat (m'.get (n+1:Nat)).toNat))=(c,m') :: (r.filter fun x=>decide (x.2.get (n+1:Nat)=Int.ofNat (m'.get (n+1:Nat)).toNat)):=by
          rw [List.filter_cons,if_pos];simp only [decide_eq_true_eq,Int.ofNat_eq_natCast];omega
         rw [Pv] at sN q1;rw [(ual q1).1] at sN;exact hl.1 sN.symm
theorem qbk {l:Sp} (h:qp l) (hn:∀ x ∈ l,x.2.nonneg):(bld 4 l).Can/\∀ k,je ((bld 4 l).terms Mo.one) k=je l k:=by
 have hz:∀ i:Nat,0 < i->i<=4->Mo.one.get i=0:=fun i h1 h2=>by
  rcases (show i=1\/i=2\/i=3\/i=4 by omega) with rfl | rfl | rfl | rfl <;> rfl
 have ha:ga7 4 Mo.one l:=fun x _ i h1 h2=>by omega
 exact ⟨(wb7 4 (Nat.le_refl _) l _ h hn ha hz).1,zbe 4 (Nat.le_refl _) l _ h hn ha hz⟩
def Pl.isZ (p:Pl):Bool:=decide (p.lv=0) && decide (p.ds.length=0)
mutual
def Pl.isCan : Pl -> Bool
 | .mk l n d cs=>if l=0 then (if 0 < cs.length then false else (decide (d.length=0) && !n) || (decide (0 < d.length) && decide (d.getLast? ≠ some 0)))
   else if (l < 1\/4 < l)\/0 < d.length\/n=true\/cs.length < 2 then false
   else vai l cs && (match cs.getLast? with
    | some c=>!c.isZ
    | none=>true)
def vai (l : Int) : List Pl -> Bool
 | []=>true
 | c :: r=>decide (c.lv < l) && c.isCan && vai l r
end
mutual
def Pl.dig : Pl -> Prop
 | .mk _ _ d cs=>vg d/\yar cs
def yar : List Pl -> Prop
 | []=>True
 | c :: r=>c.dig/\yar r
end
theorem jcd {d:List Nat} (hd:vg d) (h0:0 < d.length):d=dg (val d) ↔ d.getLast? ≠ some 0:=by
 rw [qbh hd];obtain ⟨k,hk⟩:∃ k,d.length=k+1:=⟨d.length - 1,by omega⟩;have hl:d.getLast?=some (d.getD k 0):=by
  rw [List.getLast?_eq_getElem?,List.getD_eq_getElem?_getD,hk,Nat.add_sub_cancel,List.getElem?_eq_getElem (by omega)]; rfl
 have ht:d=d.take (gab d d.length) ↔ gab d d.length=d.length:=by
  constructor
  · intro h;have:=congrArg List.length h;rw [List.length_take] at this;have:=zan d d.length;omega
  · intro h; rw [h,List.take_length]
 rw [ht,hl,hk,gab]
 by_cases h:d.getD k 0=0
 · rw [if_pos h,h];have:=zan d k
   constructor
   · intro e; omega
   · intro e; exact absurd rfl e
 · rw [if_neg h];simpa using h
theorem Pl.zero_isZ {p:Pl} (h:p.Can):p.isZ=true ↔ p=Pl.zero:=by
 cases p with
 | mk l n d cs =>
   unfold Pl.Can at h;unfold Pl.isZ Pl.zero;show (decide (l=0) && decide (d.length=0))=true ↔ _;rw [Bool.and_eq_true,decide_eq_true_eq,decide_eq_true_eq,List.length_eq_zero_iff,Pl.mk.injEq]
   constructor
   · rintro ⟨h1,h2⟩;rcases h with h | h
     · exact ⟨h1,h.2.2.2 h2,h2,h.2.1⟩
     · omega
   · rintro ⟨h1,-,h2,-⟩; exact ⟨h1,h2⟩
mutual
theorem Pl.isCan_iff : ∀ p : Pl, p.dig -> (p.isCan = true ↔ p.Can)
 | .mk l n d cs,hd=>by
   rw [Pl.dig] at hd;have eH:=va9 cs;rw [Pl.isCan,Pl.Can]
   by_cases h0:l=0
   · rw [if_pos h0]
     by_cases hc:0 < cs.length
     · rw [if_pos hc]
       constructor
       · intro h; cases h
       · intro h;rcases h with ⟨-,h,-⟩ | h
         · subst h; cases hc
         · omega
     · rw [if_neg hc];have hce:cs=[]:=List.eq_nil_of_length_eq_zero (by omega);simp only [Bool.or_eq_true,Bool.and_eq_true,decide_eq_true_eq,Bool.not_eq_true',List.length_eq_zero_iff]
       by_cases nP:0 < d.length
       · have uQ:d ≠ []:=by intro e; subst e; cases nP
         have:=jcd hd.1 nP
         constructor
         · rintro (⟨h,-⟩ | ⟨-,h⟩)
           · exact absurd h uQ
           · exact .inl ⟨h0,hce,this.2 h,fun e=>absurd e uQ⟩
         · rintro (h | h)
           · exact .inr ⟨nP,this.1 h.2.2.1⟩
           · omega
       · have uQ:d=[]:=List.eq_nil_of_length_eq_zero (by omega)
         constructor
         · rintro (⟨-,h⟩ | ⟨h,-⟩)
           · exact .inl ⟨h0,hce,by rw [uQ]; simp [val,xn],fun _=>h⟩
           · omega
         · rintro (h | h)
           · exact .inl ⟨uQ,h.2.2.2 uQ⟩
           · omega
   · rw [if_neg h0]
     by_cases h1:(l < 1\/4 < l)\/0 < d.length\/n=true\/cs.length < 2
     · rw [if_pos h1]
       constructor
       · intro h; cases h
       · rintro (h | ⟨h2,h3,h4,h5,h6,-⟩)
         · exact absurd h.1 h0
         · subst h4 h5;simp at h1; omega
     · rw [if_neg h1];have h2:1<=l/\l<=4/\d.length=0/\n=false/\2<=cs.length:=by
        have hn:¬ n=true:=fun e=>h1 (.inr (.inr (.inl e)))
        refine ⟨?_,?_,?_,by simpa using hn,?_⟩ <;> omega
       have hl:cs.getLast?=some cs[cs.length - 1]:=by rw [List.getLast?_eq_getElem?,List.getElem?_eq_getElem (by omega)]
       rw [hl];simp only [Bool.and_eq_true,Bool.not_eq_true']
       constructor
       · rintro ⟨ha,hb⟩;have hk:=(eH l hd.2).1 ha;refine .inr ⟨h2.1,h2.2.1,h2.2.2.2.1,List.eq_nil_of_length_eq_zero h2.2.2.1,h2.2.2.2.2,hk,?_⟩;intro e;have:=(Pl.zero_isZ (hk.mem _ (List.getElem_mem (by omega:cs.length - 1 < cs.length))).2).2 (Option.some.inj e);rw [this] at hb; cases hb
       · rintro (h | ⟨-,-,-,-,-,hk,au⟩)
         · exact absurd h.1 h0
         · refine ⟨(eH l hd.2).2 hk,?_⟩;rw [Bool.eq_false_iff];intro e;exact au (congrArg some ((Pl.zero_isZ (hk.mem _ (List.getElem_mem (by omega:cs.length - 1 < cs.length))).2).1 e))
theorem va9 : ∀ (cs : List Pl) (l : Int), yar cs -> (vai l cs = true ↔ gp l cs)
 | [],l,_=>by rw [vai,gp]; simp
 | c :: r,l,hd=>by
   rw [yar] at hd;rw [vai,gp,Bool.and_eq_true,Bool.and_eq_true,Pl.isCan_iff c hd.1,va9 r l hd.2,decide_eq_true_eq,and_assoc]
end
theorem waw (l : Int) : ∀ cs : List Pl, vai l cs = cs.all fun c => decide (c.lv < l) && c.isCan
 | []=>rfl
 | c :: r=>by rw [vai,waw l r,List.all_cons]
theorem Pl.isCan_bad {l:Int} {n:Bool} {d:List Nat} {cs:List Pl} {c:Pl} (hl:l ≠ 0) (hc:c ∈ cs) (h:l<=c.lv\/c.isCan=false):(Pl.mk l n d cs).isCan=false:=by
 rw [Pl.isCan,if_neg hl]
 split
 · rfl
 · have:vai l cs=false:=by
    rw [waw,List.all_eq_false];refine ⟨c,hc,?_⟩;rcases h with h | h
    · simp; intro h2; omega
    · simp [h]
   rw [this]; rfl
theorem Pl.isCan_fin {l:Int} {n:Bool} {d:List Nat} {cs:List Pl} (hl:l ≠ 0) (hg:¬ ((l < 1\/4 < l)\/0 < d.length\/n=true\/cs.length < 2)) (h:∀ c ∈ cs,c.lv < l/\c.isCan=true) (hn:0 < cs.length):(Pl.mk l n d cs).isCan=!(cs[cs.length - 1]).isZ:=by
 rw [Pl.isCan,if_neg hl,if_neg hg];have h1:vai l cs=true:=by
  rw [waw,List.all_eq_true];intro c hc;simp [h c hc]
 rw [h1,List.getLast?_eq_getElem?,List.getElem?_eq_getElem (by omega)]
 rfl
def qah (c : Int) (m : Mo) : Sp -> Sp
 | []=>if c=0 then [] else [(c,m)]
 | (d,n) :: r=>if n.lt m then (if c=0 then (d,n) :: r else (c,m) :: (d,n) :: r) else if m=n then (if c+d=0 then r else (c+d,n) :: r) else (d,n) :: qah c m r
theorem jch (c:Int) (m:Mo) (l:Sp) (k:Mo):je (qah c m l) k=(if m=k then c else 0)+je l k:=by
 induction l with
 | nil =>
   unfold qah
   by_cases h:c=0
   · rw [if_pos h,h]; simp [je]
   · rw [if_neg h]; simp [je]
 | cons x r ih =>
   obtain ⟨d,n⟩:=x;unfold qah
   by_cases h1:n.lt m
   · rw [if_pos h1]
     by_cases h:c=0
     · rw [if_pos h,h]; simp
     · rw [if_neg h]; simp [je]
   · rw [if_neg h1]
     by_cases h2:m=n
     · rw [if_pos h2]; subst h2
       by_cases h:c+d=0
       · rw [if_pos h]; simp only [je]; split <;> omega
       · rw [if_neg h]; simp only [je]; split <;> omega
     · rw [if_neg h2]; simp only [je,ih]; omega
theorem jbb {c:Int} {m:Mo} {l:Sp} {x:Int × Mo} (h:x ∈ qah c m l):x.2=m\/∃ y ∈ l,y.2=x.2:=by
 induction l with
 | nil =>
   unfold qah at h
   split at h
   · cases h
   · left; rw [List.mem_singleton.1 h]
 | cons y r ih =>
   obtain ⟨d,n⟩:=y;unfold qah at h
   split at h
   · split at h
     · exact .inr ⟨x,h,rfl⟩
     · rcases List.mem_cons.1 h with rfl | h
       · exact .inl rfl
       · exact .inr ⟨x,h,rfl⟩
   · split at h
     · split at h
       · exact .inr ⟨x,List.mem_cons_of_mem _ h,rfl⟩
       · rcases List.mem_cons.1 h with rfl | h
         · exact .inr ⟨_,List.mem_cons_self,rfl⟩
         · exact .inr ⟨x,List.mem_cons_of_mem _ h,rfl⟩
     · rcases List.mem_cons.1 h with rfl | h
       · exact .inr ⟨_,List.mem_cons_self,rfl⟩
       · rcases ih h with h | ⟨y,hy,e⟩
         · exact .inl h
         · exact .inr ⟨y,List.mem_cons_of_mem _ hy,e⟩
theorem gcp (c:Int) (m:Mo) (l:Sp) (h:qp l):qp (qah c m l):=by
 induction l with
 | nil =>
   unfold qah
   split
   · exact trivial
   · rename_i hc; exact ⟨hc,fun _ hx=>(by cases hx),trivial⟩
 | cons x r ih =>
   obtain ⟨d,n⟩:=x;obtain ⟨h1,h2,h3⟩:=h;unfold qah
   split
   · rename_i af
     split
     · exact ⟨h1,h2,h3⟩
     · rename_i hc;refine ⟨hc,fun y hy=>?_,h1,h2,h3⟩;rcases List.mem_cons.1 hy with rfl | hy
       · exact af
       · exact Mo.lt_trans (h2 y hy) af
   · rename_i af
     split
     · rename_i he
       split
       · exact h3
       · rename_i hc; exact ⟨hc,h2,h3⟩
     · rename_i au;refine ⟨h1,fun y hy=>?_,ih h3⟩;rcases jbb hy with e | ⟨z,hz,e⟩
       · rw [e];rcases Mo.tri m n with h | h | h
         · exact h
         · exact absurd h au
         · exact absurd h af
       · rw [<- e]; exact h2 z hz
def jf : Sp -> Sp
 | []=>[]
 | (c,m) :: r=>if m.nonneg then qah c m (jf r) else jf r
theorem yz (l:Sp):qp (jf l):=by
 induction l with
 | nil=>exact trivial
 | cons x r ih =>
   obtain ⟨c,m⟩:=x;unfold jf
   split
   · exact gcp _ _ _ ih
   · exact ih
theorem qai (l:Sp) (k:Mo):je (jf l) k=if k.nonneg then je l k else 0:=by
 induction l with
 | nil=>simp [jf,je]
 | cons x r ih =>
   obtain ⟨c,m⟩:=x;unfold jf
   by_cases hm:m.nonneg
   · rw [if_pos hm,jch,ih]
     by_cases hk:k.nonneg
     · rw [if_pos hk,if_pos hk]; simp only [je]
     · rw [if_neg hk,if_neg hk,if_neg (fun (e:m=k)=>hk (e ▸ hm))]; rfl
   · rw [if_neg hm,ih]
     by_cases hk:k.nonneg
     · rw [if_pos hk,if_pos hk]; simp only [je]; rw [if_neg (fun (e:m=k)=>hm (e ▸ hk))]; omega
     · rw [if_neg hk,if_neg hk]
theorem yt {l:Sp} {x:Int × Mo} (h:x ∈ jf l):x.2.nonneg/\∃ y ∈ l,y.2=x.2:=by
 induction l with
 | nil=>cases h
 | cons y r ih =>
   obtain ⟨c,m⟩:=y;unfold jf at h
   split at h
   · rename_i hm;rcases jbb h with e | ⟨z,hz,e⟩
     · exact ⟨by rw [e]; exact hm,_,List.mem_cons_self,e.symm⟩
     · suffices z.2.nonneg/\∃ y ∈ r,y.2=z.2 by
        obtain ⟨a,y,hy,e'⟩:=this;exact ⟨by rw [<- e]; exact a,y,List.mem_cons_of_mem _ hy,e'.trans e⟩
       clear ih h
       induction r generalizing z with
       | nil=>cases hz
       | cons y r ih =>
         obtain ⟨c',m'⟩:=y;unfold jf at hz
         split at hz
         · rename_i hm';rcases jbb hz with e1 | ⟨z',jL,e1⟩
           · exact ⟨by rw [e1]; exact hm',_,List.mem_cons_self,e1.symm⟩
           · obtain ⟨a,y,hy,e'⟩:=ih z' jL (e1.trans e);exact ⟨by rw [<- e1]; exact a,y,List.mem_cons_of_mem _ hy,e'.trans e1⟩
         · obtain ⟨a,y,hy,e'⟩:=ih z hz e;exact ⟨a,y,List.mem_cons_of_mem _ hy,e'⟩
   · obtain ⟨a,y,hy,e⟩:=ih h;exact ⟨a,y,List.mem_cons_of_mem _ hy,e⟩
theorem yad {l:Sp} (h:∀ x ∈ l,x.2.nonneg) (k:Mo):je (jf l) k=je l k:=by
 rw [qai]
 by_cases hk:k.nonneg
 · rw [if_pos hk]
 · rw [if_neg hk,qac fun x hx (e:x.2=k)=>hk (e ▸ h x hx)]
theorem ya4 {l:Sp} (h:qp l) (hn:∀ x ∈ l,x.2.nonneg):jf l=l:=qp.uniq _ _ (yz l) h (yad hn)
theorem xa8 {l l':Sp} (h:∀ k,k.nonneg->je l k=je l' k):jf l=jf l':=qp.uniq _ _ (yz l) (yz l') fun k=>by
 rw [qai,qai]
 by_cases hk:k.nonneg
 · rw [if_pos hk,if_pos hk,h k hk]
 · rw [if_neg hk,if_neg hk]
theorem qcp {l l':Sp} (hc:qp l') (hn:∀ x ∈ l',x.2.nonneg) (h:∀ k,k.nonneg->je l' k=je l k):l'=jf l:=by
 rw [<- ya4 hc hn]; exact xa8 h
def yg : Sp -> Nat
 | []=>0
 | (c,_) :: r=>c.natAbs+yg r
theorem qag (l r:Sp):yg (l ++ r)=yg l+yg r:=by
 induction l with
 | nil=>simp [yg]
 | cons x l ih=>obtain ⟨c,m⟩:=x; simp only [List.cons_append,yg,ih]; omega
theorem vcp (c:Int) (m:Mo) (l:Sp):yg (qah c m l)<=c.natAbs+yg l:=by
 induction l with
 | nil=>unfold qah; split <;> simp [yg]
 | cons x r ih =>
   obtain ⟨d,n⟩:=x;unfold qah
   split
   · split <;> simp only [yg] <;> omega
   · split
     · split <;> simp only [yg] <;> omega
     · simp only [yg]; omega
theorem uau (l:Sp):yg (jf l)<=yg l:=by
 induction l with
 | nil=>exact Nat.le_refl _
 | cons x r ih =>
   obtain ⟨c,m⟩:=x;unfold jf;have:=vcp c m (jf r)
   split <;> simp only [yg] <;> omega
theorem ucp (c:Int) (m:Mo) (l:Sp):(qah c m l).length<=l.length+1:=by
 induction l with
 | nil=>unfold qah; split <;> simp
 | cons x r ih =>
   obtain ⟨d,n⟩:=x;unfold qah
   split
   · split <;> simp
   · split
     · split <;> simp <;> omega
     · simp; omega
theorem ych (l:Sp):(jf l).length<=l.length:=by
 induction l with
 | nil=>exact Nat.le_refl _
 | cons x r ih =>
   obtain ⟨c,m⟩:=x;unfold jf;have:=ucp c m (jf r)
   split <;> simp only [List.length_cons] <;> omega
theorem waz {l:Sp} {x:Int × Mo} (h:x ∈ l):x.1.natAbs<=yg l:=by
 induction l with
 | nil=>cases h
 | cons y r ih =>
   obtain ⟨c,m⟩:=y;rcases List.mem_cons.1 h with rfl | h
   · simp only [yg]; omega
   · have:=ih h; simp only [yg]; omega
theorem xb0 (f:Int × Mo->Bool) (l:Sp):yg (l.filter f)<=yg l:=by
 induction l with
 | nil=>exact Nat.le_refl _
 | cons x r ih =>
   obtain ⟨c,m⟩:=x;rw [List.filter_cons]
   split <;> simp only [yg] <;> omega
def Pl.ofS (l:Sp):Pl:=bld 4 (jf l)
def Pl.nf (p:Pl):Pl:=Pl.ofS (p.terms Mo.one)
theorem Pl.ofS_can (l:Sp):(Pl.ofS l).Can:=(qbk (yz l) (fun _ hx=>(yt hx).1)).1
theorem Pl.ofS_coef (l:Sp) (k:Mo):je ((Pl.ofS l).terms Mo.one) k=if k.nonneg then je l k else 0:=
 ((qbk (yz l) (fun _ hx=>(yt hx).1)).2 k).trans (qai l k)
theorem Mo.put_nonneg {m:Mo} {i e:Int} (h:m.nonneg) (he:0<=e):(m.put i e).nonneg:=by
 unfold Mo.nonneg at *; unfold Mo.put; split <;> (try split) <;> (try split) <;> simp_all
theorem Mo.one_nonneg:Mo.one.nonneg:=by unfold Mo.nonneg Mo.one; simp
theorem Mo.get_nonneg {m:Mo} (h:m.nonneg) (i:Int):0<=m.get i:=by
 unfold Mo.nonneg at h; unfold Mo.get; split <;> (try split) <;> (try split) <;> omega
mutual
theorem Pl.terms_nonneg : ∀ (p : Pl) (m : Mo), m.nonneg -> ∀ x ∈ p.terms m, x.2.nonneg
 | .mk l n d cs,m,hm,x,hx=>by
   rw [Pl.terms] at hx
   split at hx
   · rw [List.mem_singleton.1 hx]; exact hm
   · split at hx
     · cases hx
     · exact wax cs m l (m.get l) hm (Mo.get_nonneg hm l) x hx
theorem wax : ∀ (cs : List Pl) (m : Mo) (l e : Int), m.nonneg -> 0 <= e -> ∀ x ∈ xe m l e cs, x.2.nonneg
 | [],m,l,e,hm,he,x,hx=>by rw [xe] at hx; cases hx
 | c :: r,m,l,e,hm,he,x,hx=>by
   rw [xe] at hx;rcases List.mem_append.1 hx with hx | hx
   · exact Pl.terms_nonneg c _ (Mo.put_nonneg hm he) x hx
   · exact wax r m l (e+1) hm (by omega) x hx
end
theorem Pl.terms_one_nonneg (p:Pl):∀ x ∈ p.terms Mo.one,x.2.nonneg:=Pl.terms_nonneg p _ Mo.one_nonneg
theorem Pl.nf_can (p:Pl):p.nf.Can:=Pl.ofS_can _
theorem Pl.nf_coef (p:Pl) (k:Mo):je (p.nf.terms Mo.one) k=je (p.terms Mo.one) k:=
 ((qbk (yz _) (fun _ hx=>(yt hx).1)).2 k).trans (yad p.terms_one_nonneg k)
theorem Pl.nf_of_can {p:Pl} (h:p.Can):p.nf=p:=Pl.can_eq p.nf_can h p.nf_coef
theorem Pl.nf_val (ρ:Int->Rat) (p:Pl):p.nf.val ρ=p.val ρ:=Pl.val_coef ρ p.nf_coef
mutual
def Pl.sz : Pl -> Nat
 | .mk _ _ _ cs=>xk cs+1
def xk : List Pl -> Nat
 | []=>0
 | c :: r=>c.sz+xk r
end
mutual
def Pl.dm : Pl -> Nat
 | .mk _ _ d cs=>max d.length (qx cs)
def qx : List Pl -> Nat
 | []=>0
 | c :: r=>max c.dm (qx r)
end
theorem xak {cs:List Pl} {c:Pl} (h:c ∈ cs):c.sz<=xk cs:=by
 induction cs with
 | nil=>cases h
 | cons x r ih =>
   rcases List.mem_cons.1 h with rfl | h
   · unfold xk; omega
   · have:=ih h; unfold xk; omega
theorem Pl.sz_kid {p c:Pl} (h:c ∈ p.cs):c.sz < p.sz:=by
 cases p with
 | mk l n d cs =>
   have h1:c.sz<=xk cs:=xak (cs:=cs) h;have h2:(Pl.mk l n d cs).sz=xk cs+1:=by rw [Pl.sz]
   omega
theorem vac (cs:List Pl):cs.length<=xk cs:=by
 induction cs with
 | nil=>exact Nat.le_refl _
 | cons x r ih=>cases x; unfold xk Pl.sz; simp only [List.length_cons]; omega
theorem Pl.sz_len (p:Pl):p.cs.length < p.sz:=by
 cases p with
 | mk l n d cs =>
   have h1:=vac cs;have h2:(Pl.mk l n d cs).sz=xk cs+1:=by rw [Pl.sz]
   have h3:(Pl.mk l n d cs).cs=cs:=rfl;rw [h3]; omega
theorem yb2 (a b:List Pl):xk (a ++ b)=xk a+xk b:=by
 induction a with
 | nil=>simp [xk]
 | cons x r ih=>simp only [List.cons_append,xk,ih]; omega
theorem jcj (l:List Pl) (k:Nat) (h:k < l.length):xk (l.drop k)=l[k].sz+xk (l.drop (k+1)):=by
 rw [List.drop_eq_getElem_cons h]; simp only [xk]
theorem kan {cs:List Pl} {c:Pl} (h:c ∈ cs):c.dm<=qx cs:=by
 induction cs with
 | nil=>cases h
 | cons x r ih =>
   rcases List.mem_cons.1 h with rfl | h
   · unfold qx; omega
   · have:=ih h; unfold qx; omega
theorem Pl.dm_kid {p c:Pl} (h:c ∈ p.cs):c.dm<=p.dm:=by
 cases p with
 | mk l n d cs =>
   have h1:c.dm<=qx cs:=kan (cs:=cs) h;have h2:(Pl.mk l n d cs).dm=max d.length (qx cs):=by rw [Pl.dm]
   omega
theorem Pl.dm_ds (p:Pl):p.ds.length<=p.dm:=by
 cases p with
 | mk l n d cs =>
   have h2:(Pl.mk l n d cs).dm=max d.length (qx cs):=by rw [Pl.dm]
   have h3:(Pl.mk l n d cs).ds=d:=rfl;rw [h3]; omega
mutual
theorem Pl.terms_len : ∀ (p : Pl) (m : Mo), (p.terms m).length <= p.sz
 | .mk l n d cs,m=>by
   rw [Pl.terms,Pl.sz]
   split
   · simp
   · split
     · simp
     · have:=jag cs m l (m.get l); omega
theorem jag : ∀ (cs : List Pl) (m : Mo) (l e : Int), (xe m l e cs).length <= xk cs
 | [],m,l,e=>by rw [xe]; simp
 | c :: r,m,l,e=>by
   rw [xe,List.length_append,xk];have:=Pl.terms_len c (m.put l e);have:=jag r m l (e+1);omega
end
theorem Mo.put_le {m:Mo} {l e E:Int} (h:m.a<=E/\m.b<=E/\m.c<=E/\m.d<=E) (he:e<=E):(m.put l e).a<=E/\(m.put l e).b<=E/\(m.put l e).c<=E/\(m.put l e).d<=E:=by
 unfold Mo.put; split <;> (try split) <;> (try split) <;> simp_all
def Mo.le (m:Mo) (E:Int):Prop:=m.a<=E/\m.b<=E/\m.c<=E/\m.d<=E
theorem Mo.le.get {m:Mo} {E:Int} (h:m.le E) (i:Int):m.get i<=E:=by
 unfold Mo.le at h; unfold Mo.get; split <;> (try split) <;> (try split) <;> omega
theorem Mo.le.put {m:Mo} {E:Int} (h:m.le E) (l e:Int) (he:e<=E):(m.put l e).le E:=Mo.put_le h he
theorem Mo.le.mono {m:Mo} {E E':Int} (h:m.le E) (he:E<=E'):m.le E':=by unfold Mo.le at *; omega
theorem Mo.one_le:Mo.one.le 0:=by unfold Mo.le Mo.one; simp
mutual
theorem Pl.terms_le : ∀ (p : Pl) (m : Mo) (E : Int), m.le E -> ∀ x ∈ p.terms m, x.2.le (E + p.sz)
 | .mk l n d cs,m,E,hm,x,hx=>by
   rw [Pl.terms] at hx
   split at hx
   · rw [List.mem_singleton.1 hx]; exact hm.mono (by omega)
   · split at hx
     · cases hx
     · have:=ubf cs m l (m.get l) E hm (hm.get l) x hx;refine this.mono ?_;rw [Pl.sz]; omega
theorem ubf : ∀ (cs : List Pl) (m : Mo) (l e E : Int), m.le E -> e <= E -> ∀ x ∈ xe m l e cs, x.2.le (E + xk cs)
 | [],m,l,e,E,hm,he,x,hx=>by rw [xe] at hx; cases hx
 | c :: r,m,l,e,E,hm,he,x,hx=>by
   rw [xe] at hx;rcases List.mem_append.1 hx with hx | hx
   · refine (Pl.terms_le c _ E (hm.put l e he) x hx).mono ?_;rw [xk]; omega
   · refine (ubf r m l (e+1) (E+1) (hm.mono (by omega)) (by omega) x hx).mono ?_;have:1<=c.sz:=by cases c; rw [Pl.sz]; omega
     rw [xk]; omega
end
mutual
theorem Pl.terms_nrm : ∀ (p : Pl) (m : Mo) (L : Nat), p.dm <= L -> p.dig -> yg (p.terms m) <= p.sz * B32 ^ L
 | .mk l n d cs,m,L,hL,hd=>by
   rw [Pl.dm] at hL;rw [Pl.dig] at hd;rw [Pl.terms,Pl.sz,Nat.add_mul,Nat.one_mul]
   split
   · simp only [yg,uu];have h1:=zy hd.1;have h2:B32 ^ d.length<=B32 ^ L:=Nat.pow_le_pow_right ui (by omega);omega
   · split
     · simp [yg]
     · have:=xa9 cs m l (m.get l) L (by omega) hd.2; omega
theorem xa9 : ∀ (cs : List Pl) (m : Mo) (l e : Int) (L : Nat), qx cs <= L -> yar cs -> yg (xe m l e cs) <= xk cs * B32 ^ L
 | [],m,l,e,L,hL,hd=>by rw [xe]; simp [yg]
 | c :: r,m,l,e,L,hL,hd=>by
   rw [qx] at hL;rw [yar] at hd;rw [xe,qag,xk,Nat.add_mul];have:=Pl.terms_nrm c (m.put l e) L (by omega) hd.1;have:=xa9 r m l (e+1) L (by omega) hd.2;omega
end
theorem gc6 (L:Nat) (n:Nat):∀ l:Sp,(∀ x ∈ l,(dg x.1.natAbs).length<=L)->(bld n l).dm<=L:=by
 induction n with
 | zero =>
   intro l hl;cases l with
   | nil=>simp [bld,Pl.zero,Pl.dm,qx]
   | cons x r=>obtain ⟨c,m⟩:=x; have:=hl (c,m) (by simp); simpa [bld,Pl.const,Pl.dm,qx] using this
 | succ n ih =>
   intro l hl;cases l with
   | nil=>simp [bld,Pl.zero,Pl.dm,qx]
   | cons x r =>
     obtain ⟨c,m⟩:=x;rw [bld]
     split
     · exact ih _ hl
     · rw [Pl.dm];have key:∀ cs:List Pl,(∀ c ∈ cs,c.dm<=L)->qx cs<=L:=by
        intro cs
        induction cs with
        | nil=>intro _; simp [qx]
        | cons y r ihr=>intro h; rw [qx]; have:=h y (by simp); have:=ihr (fun z hz=>h z (by simp [hz])); omega
       have:=key _ (fun (p:Pl) (hp:p ∈ (List.range ((m.get (n+1:Nat)).toNat+1)).map fun (i:Nat)=>bld n (((c,m) :: r).filter fun x=>decide (x.2.get (n+1:Nat)=Int.ofNat i)))=>by
        obtain ⟨i,-,rfl⟩:=List.mem_map.1 hp
        exact ih _ (fun x hx=>hl x (List.mem_filter.1 hx).1))
       simp only [List.length_nil];omega
end Go.Proofs.YtcepajijiabkmaaGreat
