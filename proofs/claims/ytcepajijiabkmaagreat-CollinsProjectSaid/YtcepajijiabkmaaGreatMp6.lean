/- Polynomials in four variables, plain: monomials, sums of terms, recursive polynomials, and their values. No program in sight. -/
import Derived.Test.YtcepajijiabkmaaGreatMp5
set_option linter.unusedSimpArgs false
set_option linter.unusedVariables false
namespace Go.Proofs.YtcepajijiabkmaaGreat
structure Mo where
 a:Int
 b:Int
 c:Int
 d:Int
deriving DecidableEq
def Mo.one:Mo:=⟨0,0,0,0⟩
def Mo.get (m:Mo) (i:Int):Int:=if i=1 then m.a else if i=2 then m.b else if i=3 then m.c else m.d
def Mo.put (m:Mo) (i e:Int):Mo:=if i=1 then { m with a:=e } else if i=2 then { m with b:=e } else if i=3 then { m with c:=e } else { m with d:=e }
def Mo.qe (m:Mo):Prop:=0<=m.a/\0<=m.b/\0<=m.c/\0<=m.d
instance (m:Mo):Decidable m.qe:=by unfold Mo.qe; infer_instance
def Mo.lt (m n:Mo):Prop:=m.d < n.d\/(m.d=n.d/\(m.c < n.c\/(m.c=n.c/\(m.b < n.b\/(m.b=n.b/\m.a < n.a)))))
instance (m n:Mo):Decidable (m.lt n):=by unfold Mo.lt; infer_instance
theorem Mo.Ka {m n:Mo} (h1:m.a=n.a) (h2:m.b=n.b) (h3:m.c=n.c) (h4:m.d=n.d):m=n:=by cases m; cases n; simp_all
theorem Mo.lt_irrefl (m:Mo):¬ m.lt m:=by unfold Mo.lt; omega
theorem Mo.lt_trans {m n k:Mo} (h1:m.lt n) (h2:n.lt k):m.lt k:=by unfold Mo.lt at *; omega
theorem Mo.qbG (m n:Mo):m.lt n\/m=n\/n.lt m:=by
 by_cases h:m=n
 · exact .inr (.inl h)
 · have:¬ (m.a=n.a/\m.b=n.b/\m.c=n.c/\m.d=n.d):=fun hh=>h (Mo.Ka hh.1 hh.2.1 hh.2.2.1 hh.2.2.2)
   unfold Mo.lt; omega
abbrev Sp:=List (Int × Mo)
def je : Sp -> Mo -> Int
 | [],_=>0
 | (c,n) :: r,m=>(if n=m then c else 0)+je r m
theorem xan (l r:Sp) (m:Mo):je (l ++ r) m=je l m+je r m:=by
 induction l with
 | nil=>simp [je]
 | cons x l ih=>simp only [rI,je,ih]; omega
def yt : Sp -> Prop
 | []=>True
 | (c,m) :: r=>c ≠ 0/\(∀ x ∈ r,x.2.lt m)/\yt r
theorem uac {l:Sp} {m:Mo} (h:∀ x ∈ l,x.2 ≠ m):je l m=0:=by
 induction l with
 | nil=>rfl
 | cons x l ih =>
   rw [je,if_neg (h x (by simp)),ih (fun y hy=>h y (by simp [hy]))]; rfl
theorem yan {c:Int} {m:Mo} {r:Sp} (h:yt ((c,m) :: r)):je ((c,m) :: r) m=c/\∀ n,m.lt n->je ((c,m) :: r) n=0:=by
 have af:=h.2.1
 constructor
 · rw [je,if_pos rfl,uac (m:=m) (fun x hx e=>Mo.lt_irrefl m (by have:=af x hx; rw [e] at this; exact this))]; omega
 · intro n hn;refine uac fun x hx e=>?_
   rcases pQ.1 hx with rfl | hx
   · exact Mo.lt_irrefl m (by rw [<- e] at hn; exact hn)
   · exact Mo.lt_irrefl m (Mo.lt_trans (by rw [<- e] at hn; exact hn) (af x hx))
theorem yt.uniq : ∀ (l l' : Sp), yt l -> yt l' -> (∀ m, je l m = je l' m) -> l = l'
 | [],[],_,_,_=>rfl
 | [],(c,m) :: r,_,h',e=>by
   have h1:=(yan h').1;rw [<- e m] at h1;exact absurd h1.symm h'.1
 | (c,m) :: r,[],h,_,e=>by
   have h1:=(yan h).1;rw [e m] at h1;exact absurd h1.symm h.1
 | (c,m) :: r,(c',m') :: r',h,h',e=>by
   have h1:=yan h;have h2:=yan h';have hm:m=m':=by
    rcases Mo.qbG m m' with af | he | af
    · have:=h1.2 m' af;rw [e m',h2.1] at this;exact absurd this h'.1
    · exact he
    · have:=h2.2 m af;rw [<- e m,h1.1] at this;exact absurd this h.1
   subst hm;have hc:c=c':=by rw [<- h1.1,e m,h2.1]
   subst hc;have hr:r=r':=yt.uniq r r' h.2.2 h'.2.2 (fun n=>by
    have:=e n;simp only [je] at this
    omega)
   rw [hr]
def Mo.val (ρ:Int->Rat) (m:Mo):Rat:=ρ 1 ^ m.a.toNat * ρ 2 ^ m.b.toNat * ρ 3 ^ m.c.toNat * ρ 4 ^ m.d.toNat
def xn (ρ : Int -> Rat) : Sp -> Rat
 | []=>0
 | (c,m) :: r=>(c:Rat) * m.val ρ+xn ρ r
theorem gah (ρ:Int->Rat) (l r:Sp):xn ρ (l ++ r)=xn ρ l+xn ρ r:=by
 induction l with
 | nil=>simp [xn]; grind
 | cons x l ih=>obtain ⟨c,m⟩:=x; simp only [rI,xn,ih]; grind
theorem zcc (ρ:Int->Rat) (m:Mo) (l:Sp):xn ρ l=(je l m:Rat) * m.val ρ+xn ρ (l.filter fun x=>decide (x.2 ≠ m)):=by
 induction l with
 | nil=>simp [xn,je]; grind
 | cons x l ih =>
   obtain ⟨c,n⟩:=x
   by_cases h:n=m
   · subst h;simp only [xn,je,if_true,sB,ne_eq,not_true,decide_false,Pu,if_false];rw [ih]
     push_cast
     grind
   · have:decide (n ≠ m)=true:=by simpa using h
     simp only [xn,je,if_neg h,sB,this,if_true];rw [ih]
     push_cast
     grind
theorem vbu (l:Sp) (m n:Mo):je (l.filter fun x=>decide (x.2 ≠ m)) n=if n=m then 0 else je l n:=by
 induction l with
 | nil=>simp [je]
 | cons x l ih =>
   obtain ⟨c,k⟩:=x
   by_cases h:k=m
   · subst h;simp only [sB,ne_eq,not_true,decide_false,Pu,if_false,je];rw [ih]
     by_cases h2:n=k
     · simp [h2]
     · rw [if_neg h2,if_neg h2,if_neg (fun e=>h2 e.symm)]; omega
   · have:decide (k ≠ m)=true:=by simpa using h
     simp only [sB,this,if_true,je,ih]
     by_cases h2:n=m
     · subst h2; simp [h]
     · simp [h2]
theorem kcj (ρ:Int->Rat) (n:Nat):∀ l:Sp,l.length<=n->(∀ m,je l m=0)->xn ρ l=0:=by
 induction n with
 | zero=>intro l h _; obtain rfl:l=[]:=rL (by omega); rfl
 | succ n ih =>
   intro l h h0;cases l with
   | nil=>rfl
   | cons x l =>
     obtain ⟨c,m⟩:=x;rw [zcc ρ m,h0 m];have hl:(((c,m) :: l).filter fun x=>decide (x.2 ≠ m)).length<=n:=by
      rw [sB];simp only [ne_eq,not_true,decide_false,Pu,if_false];have:=uc (fun x:Int × Mo=>decide (x.2 ≠ m)) l;simp only [pL] at h;simp only [ne_eq] at this ⊢;omega
     rw [ih _ hl (fun k=>by rw [vbu]; split <;> simp [h0])];simp; grind
def gao (l:Sp):Sp:=l.map fun x=>(-x.1,x.2)
theorem gbn (l:Sp) (m:Mo):je (gao l) m=- je l m:=by
 induction l with
 | nil=>rfl
 | cons x l ih =>
   obtain ⟨c,n⟩:=x;simp only [gao,sr,je];rw [show (List.map (fun x:Int × Mo=>(-x.1,x.2)) l)=gao l from rfl,ih]
   split <;> omega
theorem zbt (ρ:Int->Rat) (l:Sp):xn ρ (gao l)=- xn ρ l:=by
 induction l with
 | nil=>simp [gao,xn]
 | cons x l ih =>
   obtain ⟨c,n⟩:=x;simp only [gao,sr,xn];rw [show (List.map (fun x:Int × Mo=>(-x.1,x.2)) l)=gao l from rfl,ih]
   push_cast
   grind
theorem xar (ρ:Int->Rat) {l l':Sp} (h:∀ m,je l m=je l' m):xn ρ l=xn ρ l':=by
 have h1:=kcj ρ (l ++ gao l').length (l ++ gao l') (pj _) (fun m=>by rw [xan,gbn,h m]; omega);rw [gah,zbt] at h1
 grind
inductive Pl where
 | mk (lv:Int) (neg:Bool) (ds:List Nat) (cs:List Pl)
def Pl.lv : Pl -> Int
 | .mk l _ _ _=>l
def Pl.neg : Pl -> Bool
 | .mk _ n _ _=>n
def Pl.ds : Pl -> List Nat
 | .mk _ _ d _=>d
def Pl.cs : Pl -> List Pl
 | .mk _ _ _ c=>c
def Pl.z (p:Pl):Int:=sgn p.neg (val p.ds)
mutual
def Pl.qt (m : Mo) : Pl -> Sp
 | .mk l n d cs=>if l<=0 then [(sgn n (val d),m)] else if 4 < l then [] else xe m l (m.get l) cs
def xe (m : Mo) (l e : Int) : List Pl -> Sp
 | []=>[]
 | c :: r=>c.qt (m.put l e) ++ xe m l (e+1) r
end
mutual
def Pl.val (ρ : Int -> Rat) : Pl -> Rat
 | .mk l n d cs=>if l<=0 then ((sgn n (val d):Int):Rat) else if 4 < l then 0 else ve ρ l cs
def ve (ρ : Int -> Rat) (l : Int) : List Pl -> Rat
 | []=>0
 | c :: r=>c.val ρ+ρ l * ve ρ l r
end
theorem Mo.qaI (ρ:Int->Rat) (m:Mo) (l e:Int) (h1:0 < l) (h2:l<=4) (he:0<=e):(m.put l (e+1)).val ρ=ρ l * (m.put l e).val ρ:=by
 have ht:(e+1).toNat=e.toNat+1:=by omega
 rcases (show l=1\/l=2\/l=3\/l=4 by omega) with rfl | rfl | rfl | rfl
 · show ρ 1 ^ (e+1).toNat * ρ 2 ^ m.b.toNat * ρ 3 ^ m.c.toNat * ρ 4 ^ m.d.toNat=ρ 1 * (ρ 1 ^ e.toNat * ρ 2 ^ m.b.toNat * ρ 3 ^ m.c.toNat * ρ 4 ^ m.d.toNat);rw [ht,Pr]; grind
 · show ρ 1 ^ m.a.toNat * ρ 2 ^ (e+1).toNat * ρ 3 ^ m.c.toNat * ρ 4 ^ m.d.toNat=ρ 2 * (ρ 1 ^ m.a.toNat * ρ 2 ^ e.toNat * ρ 3 ^ m.c.toNat * ρ 4 ^ m.d.toNat);rw [ht,Pr]; grind
 · show ρ 1 ^ m.a.toNat * ρ 2 ^ m.b.toNat * ρ 3 ^ (e+1).toNat * ρ 4 ^ m.d.toNat=ρ 3 * (ρ 1 ^ m.a.toNat * ρ 2 ^ m.b.toNat * ρ 3 ^ e.toNat * ρ 4 ^ m.d.toNat);rw [ht,Pr]; grind
 · show ρ 1 ^ m.a.toNat * ρ 2 ^ m.b.toNat * ρ 3 ^ m.c.toNat * ρ 4 ^ (e+1).toNat=ρ 4 * (ρ 1 ^ m.a.toNat * ρ 2 ^ m.b.toNat * ρ 3 ^ m.c.toNat * ρ 4 ^ e.toNat);rw [ht,Pr]; grind
mutual
theorem Pl.zR (ρ : Int -> Rat) : ∀ (p : Pl) (m : Mo), m.qe -> xn ρ (p.qt m) = m.val ρ * p.val ρ
 | .mk l n d cs,m,hm=>by
   rw [Pl.qt,Pl.val]
   by_cases h1:l<=0
   · rw [if_pos h1,if_pos h1]; simp only [xn]; grind
   · rw [if_neg h1,if_neg h1]
     by_cases h2:4 < l
     · rw [if_pos h2,if_pos h2]; simp only [xn]; grind
     · rw [if_neg h2,if_neg h2];have hg:0<=m.get l:=by unfold Mo.qe at hm; unfold Mo.get; split <;> (try split) <;> (try split) <;> omega
       rw [wba ρ cs m l (m.get l) (by omega) (by omega) hg hm];have:m.put l (m.get l)=m:=by unfold Mo.put Mo.get; split <;> (try split) <;> (try split) <;> rfl
       rw [this]
theorem wba (ρ : Int -> Rat) : ∀ (cs : List Pl) (m : Mo) (l e : Int), 0 < l -> l <= 4 -> 0 <= e -> m.qe -> xn ρ (xe m l e cs) = (m.put l e).val ρ * ve ρ l cs
 | [],m,l,e,h1,h2,he,hm=>by rw [xe,ve]; simp only [xn]; grind
 | c :: r,m,l,e,h1,h2,he,hm=>by
   have hp:(m.put l e).qe:=by unfold Mo.qe at *; unfold Mo.put; split <;> (try split) <;> (try split) <;> simp_all
   rw [xe,ve,gah,Pl.zR ρ c _ hp,wba ρ r m l (e+1) h1 h2 (by omega) hm,Mo.qaI ρ m l e h1 h2 he]
   grind
end
theorem Mo.val_one (ρ:Int->Rat):Mo.one.val ρ=1:=by simp [Mo.one,Mo.val]
theorem Pl.Vv (ρ:Int->Rat) {p q:Pl} (h:∀ m,je (p.qt Mo.one) m=je (q.qt Mo.one) m):p.val ρ=q.val ρ:=by
 have h1:=xar ρ h;rw [Pl.zR ρ p _ (by unfold Mo.qe Mo.one; simp),Pl.zR ρ q _ (by unfold Mo.qe Mo.one; simp),Mo.val_one] at h1
 grind
def Pl.zero:Pl:=.mk 0 false [] []
def Pl.const (z:Int):Pl:=.mk 0 (decide (z < 0)) (dg z.natAbs) []
theorem Pl.vf (z:Int) (m:Mo):(Pl.const z).qt m=[(z,m)]:=by
 rw [Pl.const,Pl.qt,if_pos (by omega),qg,wao]
def bld : Nat -> Sp -> Pl
 | _,[]=>Pl.zero
 | 0,(c,_) :: _=>Pl.const c
 | n+1,(c,m) :: r=>if m.get (n+1:Nat)=0 then bld n ((c,m) :: r) else .mk (n+1:Nat) false [] ((List.range ((m.get (n+1:Nat)).toNat+1)).map fun (i:Nat)=>bld n (((c,m) :: r).filter fun x=>decide (x.2.get (n+1:Nat)=Int.ofNat i)))
def va9 (n:Nat) (m:Mo) (l:Sp):Prop:=∀ x ∈ l,∀ i:Nat,n < i->i<=4->x.2.get i=m.get i
theorem Mo.KS {m k:Mo} (h:∀ i:Nat,0 < i->i<=4->m.get i=k.get i):m=k:=by
 have h1:=h 1 (by omega) (by omega);have h2:=h 2 (by omega) (by omega);have h3:=h 3 (by omega) (by omega);have h4:=h 4 (by omega) (by omega);simp [Mo.get] at h1 h2 h3 h4;exact Mo.Ka h1 h2 h3 h4
theorem Mo.zr (m:Mo) (i:Nat) (e:Int) (h1:0 < i) (h2:i<=4) (j:Nat) (h3:0 < j) (h4:j<=4):(m.put i e).get j=if j=i then e else m.get j:=by
 rcases (show i=1\/i=2\/i=3\/i=4 by omega) with rfl | rfl | rfl | rfl <;> rcases (show j=1\/j=2\/j=3\/j=4 by omega) with rfl | rfl | rfl | rfl <;> simp [Mo.put,Mo.get]
theorem Mo.Ki {x m:Mo} {n:Nat} (hn:0 < n) (iy:n<=4) (h:x.lt m) (ha:∀ i:Nat,n < i->i<=4->x.get i=m.get i):x.get n<=m.get n:=by
 unfold Mo.lt at h;have h2:=ha 2;have h3:=ha 3;have h4:=ha 4;rcases (show n=1\/n=2\/n=3\/n=4 by omega) with rfl | rfl | rfl | rfl <;> simp [Mo.get] at h2 h3 h4 ⊢ <;> omega
theorem yt.filter {l:Sp} (h:yt l) (f:Int × Mo->Bool):yt (l.filter f):=by
 induction l with
 | nil=>exact trivial
 | cons x l ih =>
   obtain ⟨c,m⟩:=x;rw [sB]
   split
   · exact ⟨h.1,fun y hy=>h.2.1 y (sq.1 hy).1,ih h.2.2⟩
   · exact ih h.2.2
theorem zcd (l:Sp) (m:Mo) (f g k:Int × Mo->Bool) (h:∀ x ∈ l,k x=(f x || g x)) (hd:∀ x ∈ l,¬ (f x=true/\g x=true)):je (l.filter k) m=je (l.filter f) m+je (l.filter g) m:=by
 induction l with
 | nil=>rfl
 | cons x l ih =>
   have ihl:=ih (fun y hy=>h y (by simp [hy])) (fun y hy=>hd y (by simp [hy]));have hk:=h x (by simp);have hx:=hd x (by simp);rw [sB,sB,sB];cases hf:f x <;> cases hg:g x <;> rw [hf,hg] at hk <;> simp only [Bool.or_false,Bool.or_true,Bool.true_or,Bool.false_or] at hk <;> rw [hk] <;> simp only [if_true,Pu,if_false,je]
   · exact ihl
   · rw [ihl]; omega
   · rw [ihl]; omega
   · exact absurd ⟨hf,hg⟩ hx
theorem ubd (l:Sp) (m:Mo) (f:Int × Mo->Bool) (h:∀ x ∈ l,f x=true):l.filter f=l:=List.filter_eq_self.2 h
theorem vbf (n:Nat) (hn:n<=4):∀ (l:Sp) (m:Mo),yt l->(∀ x ∈ l,x.2.qe)->va9 n m l->(∀ i:Nat,0 < i->i<=n->m.get i=0)->∀ k,je ((bld n l).qt m) k=je l k:=by
 induction n with
 | zero =>
   intro l m hl nD ha _ k;cases l with
   | nil=>simp [bld,Pl.zero,Pl.qt,je,sgn,val]
   | cons x r =>
     obtain ⟨c,m'⟩:=x;have hm:m'=m:=Mo.KS (fun i h1 h2=>ha (c,m') (by simp) i h1 h2);subst hm;have hr:r=[]:=by
      cases r with
      | nil=>rfl
      | cons y r =>
        have h1:=hl.2.1 y (by simp);have h2:y.2=m':=Mo.KS (fun i h1 h2=>ha y (by simp) i h1 h2);rw [h2] at h1;exact absurd h1 (Mo.lt_irrefl _)
     subst hr;rw [bld,Pl.vf]
 | succ n ih =>
   intro l m hl nD ha hz k;cases l with
   | nil=>simp [bld,Pl.zero,Pl.qt,je,sgn,val]
   | cons x r =>
     obtain ⟨c,m'⟩:=x;have EN:∀ y ∈ ((c,m') :: r:Sp),y.2.get (n+1:Nat)<=m'.get (n+1:Nat):=by
      intro y hy;rcases pQ.1 hy with rfl | Zr
      · exact ub _
      · exact Mo.Ki (by omega) (by omega) (hl.2.1 y Zr) (fun i h1 h2=>(ha y hy i (by omega) h2).trans (ha (c,m') (by simp) i (by omega) h2).symm)
     have kV:∀ y ∈ ((c,m') :: r:Sp),0<=y.2.get (n+1:Nat):=by
      intro y hy;have:=nD y hy;unfold Mo.qe at this;unfold Mo.get
      split <;> (try split) <;> (try split) <;> omega
     rw [bld]
     by_cases h0:m'.get (n+1:Nat)=0
     · rw [if_pos h0];refine ih (by omega) _ m hl nD (fun y hy i h1 h2=>?_) (fun i h1 h2=>hz i h1 (by omega)) k
       by_cases hi:i=n+1
       · subst hi;rw [hz (n+1) (by omega) (by omega)];have h1:=EN y hy;have h2:=kV y hy;omega
       · exact ha y hy i (by omega) h2
     · rw [if_neg h0];have bI:m.get (n+1:Nat)=0:=hz (n+1) (by omega) (by omega);rw [Pl.qt,if_neg (by omega),if_neg (by omega),bI];generalize hL:((c,m') :: r:Sp)=L at *;have key:∀ (cnt e:Nat),je (xe m (n+1:Nat) (e:Int) ((List.range' e cnt).map fun (i:Nat)=>bld n (L.filter fun x=>decide (x.2.get (n+1:Nat)=Int.ofNat i)))) k=je (L.filter fun x=>decide ((e:Int)<=x.2.get (n+1:Nat)) && decide (x.2.get (n+1:Nat) < (e:Int)+cnt)) k:=by
        intro cnt
        induction cnt with
        | zero =>
          intro e;have:(L.filter fun x=>decide ((e:Int)<=x.2.get (n+1:Nat)) && decide (x.2.get (n+1:Nat) < (e:Int)+(0:Nat)))=[]:=Rp.2 (fun x _=>by simp);rw [this]; rfl
        | succ cnt ihc =>
          intro e;rw [List.range'_succ,sr,xe,xan];have e1:((e:Int)+1)=((e+1:Nat):Int):=by omega
          rw [e1,ihc (e+1)];rw [ih (by omega) _ (m.put (n+1:Nat) e) (hl.filter _) (fun x hx=>nD x (sq.1 hx).1) (fun x hx i h1 h2=>?_) (fun i h1 h2=>?_)]
          · refine (zcd L k _ _ _ (fun x _=>?_) (fun x _=>?_)).symm
            · simp only [<- Bool.decide_and,<- Bool.decide_or,decide_eq_decide,PC];omega
            · simp only [Rc,decide_eq_true_eq,PC];omega
          · obtain ⟨hx1,aN⟩:=sq.1 hx;rw [Mo.zr m (n+1) e (by omega) (by omega) i (by omega) h2]
            by_cases hi:i=n+1
            · rw [if_pos hi,hi]; simpa using aN
            · rw [if_neg hi]; exact ha x hx1 i (by omega) h2
          · rw [Mo.zr m (n+1) e (by omega) (by omega) i h1 (by omega),if_neg (by omega)];exact hz i h1 (by omega)
       have h1:=key ((m'.get (n+1:Nat)).toNat+1) 0;rw [<- List.range_eq_range'] at h1;refine Eq.trans h1 ?_;rw [ubd L k _ (fun x hx=>?_)];have h2:=EN x hx;have h3:=kV x hx;simp only [Rc,decide_eq_true_eq];omega
mutual
def Pl.Can : Pl -> Prop
 | .mk l n d cs=>(l=0/\cs=[]/\d=dg (val d)/\(d=[]->n=false))\/(1<=l/\l<=4/\n=false/\d=[]/\2<=cs.length/\qp l cs/\cs.getLast? ≠ some Pl.zero)
def qp (l : Int) : List Pl -> Prop
 | []=>True
 | c :: r=>c.lv < l/\c.Can/\qp l r
end
theorem qp.mem {l : Int} : ∀ {cs : List Pl}, qp l cs -> ∀ c ∈ cs, c.lv < l /\ c.Can
 | c :: r,h,x,hx=>by
   unfold qp at h;rcases pQ.1 hx with rfl | hx
   · exact ⟨h.1,h.2.1⟩
   · exact qp.mem h.2.2 x hx
theorem Pl.qS:Pl.zero.Can:=by unfold Pl.zero Pl.Can; left; exact ⟨rfl,rfl,by simp [val,qm],fun _=>rfl⟩
theorem Pl.Can.qq {p:Pl} (h:p.Can):0<=p.lv/\p.lv<=4:=by
 cases p with
 | mk l n d cs=>unfold Pl.Can at h; show 0<=l/\l<=4; rcases h with h | h <;> omega
mutual
theorem Pl.zj : ∀ (p : Pl) (m : Mo) (n : Nat), p.Can -> p.lv <= n -> ∀ x ∈ p.qt m, ∀ i : Nat, n < i -> i <= 4 -> x.2.get i = m.get i
 | .mk l ng d cs,m,n,h,hl,x,hx,i,h1,h2=>by
   rw [Pl.qt] at hx;unfold Pl.Can at h
   change l<=n at hl
   by_cases h0:l<=0
   · rw [if_pos h0] at hx;rw [(pD.1 hx)]
   · rw [if_neg h0] at hx
     by_cases h4:4 < l
     · rw [if_pos h4] at hx; cases hx
     · rw [if_neg h4] at hx;rcases h with h | h
       · omega
       · exact ua4 cs m l (m.get l) n h.2.2.2.2.2.1 (by omega) (by omega) hl x hx i h1 h2
theorem ua4 : ∀ (cs : List Pl) (m : Mo) (l e : Int) (n : Nat), qp l cs -> 0 < l -> l <= 4 -> l <= n -> ∀ x ∈ xe m l e cs, ∀ i : Nat, n < i -> i <= 4 -> x.2.get i = m.get i
 | [],m,l,e,n,h,lV,ag,hl,x,hx,i,h1,h2=>by rw [xe] at hx; cases hx
 | c :: r,m,l,e,n,h,lV,ag,hl,x,hx,i,h1,h2=>by
   rw [xe] at hx;unfold qp at h;rcases rj.1 hx with hx | hx
   · obtain ⟨ln,rfl⟩:∃ ln:Nat,l=ln:=⟨l.toNat,by omega⟩;rw [Pl.zj c _ n h.2.1 (by omega) x hx i h1 h2,Mo.zr m ln e (by omega) (by omega) i (by omega) h2,if_neg (by omega)]
   · exact ua4 r m l (e+1) n h.2.2 lV ag hl x hx i h1 h2
end
theorem van (m : Mo) (l : Nat) (lV : 0 < l) (ag : l <= 4) (k : Mo) : ∀ (cs : List Pl) (e : Int), qp l cs -> je (xe m l e cs) k = if h : e <= k.get l /\ (k.get l - e).toNat < cs.length then je ((cs[(k.get l - e).toNat]'h.2).qt (m.put l (k.get l))) k else 0
 | [],e,_=>by rw [xe,dif_neg (by simp)]; rfl
 | c :: r,e,h=>by
   unfold qp at h;have hz:∀ (c:Pl) (e:Int),c.lv < l->c.Can->k.get l ≠ e->je (c.qt (m.put l e)) k=0:=by
    intro c e bZ dO ax;refine uac fun x hx he=>ax ?_
    have:=Pl.zj c (m.put l e) (l - 1) dO (by omega) x hx l (by omega) ag;rw [he,Mo.zr m l e lV ag l lV ag,if_pos rfl] at this;exact this
   rw [xe,xan,van m l lV ag k r (e+1) h.2.2]
   by_cases he:k.get l=e
   · rw [dif_neg (by omega),dif_pos (by constructor; omega; simp; omega)];have h0:(k.get l - e).toNat=0:=by omega
     have pF:∀ (j:Nat) (hj:j < (c :: r).length),j=0->(c :: r)[j]=c:=by intro j hj h; subst h; rfl
     rw [pF _ _ h0,he];omega
   · rw [hz c e h.1 h.2.1 he]
     by_cases af:e<=k.get l/\(k.get l - e).toNat < (c :: r).length
     · have hs:(k.get l - e).toNat=(k.get l - (e+1)).toNat+1:=by omega
       have fM:e+1<=k.get l/\(k.get l - (e+1)).toNat < r.length:=by
        have:=af.2;simp only [pL] at this;omega
       rw [dif_pos af,dif_pos fM];simp only [hs,Rm];omega
     · rw [dif_neg af,dif_neg (by
        simp only [pL] at af
        omega)]
       rfl
theorem Pl.Can.kids {l:Int} {n:Bool} {d:List Nat} {cs:List Pl} (h:(Pl.mk l n d cs).Can) (hl:0 < l):n=false/\d=[]/\2<=cs.length/\qp l cs/\cs.getLast? ≠ some Pl.zero:=by
 unfold Pl.Can at h;rcases h with h | h
 · omega
 · exact h.2.2
theorem Pl.kx (m k:Mo):je (Pl.zero.qt m) k=0:=by simp [Pl.zero,Pl.qt,je,sgn,val]
theorem kc0 (n:Nat) (hn:n<=4):∀ (p p':Pl) (m:Mo),p.Can->p'.Can->p.lv<=n->p'.lv<=n->(∀ i:Nat,0 < i->i<=n->m.get i=0)->(∀ k,je (p.qt m) k=je (p'.qt m) k)->p=p':=by
 induction n with
 | zero =>
   intro p p' m h h' hl mQ _ he;obtain ⟨l,ng,d,cs⟩:=p;obtain ⟨l',N8,d',cs'⟩:=p';unfold Pl.Can at h h'
   change l<=(0:Nat) at hl
   change l'<=(0:Nat) at mQ
   rcases h with ⟨rfl,rfl,hd,rZ⟩ | h
   · rcases h' with ⟨rfl,rfl,FB,aai⟩ | h'
     · have e1:=he m;simp only [Pl.qt,if_pos (show (0:Int)<=0 by omega),je,if_true,Int.add_zero] at e1;have hv:val d=val d':=by
        have:=congrArg Int.natAbs e1;rw [ku,ku] at this;exact this
       have nH:d=d':=by rw [hd,hv,<- FB]
       subst nH;have nD:ng=N8:=by
        by_cases hz:d=[]
        · rw [rZ hz,aai hz]
        · have hvz:val d ≠ 0:=fun e=>hz (by rw [hd,e,qm])
          cases ng <;> cases N8 <;> first | rfl | (exfalso; simp [sgn] at e1; omega)
       rw [nD]
     · omega
   · omega
 | succ n ih =>
   have low:∀ (p p':Pl) (m:Mo),p.Can->p'.Can->p.lv<=n->p'.lv=(n+1:Nat)->(∀ i:Nat,0 < i->i<=n+1->m.get i=0)->(∀ k,je (p.qt m) k=je (p'.qt m) k)->False:=by
    intro p p' m h h' hl mQ hm he;obtain ⟨l',N8,d',cs'⟩:=p'
    change l'=(n+1:Nat) at mQ
    subst mQ;obtain ⟨-,-,hlen,fB,dX⟩:=h'.kids (by omega);have hL:cs'.length - 1 < cs'.length:=by omega
    have hc:=fB.mem cs'[cs'.length - 1] (pt hL);apply dX;rw [sC,po hL]
    congr 1
    refine ih (by omega) _ _ (m.put (n+1:Nat) ((cs'.length - 1:Nat):Int)) hc.2 Pl.qS (by omega) (by show (0:Int)<=_; omega) (fun i h1 h2=>?_) (fun k=>?_)
    · rw [Mo.zr m (n+1) _ (by omega) (by omega) i h1 (by omega),if_neg (by omega)];exact hm i h1 (by omega)
    · rw [Pl.kx]
      by_cases hk:k.get (n+1:Nat)=((cs'.length - 1:Nat):Int)
      · have e1:=he k;rw [uac (l:=p.qt m) (fun x hx e=>by
         have:=Pl.zj p m n h hl x hx (n+1) (by omega) (by omega);rw [e,hm (n+1) (by omega) (by omega),hk] at this
         omega)] at e1
        rw [Pl.qt,if_neg (by omega),if_neg (by omega),hm (n+1) (by omega) (by omega),van m (n+1) (by omega) (by omega) k cs' 0 fB,dif_pos (by omega)] at e1;have hi:(k.get (n+1:Nat) - 0).toNat=cs'.length - 1:=by omega
        have pF:∀ (j:Nat) (hj:j < cs'.length),j=cs'.length - 1->cs'[j]=cs'[cs'.length - 1]:=by intro j hj h; subst h; rfl
        rw [pF _ _ hi] at e1;rw [<- hk];exact e1.symm
      · refine uac fun x hx e=>hk ?_
        have:=Pl.zj cs'[cs'.length - 1] _ n hc.2 (by omega) x hx (n+1) (by omega) (by omega);rw [e,Mo.zr m (n+1) _ (by omega) (by omega) (n+1) (by omega) (by omega),if_pos rfl] at this;exact this
   intro p p' m h h' hl mQ hm he
   by_cases hp:p.lv=(n+1:Nat)
   · by_cases J5:p'.lv=(n+1:Nat)
     · obtain ⟨l,ng,d,cs⟩:=p;obtain ⟨l',N8,d',cs'⟩:=p'
       change l=(n+1:Nat) at hp
       change l'=(n+1:Nat) at J5
       subst hp J5;obtain ⟨rfl,rfl,hlen,fB,dX⟩:=h.kids (by omega);obtain ⟨rfl,rfl,Si,zC,Kv⟩:=h'.kids (by omega);have hg:m.get (n+1:Nat)=0:=hm (n+1) (by omega) (by omega);have vM:∀ k,je (xe m (n+1:Nat) 0 cs) k=je (xe m (n+1:Nat) 0 cs') k:=by
        intro k;have:=he k;rw [Pl.qt,if_neg (by omega),if_neg (by omega),Pl.qt,if_neg (by omega),if_neg (by omega),hg] at this;exact this
       have o9:∀ (i:Nat) (e:Int),0 < i->i<=n->(m.put (n+1:Nat) e).get i=0:=fun i e h1 h2=>by
        rw [Mo.zr m (n+1) _ (by omega) (by omega) i h1 (by omega),if_neg (by omega)];exact hm i h1 (by omega)
       have J6:∀ (c:Pl) (e:Int) (k:Mo),c.Can->c.lv < (n+1:Nat)->k.get (n+1:Nat) ≠ e->je (c.qt (m.put (n+1:Nat) e)) k=0:=by
        intro c e k bZ dO ax;refine uac fun x hx he'=>ax ?_
        have:=Pl.zj c _ n bZ (by omega) x hx (n+1) (by omega) (by omega);rw [he',Mo.zr m (n+1) _ (by omega) (by omega) (n+1) (by omega) (by omega),if_pos rfl] at this;exact this
       have pY:∀ (cs:List Pl) (i:Nat) (hi:i < cs.length) (k:Mo),qp (n+1:Nat) cs->k.get (n+1:Nat)=(i:Int)->je (xe m (n+1:Nat) 0 cs) k=je (cs[i].qt (m.put (n+1:Nat) (i:Int))) k:=by
        intro cs i hi k fB hk;rw [van m (n+1) (by omega) (by omega) k cs 0 fB,dif_pos (by omega)];have jI:(k.get (n+1:Nat) - 0).toNat=i:=by omega
        have pF:∀ (j:Nat) (hj:j < cs.length),j=i->cs[j]=cs[i]:=by intro j hj h; subst h; rfl
        rw [pF _ _ jI,hk]
       have Xi:∀ (cs:List Pl) (i:Nat) (k:Mo),cs.length<=i->qp (n+1:Nat) cs->k.get (n+1:Nat)=(i:Int)->je (xe m (n+1:Nat) 0 cs) k=0:=by
        intro cs i k hi fB hk;rw [van m (n+1) (by omega) (by omega) k cs 0 fB,dif_neg (by omega)]
       have nol:∀ (cs cs':List Pl),qp (n+1:Nat) cs->qp (n+1:Nat) cs'->2<=cs.length->cs.getLast? ≠ some Pl.zero->(∀ k,je (xe m (n+1:Nat) 0 cs) k=je (xe m (n+1:Nat) 0 cs') k)->cs.length<=cs'.length:=by
        intro cs cs' fB zC hlen dX vM;rcases tG cs'.length cs.length with af | oJ
        · exfalso
          apply dX;have hL:cs.length - 1 < cs.length:=by omega
          rw [sC,po hL]
          congr 1
          have hc:=fB.mem cs[cs.length - 1] (pt hL);refine ih (by omega) _ _ (m.put (n+1:Nat) ((cs.length - 1:Nat):Int)) hc.2 Pl.qS (by omega) (by show (0:Int)<=_; omega) (fun i h1 h2=>o9 i _ h1 h2) (fun k=>?_);rw [Pl.kx]
          by_cases hk:k.get (n+1:Nat)=((cs.length - 1:Nat):Int)
          · rw [<- pY cs (cs.length - 1) hL k fB hk,vM k];exact Xi cs' _ k (by omega) zC hk
          · exact J6 _ _ k hc.2 hc.1 hk
        · exact oJ
       have qO:cs.length=cs'.length:=Nat.le_antisymm (nol cs cs' fB zC hlen dX vM) (nol cs' cs zC fB Si Kv (fun k=>(vM k).symm));have kW:cs=cs':=by
        refine sR qO fun i hi jI=>?_
        have hc:=fB.mem cs[i] (pt hi);have lD:=zC.mem cs'[i] (pt jI);refine ih (by omega) _ _ (m.put (n+1:Nat) (i:Int)) hc.2 lD.2 (by omega) (by omega) (fun j h1 h2=>o9 j _ h1 h2) (fun k=>?_)
        by_cases hk:k.get (n+1:Nat)=(i:Int)
        · rw [<- pY cs i hi k fB hk,<- pY cs' i jI k zC hk]; exact vM k
        · rw [J6 _ _ k hc.2 hc.1 hk,J6 _ _ k lD.2 lD.1 hk]
       rw [kW]
     · exact (low p' p m h' h (by omega) hp hm (fun k=>(he k).symm)).elim
   · by_cases J5:p'.lv=(n+1:Nat)
     · exact (low p p' m h h' (by omega) J5 hm he).elim
     · exact ih (by omega) p p' m h h' (by omega) (by omega) (fun i h1 h2=>hm i h1 (by omega)) he
theorem Pl.Km {p p':Pl} (h:p.Can) (h':p'.Can) (he:∀ k,je (p.qt Mo.one) k=je (p'.qt Mo.one) k):p=p':=
 kc0 4 (pj _) p p' Mo.one h h' h.qq.2 h'.qq.2 (fun i h1 h2=>by
  rcases (show i=1\/i=2\/i=3\/i=4 by omega) with rfl | rfl | rfl | rfl <;> rfl) he
theorem zt (z:Int):(Pl.const z).Can:=by
 unfold Pl.const Pl.Can
 left
 refine ⟨rfl,rfl,by rw [qg],fun h=>?_⟩;have:z.natAbs=0:=by
  have h1:(dg z.natAbs).length=0:=by rw [h]; rfl
  exact ka0 h1
 have hz:z=0:=by omega
 rw [hz]; rfl
theorem zaf {l : Int} : ∀ {cs : List Pl}, (∀ c ∈ cs, c.lv < l /\ c.Can) -> qp l cs
 | [],_=>by unfold qp; trivial
 | c :: r,h=>by
   unfold qp;exact ⟨(h c (by simp)).1,(h c (by simp)).2,zaf (fun x hx=>h x (by simp [hx]))⟩
theorem zcb (n:Nat) (hn:n<=4):∀ (l:Sp) (m:Mo),yt l->(∀ x ∈ l,x.2.qe)->va9 n m l->(∀ i:Nat,0 < i->i<=n->m.get i=0)->(bld n l).Can/\(bld n l).lv<=n:=by
 induction n with
 | zero =>
   intro l m hl nD ha hz;cases l with
   | nil=>rw [bld]; exact ⟨Pl.qS,by show (0:Int)<=_; omega⟩
   | cons x r=>obtain ⟨c,m'⟩:=x; rw [bld]; exact ⟨zt c,by show (0:Int)<=_; omega⟩
 | succ n ih =>
   intro l m hl nD ha hz;cases l with
   | nil=>rw [bld]; exact ⟨Pl.qS,by show (0:Int)<=_; omega⟩
   | cons x r =>
     obtain ⟨c,m'⟩:=x;have EN:∀ y ∈ ((c,m') :: r:Sp),y.2.get (n+1:Nat)<=m'.get (n+1:Nat):=by
      intro y hy;rcases pQ.1 hy with rfl | Zr
      · exact ub _
      · exact Mo.Ki (by omega) (by omega) (hl.2.1 y Zr) (fun i h1 h2=>(ha y hy i (by omega) h2).trans (ha (c,m') (by simp) i (by omega) h2).symm)
     have kV:∀ y ∈ ((c,m') :: r:Sp),0<=y.2.get (n+1:Nat):=by
      intro y hy;have:=nD y hy;unfold Mo.qe at this;unfold Mo.get
      split <;> (try split) <;> (try split) <;> omega
     rw [bld]
     by_cases h0:m'.get (n+1:Nat)=0
     · rw [if_pos h0];obtain ⟨h1,h2⟩:=ih (by omega) _ m hl nD (fun y hy i h1 h2=>by
        by_cases hi:i=n+1
        · subst hi;rw [hz (n+1) (by omega) (by omega)];have h1:=EN y hy;have h2:=kV y hy;omega
        · exact ha y hy i (by omega) h2) (fun i h1 h2=>hz i h1 (by omega))
       exact ⟨h1,by omega⟩
     · rw [if_neg h0];have di:0 < m'.get (n+1:Nat):=by have:=kV (c,m') (by simp); simp only at this; omega
       have Ha:∀ i:Nat,yt (((c,m') :: r).filter fun x=>decide (x.2.get (n+1:Nat)=Int.ofNat i))/\(∀ x ∈ (((c,m') :: r).filter fun x=>decide (x.2.get (n+1:Nat)=Int.ofNat i)),x.2.qe)/\va9 n (m.put (n+1:Nat) (i:Int)) (((c,m') :: r).filter fun x=>decide (x.2.get (n+1:Nat)=Int.ofNat i))/\(∀ j:Nat,0 < j->j<=n->(m.put (n+1:Nat) (i:Int)).get j=0):=by
        intro i;refine ⟨hl.filter _,fun x hx=>nD x (sq.1 hx).1,fun x hx j h1 h2=>?_,fun j h1 h2=>?_⟩
        · obtain ⟨hx1,aN⟩:=sq.1 hx;rw [Mo.zr m (n+1) _ (by omega) (by omega) j (by omega) h2]
          by_cases hj:j=n+1
          · rw [if_pos hj,hj]; simpa using aN
          · rw [if_neg hj]; exact ha x hx1 j (by omega) h2
        · rw [Mo.zr m (n+1) _ (by omega) (by omega) j h1 (by omega),if_neg (by omega)];exact hz j h1 (by omega)
       refine ⟨?_,by show ((n+1:Nat):Int)<=_; omega⟩;unfold Pl.Can
       right
       refine ⟨by omega,by omega,rfl,rfl,by rw [px,tt]; omega,zaf (fun x hx=>?_),?_⟩
       · obtain ⟨i,-,rfl⟩:=pZ.1 hx;obtain ⟨q1,q2,q3,q4⟩:=Ha i;obtain ⟨h1,h2⟩:=ih (by omega) _ _ q1 q2 q3 q4;exact ⟨by omega,h1⟩
       · rw [List.getLast?_map,List.getLast?_range];rw [if_neg (by omega)];simp only [Option.map_some,ur,ne_eq,Option.some.injEq];intro e;obtain ⟨q1,q2,q3,q4⟩:=Ha (m'.get (n+1:Nat)).toNat;have vM:=vbf n (by omega) _ _ q1 q2 q3 q4 m';rw [e,Pl.kx] at vM;have Tc:(((c,m') :: r).filter fun x=>decide (x.2.get (n+1:Nat)=Int.ofNat (m'.get (n+1:Nat)).toNat))=(c,m') :: (r.filter fun x=>decide (x.2.get (n+1:Nat)=Int.ofNat (m'.get (n+1:Nat)).toNat)):=by
          rw [sB,if_pos];simp only [decide_eq_true_eq,PC];omega
         rw [Tc] at vM q1;rw [(yan q1).1] at vM;exact hl.1 vM.symm
theorem wbm {l:Sp} (h:yt l) (hn:∀ x ∈ l,x.2.qe):(bld 4 l).Can/\∀ k,je ((bld 4 l).qt Mo.one) k=je l k:=by
 have hz:∀ i:Nat,0 < i->i<=4->Mo.one.get i=0:=fun i h1 h2=>by
  rcases (show i=1\/i=2\/i=3\/i=4 by omega) with rfl | rfl | rfl | rfl <;> rfl
 have ha:va9 4 Mo.one l:=fun x _ i h1 h2=>by omega
 exact ⟨(zcb 4 (pj _) l _ h hn ha hz).1,vbf 4 (pj _) l _ h hn ha hz⟩
def Pl.zp (p:Pl):Bool:=decide (p.lv=0) && decide (p.ds.length=0)
mutual
def Pl.xL : Pl -> Bool
 | .mk l n d cs=>if l=0 then (if 0 < cs.length then false else (decide (d.length=0) && !n) || (decide (0 < d.length) && decide (d.getLast? ≠ some 0)))
   else if (l < 1\/4 < l)\/0 < d.length\/n=true\/cs.length < 2 then false
   else vaj l cs && (match cs.getLast? with
    | some c=>!c.zp
    | none=>true)
def vaj (l : Int) : List Pl -> Bool
 | []=>true
 | c :: r=>decide (c.lv < l) && c.xL && vaj l r
end
mutual
def Pl.dig : Pl -> Prop
 | .mk _ _ d cs=>vg d/\qat cs
def qat : List Pl -> Prop
 | []=>True
 | c :: r=>c.dig/\qat r
end
theorem ucg {d:List Nat} (hd:vg d) (h0:0 < d.length):d=dg (val d) ↔ d.getLast? ≠ some 0:=by
 rw [kbj hd];obtain ⟨k,hk⟩:∃ k,d.length=k+1:=⟨d.length - 1,by omega⟩;have hl:d.getLast?=some (d.getD k 0):=by
  rw [sC,pr,hk,ur,po (by omega)]; rfl
 have ht:d=d.take (xac d d.length) ↔ xac d d.length=d.length:=by
  constructor
  · intro h;have:=congrArg List.length h;rw [pA] at this;have:=uao d d.length;omega
  · intro h; rw [h,pP]
 rw [ht,hl,hk,xac]
 by_cases h:d.getD k 0=0
 · rw [if_pos h,h];have:=uao d k
   constructor
   · intro e; omega
   · intro e; exact absurd rfl e
 · rw [if_neg h];simpa using h
theorem Pl.xj {p:Pl} (h:p.Can):p.zp=true ↔ p=Pl.zero:=by
 cases p with
 | mk l n d cs =>
   unfold Pl.Can at h;unfold Pl.zp Pl.zero;show (decide (l=0) && decide (d.length=0))=true ↔ _;rw [Rc,decide_eq_true_eq,decide_eq_true_eq,List.length_eq_zero_iff,Pl.mk.injEq]
   constructor
   · rintro ⟨h1,h2⟩;rcases h with h | h
     · exact ⟨h1,h.2.2.2 h2,h2,h.2.1⟩
     · omega
   · rintro ⟨h1,-,h2,-⟩; exact ⟨h1,h2⟩
mutual
theorem Pl.kd : ∀ p : Pl, p.dig -> (p.xL = true ↔ p.Can)
 | .mk l n d cs,hd=>by
   rw [Pl.dig] at hd;have fB:=jbb cs;rw [Pl.xL,Pl.Can]
   by_cases h0:l=0
   · rw [if_pos h0]
     by_cases hc:0 < cs.length
     · rw [if_pos hc]
       constructor
       · intro h; cases h
       · intro h;rcases h with ⟨-,h,-⟩ | h
         · subst h; cases hc
         · omega
     · rw [if_neg hc];have hce:cs=[]:=rL (by omega);simp only [Bool.or_eq_true,Rc,decide_eq_true_eq,Bool.not_eq_true',List.length_eq_zero_iff]
       by_cases qB:0 < d.length
       · have wY:d ≠ []:=by intro e; subst e; cases qB
         have:=ucg hd.1 qB
         constructor
         · rintro (⟨h,-⟩ | ⟨-,h⟩)
           · exact absurd h wY
           · exact .inl ⟨h0,hce,this.2 h,fun e=>absurd e wY⟩
         · rintro (h | h)
           · exact .inr ⟨qB,this.1 h.2.2.1⟩
           · omega
       · have wY:d=[]:=rL (by omega)
         constructor
         · rintro (⟨-,h⟩ | ⟨h,-⟩)
           · exact .inl ⟨h0,hce,by rw [wY]; simp [val,qm],fun _=>h⟩
           · omega
         · rintro (h | h)
           · exact .inl ⟨wY,h.2.2.2 wY⟩
           · omega
   · rw [if_neg h0]
     by_cases h1:(l < 1\/4 < l)\/0 < d.length\/n=true\/cs.length < 2
     · rw [if_pos h1]
       constructor
       · intro h; cases h
       · rintro (h | ⟨h2,h3,h4,h5,h6,-⟩)
         · exact absurd h.1 h0
         · subst h4 h5;simp at h1; omega
     · rw [if_neg h1];have h2:1<=l/\l<=4/\d.length=0/\n=false/\2<=cs.length:=by
        have hn:¬ n=true:=fun e=>h1 (.inr (.inr (.inl e)))
        refine ⟨?_,?_,?_,by simpa using hn,?_⟩ <;> omega
       have hl:cs.getLast?=some cs[cs.length - 1]:=by rw [sC,po (by omega)]
       rw [hl];simp only [Rc,Bool.not_eq_true']
       constructor
       · rintro ⟨ha,hb⟩;have hk:=(fB l hd.2).1 ha;refine .inr ⟨h2.1,h2.2.1,h2.2.2.2.1,rL h2.2.2.1,h2.2.2.2.2,hk,?_⟩;intro e;have:=(Pl.xj (hk.mem _ (pt (by omega:cs.length - 1 < cs.length))).2).2 (Option.some.inj e);rw [this] at hb; cases hb
       · rintro (h | ⟨-,-,-,-,-,hk,ax⟩)
         · exact absurd h.1 h0
         · refine ⟨(fB l hd.2).2 hk,?_⟩;rw [SJ];intro e;exact ax (congrArg some ((Pl.xj (hk.mem _ (pt (by omega:cs.length - 1 < cs.length))).2).1 e))
theorem jbb : ∀ (cs : List Pl) (l : Int), qat cs -> (vaj l cs = true ↔ qp l cs)
 | [],l,_=>by rw [vaj,qp]; simp
 | c :: r,l,hd=>by
   rw [qat] at hd;rw [vaj,qp,Rc,Rc,Pl.kd c hd.1,jbb r l hd.2,decide_eq_true_eq,and_assoc]
end
theorem vay (l : Int) : ∀ cs : List Pl, vaj l cs = cs.all fun c => decide (c.lv < l) && c.xL
 | []=>rfl
 | c :: r=>by rw [vaj,vay l r,List.all_cons]
theorem Pl.Vi {l:Int} {n:Bool} {d:List Nat} {cs:List Pl} {c:Pl} (hl:l ≠ 0) (hc:c ∈ cs) (h:l<=c.lv\/c.xL=false):(Pl.mk l n d cs).xL=false:=by
 rw [Pl.xL,if_neg hl]
 split
 · rfl
 · have:vaj l cs=false:=by
    rw [vay,List.all_eq_false];refine ⟨c,hc,?_⟩;rcases h with h | h
    · simp; intro h2; omega
    · simp [h]
   rw [this]; rfl
theorem Pl.Vc {l:Int} {n:Bool} {d:List Nat} {cs:List Pl} (hl:l ≠ 0) (hg:¬ ((l < 1\/4 < l)\/0 < d.length\/n=true\/cs.length < 2)) (h:∀ c ∈ cs,c.lv < l/\c.xL=true) (hn:0 < cs.length):(Pl.mk l n d cs).xL=!(cs[cs.length - 1]).zp:=by
 rw [Pl.xL,if_neg hl,if_neg hg];have h1:vaj l cs=true:=by
  rw [vay,List.all_eq_true];intro c hc;simp [h c hc]
 rw [h1,sC,po (by omega)]
 rfl
def gam (c : Int) (m : Mo) : Sp -> Sp
 | []=>if c=0 then [] else [(c,m)]
 | (d,n) :: r=>if n.lt m then (if c=0 then (d,n) :: r else (c,m) :: (d,n) :: r) else if m=n then (if c+d=0 then r else (c+d,n) :: r) else (d,n) :: gam c m r
theorem jck (c:Int) (m:Mo) (l:Sp) (k:Mo):je (gam c m l) k=(if m=k then c else 0)+je l k:=by
 induction l with
 | nil =>
   unfold gam
   by_cases h:c=0
   · rw [if_pos h,h]; simp [je]
   · rw [if_neg h]; simp [je]
 | cons x r ih =>
   obtain ⟨d,n⟩:=x;unfold gam
   by_cases h1:n.lt m
   · rw [if_pos h1]
     by_cases h:c=0
     · rw [if_pos h,h]; simp
     · rw [if_neg h]; simp [je]
   · rw [if_neg h1]
     by_cases h2:m=n
     · rw [if_pos h2]; subst h2
       by_cases h:c+d=0
       · rw [if_pos h]; simp only [je]; split <;> omega
       · rw [if_neg h]; simp only [je]; split <;> omega
     · rw [if_neg h2]; simp only [je,ih]; omega
theorem kbd {c:Int} {m:Mo} {l:Sp} {x:Int × Mo} (h:x ∈ gam c m l):x.2=m\/∃ y ∈ l,y.2=x.2:=by
 induction l with
 | nil =>
   unfold gam at h
   split at h
   · cases h
   · left; rw [pD.1 h]
 | cons y r ih =>
   obtain ⟨d,n⟩:=y;unfold gam at h
   split at h
   · split at h
     · exact .inr ⟨x,h,rfl⟩
     · rcases pQ.1 h with rfl | h
       · exact .inl rfl
       · exact .inr ⟨x,h,rfl⟩
   · split at h
     · split at h
       · exact .inr ⟨x,rz _ h,rfl⟩
       · rcases pQ.1 h with rfl | h
         · exact .inr ⟨_,r5,rfl⟩
         · exact .inr ⟨x,rz _ h,rfl⟩
     · rcases pQ.1 h with rfl | h
       · exact .inr ⟨_,r5,rfl⟩
       · rcases ih h with h | ⟨y,hy,e⟩
         · exact .inl h
         · exact .inr ⟨y,rz _ hy,e⟩
theorem jct (c:Int) (m:Mo) (l:Sp) (h:yt l):yt (gam c m l):=by
 induction l with
 | nil =>
   unfold gam
   split
   · exact trivial
   · rename_i hc; exact ⟨hc,fun _ hx=>(by cases hx),trivial⟩
 | cons x r ih =>
   obtain ⟨d,n⟩:=x;obtain ⟨h1,h2,h3⟩:=h;unfold gam
   split
   · rename_i af
     split
     · exact ⟨h1,h2,h3⟩
     · rename_i hc;refine ⟨hc,fun y hy=>?_,h1,h2,h3⟩;rcases pQ.1 hy with rfl | hy
       · exact af
       · exact Mo.lt_trans (h2 y hy) af
   · rename_i af
     split
     · rename_i he
       split
       · exact h3
       · rename_i hc; exact ⟨hc,h2,h3⟩
     · rename_i ax;refine ⟨h1,fun y hy=>?_,ih h3⟩;rcases kbd hy with e | ⟨z,hz,e⟩
       · rw [e];rcases Mo.qbG m n with h | h | h
         · exact h
         · exact absurd h ax
         · exact absurd h af
       · rw [<- e]; exact h2 z hz
def xg : Sp -> Sp
 | []=>[]
 | (c,m) :: r=>if m.qe then gam c m (xg r) else xg r
theorem vz (l:Sp):yt (xg l):=by
 induction l with
 | nil=>exact trivial
 | cons x r ih =>
   obtain ⟨c,m⟩:=x;unfold xg
   split
   · exact jct _ _ _ ih
   · exact ih
theorem vam (l:Sp) (k:Mo):je (xg l) k=if k.qe then je l k else 0:=by
 induction l with
 | nil=>simp [xg,je]
 | cons x r ih =>
   obtain ⟨c,m⟩:=x;unfold xg
   by_cases hm:m.qe
   · rw [if_pos hm,jck,ih]
     by_cases hk:k.qe
     · rw [if_pos hk,if_pos hk]; simp only [je]
     · rw [if_neg hk,if_neg hk,if_neg (fun (e:m=k)=>hk (e ▸ hm))]; rfl
   · rw [if_neg hm,ih]
     by_cases hk:k.qe
     · rw [if_pos hk,if_pos hk]; simp only [je]; rw [if_neg (fun (e:m=k)=>hm (e ▸ hk))]; omega
     · rw [if_neg hk,if_neg hk]
theorem qw {l:Sp} {x:Int × Mo} (h:x ∈ xg l):x.2.qe/\∃ y ∈ l,y.2=x.2:=by
 induction l with
 | nil=>cases h
 | cons y r ih =>
   obtain ⟨c,m⟩:=y;unfold xg at h
   split at h
   · rename_i hm;rcases kbd h with e | ⟨z,hz,e⟩
     · exact ⟨by rw [e]; exact hm,_,r5,e.symm⟩
     · suffices z.2.qe/\∃ y ∈ r,y.2=z.2 by
        obtain ⟨a,y,hy,e'⟩:=this;exact ⟨by rw [<- e]; exact a,y,rz _ hy,e'.trans e⟩
       clear ih h
       induction r generalizing z with
       | nil=>cases hz
       | cons y r ih =>
         obtain ⟨c',m'⟩:=y;unfold xg at hz
         split at hz
         · rename_i hm';rcases kbd hz with e1 | ⟨z',lH,e1⟩
           · exact ⟨by rw [e1]; exact hm',_,r5,e1.symm⟩
           · obtain ⟨a,y,hy,e'⟩:=ih z' lH (e1.trans e);exact ⟨by rw [<- e1]; exact a,y,rz _ hy,e'.trans e1⟩
         · obtain ⟨a,y,hy,e'⟩:=ih z hz e;exact ⟨a,y,rz _ hy,e'⟩
   · obtain ⟨a,y,hy,e⟩:=ih h;exact ⟨a,y,rz _ hy,e⟩
theorem yae {l:Sp} (h:∀ x ∈ l,x.2.qe) (k:Mo):je (xg l) k=je l k:=by
 rw [vam]
 by_cases hk:k.qe
 · rw [if_pos hk]
 · rw [if_neg hk,uac fun x hx (e:x.2=k)=>hk (e ▸ h x hx)]
theorem ka5 {l:Sp} (h:yt l) (hn:∀ x ∈ l,x.2.qe):xg l=l:=yt.uniq _ _ (vz l) h (yae hn)
theorem zba {l l':Sp} (h:∀ k,k.qe->je l k=je l' k):xg l=xg l':=yt.uniq _ _ (vz l) (vz l') fun k=>by
 rw [vam,vam]
 by_cases hk:k.qe
 · rw [if_pos hk,if_pos hk,h k hk]
 · rw [if_neg hk,if_neg hk]
theorem zct {l l':Sp} (hc:yt l') (hn:∀ x ∈ l',x.2.qe) (h:∀ k,k.qe->je l' k=je l k):l'=xg l:=by
 rw [<- ka5 hc hn]; exact zba h
def zg : Sp -> Nat
 | []=>0
 | (c,_) :: r=>c.natAbs+zg r
theorem wah (l r:Sp):zg (l ++ r)=zg l+zg r:=by
 induction l with
 | nil=>simp [zg]
 | cons x l ih=>obtain ⟨c,m⟩:=x; simp only [rI,zg,ih]; omega
theorem qct (c:Int) (m:Mo) (l:Sp):zg (gam c m l)<=c.natAbs+zg l:=by
 induction l with
 | nil=>unfold gam; split <;> simp [zg]
 | cons x r ih =>
   obtain ⟨d,n⟩:=x;unfold gam
   split
   · split <;> simp only [zg] <;> omega
   · split
     · split <;> simp only [zg] <;> omega
     · simp only [zg]; omega
theorem va5 (l:Sp):zg (xg l)<=zg l:=by
 induction l with
 | nil=>exact pj _
 | cons x r ih =>
   obtain ⟨c,m⟩:=x;unfold xg;have:=qct c m (xg r)
   split <;> simp only [zg] <;> omega
theorem ybd {l:Sp} {x:Int × Mo} (h:x ∈ l):x.1.natAbs<=zg l:=by
 induction l with
 | nil=>cases h
 | cons y r ih =>
   obtain ⟨c,m⟩:=y;rcases pQ.1 h with rfl | h
   · simp only [zg]; omega
   · have:=ih h; simp only [zg]; omega
theorem yb4 (f:Int × Mo->Bool) (l:Sp):zg (l.filter f)<=zg l:=by
 induction l with
 | nil=>exact pj _
 | cons x r ih =>
   obtain ⟨c,m⟩:=x;rw [sB]
   split <;> simp only [zg] <;> omega
def Pl.jz (l:Sp):Pl:=bld 4 (xg l)
def Pl.nf (p:Pl):Pl:=Pl.jz (p.qt Mo.one)
theorem Pl.jj (l:Sp):(Pl.jz l).Can:=(wbm (vz l) (fun _ hx=>(qw hx).1)).1
theorem Pl.J0 (l:Sp) (k:Mo):je ((Pl.jz l).qt Mo.one) k=if k.qe then je l k else 0:=
 ((wbm (vz l) (fun _ hx=>(qw hx).1)).2 k).trans (vam l k)
theorem Mo.yv {m:Mo} {i e:Int} (h:m.qe) (he:0<=e):(m.put i e).qe:=by
 unfold Mo.qe at *; unfold Mo.put; split <;> (try split) <;> (try split) <;> simp_all
theorem Mo.one_nonneg:Mo.one.qe:=by unfold Mo.qe Mo.one; simp
theorem Mo.jx {m:Mo} (h:m.qe) (i:Int):0<=m.get i:=by
 unfold Mo.qe at h; unfold Mo.get; split <;> (try split) <;> (try split) <;> omega
mutual
theorem Pl.kl : ∀ (p : Pl) (m : Mo), m.qe -> ∀ x ∈ p.qt m, x.2.qe
 | .mk l n d cs,m,hm,x,hx=>by
   rw [Pl.qt] at hx
   split at hx
   · rw [pD.1 hx]; exact hm
   · split at hx
     · cases hx
     · exact vaz cs m l (m.get l) hm (Mo.jx hm l) x hx
theorem vaz : ∀ (cs : List Pl) (m : Mo) (l e : Int), m.qe -> 0 <= e -> ∀ x ∈ xe m l e cs, x.2.qe
 | [],m,l,e,hm,he,x,hx=>by rw [xe] at hx; cases hx
 | c :: r,m,l,e,hm,he,x,hx=>by
   rw [xe] at hx;rcases rj.1 hx with hx | hx
   · exact Pl.kl c _ (Mo.yv hm he) x hx
   · exact vaz r m l (e+1) hm (by omega) x hx
end
theorem Pl.qv (p:Pl):∀ x ∈ p.qt Mo.one,x.2.qe:=Pl.kl p _ Mo.one_nonneg
theorem Pl.xT (p:Pl):p.nf.Can:=Pl.jj _
theorem Pl.KK (p:Pl) (k:Mo):je (p.nf.qt Mo.one) k=je (p.qt Mo.one) k:=
 ((wbm (vz _) (fun _ hx=>(qw hx).1)).2 k).trans (yae p.qv k)
theorem Pl.q7 {p:Pl} (h:p.Can):p.nf=p:=Pl.Km p.xT h p.KK
theorem Pl.js (ρ:Int->Rat) (p:Pl):p.nf.val ρ=p.val ρ:=Pl.Vv ρ p.KK
mutual
def Pl.sz : Pl -> Nat
 | .mk _ _ _ cs=>vk cs+1
def vk : List Pl -> Nat
 | []=>0
 | c :: r=>c.sz+vk r
end
mutual
def Pl.dm : Pl -> Nat
 | .mk _ _ d cs=>max d.length (ww cs)
def ww : List Pl -> Nat
 | []=>0
 | c :: r=>max c.dm (ww r)
end
theorem yal {cs:List Pl} {c:Pl} (h:c ∈ cs):c.sz<=vk cs:=by
 induction cs with
 | nil=>cases h
 | cons x r ih =>
   rcases pQ.1 h with rfl | h
   · unfold vk; omega
   · have:=ih h; unfold vk; omega
theorem Pl.jn {p c:Pl} (h:c ∈ p.cs):c.sz < p.sz:=by
 cases p with
 | mk l n d cs =>
   have h1:c.sz<=vk cs:=yal (cs:=cs) h;have h2:(Pl.mk l n d cs).sz=vk cs+1:=by rw [Pl.sz]
   omega
theorem xad (cs:List Pl):cs.length<=vk cs:=by
 induction cs with
 | nil=>exact pj _
 | cons x r ih=>cases x; unfold vk Pl.sz; simp only [pL]; omega
theorem Pl.kg (p:Pl):p.cs.length < p.sz:=by
 cases p with
 | mk l n d cs =>
   have h1:=xad cs;have h2:(Pl.mk l n d cs).sz=vk cs+1:=by rw [Pl.sz]
   have h3:(Pl.mk l n d cs).cs=cs:=rfl;rw [h3]; omega
theorem kb5 (a b:List Pl):vk (a ++ b)=vk a+vk b:=by
 induction a with
 | nil=>simp [vk]
 | cons x r ih=>simp only [rI,vk,ih]; omega
theorem qcm (l:List Pl) (k:Nat) (h:k < l.length):vk (l.drop k)=l[k].sz+vk (l.drop (k+1)):=by
 rw [r9 h]; simp only [vk]
theorem xap {cs:List Pl} {c:Pl} (h:c ∈ cs):c.dm<=ww cs:=by
 induction cs with
 | nil=>cases h
 | cons x r ih =>
   rcases pQ.1 h with rfl | h
   · unfold ww; omega
   · have:=ih h; unfold ww; omega
theorem Pl.qbA {p c:Pl} (h:c ∈ p.cs):c.dm<=p.dm:=by
 cases p with
 | mk l n d cs =>
   have h1:c.dm<=ww cs:=xap (cs:=cs) h;have h2:(Pl.mk l n d cs).dm=max d.length (ww cs):=by rw [Pl.dm]
   omega
theorem Pl.vd (p:Pl):p.ds.length<=p.dm:=by
 cases p with
 | mk l n d cs =>
   have h2:(Pl.mk l n d cs).dm=max d.length (ww cs):=by rw [Pl.dm]
   have h3:(Pl.mk l n d cs).ds=d:=rfl;rw [h3]; omega
mutual
theorem Pl.ky : ∀ (p : Pl) (m : Mo), (p.qt m).length <= p.sz
 | .mk l n d cs,m=>by
   rw [Pl.qt,Pl.sz]
   split
   · simp
   · split
     · simp
     · have:=zai cs m l (m.get l); omega
theorem zai : ∀ (cs : List Pl) (m : Mo) (l e : Int), (xe m l e cs).length <= vk cs
 | [],m,l,e=>by rw [xe]; simp
 | c :: r,m,l,e=>by
   rw [xe,ra,vk];have:=Pl.ky c (m.put l e);have:=zai r m l (e+1);omega
end
theorem Mo.qaX {m:Mo} {l e E:Int} (h:m.a<=E/\m.b<=E/\m.c<=E/\m.d<=E) (he:e<=E):(m.put l e).a<=E/\(m.put l e).b<=E/\(m.put l e).c<=E/\(m.put l e).d<=E:=by
 unfold Mo.put; split <;> (try split) <;> (try split) <;> simp_all
def Mo.le (m:Mo) (E:Int):Prop:=m.a<=E/\m.b<=E/\m.c<=E/\m.d<=E
theorem Mo.le.get {m:Mo} {E:Int} (h:m.le E) (i:Int):m.get i<=E:=by
 unfold Mo.le at h; unfold Mo.get; split <;> (try split) <;> (try split) <;> omega
theorem Mo.le.put {m:Mo} {E:Int} (h:m.le E) (l e:Int) (he:e<=E):(m.put l e).le E:=Mo.qaX h he
theorem Mo.le.mono {m:Mo} {E E':Int} (h:m.le E) (he:E<=E'):m.le E':=by unfold Mo.le at *; omega
theorem Mo.one_le:Mo.one.le 0:=by unfold Mo.le Mo.one; simp
mutual
theorem Pl.JN : ∀ (p : Pl) (m : Mo) (E : Int), m.le E -> ∀ x ∈ p.qt m, x.2.le (E + p.sz)
 | .mk l n d cs,m,E,hm,x,hx=>by
   rw [Pl.qt] at hx
   split at hx
   · rw [pD.1 hx]; exact hm.mono (by omega)
   · split at hx
     · cases hx
     · have:=gbh cs m l (m.get l) E hm (hm.get l) x hx;refine this.mono ?_;rw [Pl.sz]; omega
theorem gbh : ∀ (cs : List Pl) (m : Mo) (l e E : Int), m.le E -> e <= E -> ∀ x ∈ xe m l e cs, x.2.le (E + vk cs)
 | [],m,l,e,E,hm,he,x,hx=>by rw [xe] at hx; cases hx
 | c :: r,m,l,e,E,hm,he,x,hx=>by
   rw [xe] at hx;rcases rj.1 hx with hx | hx
   · refine (Pl.JN c _ E (hm.put l e he) x hx).mono ?_;rw [vk]; omega
   · refine (gbh r m l (e+1) (E+1) (hm.mono (by omega)) (by omega) x hx).mono ?_;have:1<=c.sz:=by cases c; rw [Pl.sz]; omega
     rw [vk]; omega
end
mutual
theorem Pl.Qt : ∀ (p : Pl) (m : Mo) (L : Nat), p.dm <= L -> p.dig -> zg (p.qt m) <= p.sz * B32 ^ L
 | .mk l n d cs,m,L,hL,hd=>by
   rw [Pl.dm] at hL;rw [Pl.dig] at hd;rw [Pl.qt,Pl.sz,rN,tr]
   split
   · simp only [zg,ku];have h1:=jy hd.1;have h2:B32 ^ d.length<=B32 ^ L:=rS yj (by omega);omega
   · split
     · simp [zg]
     · have:=zbb cs m l (m.get l) L (by omega) hd.2; omega
theorem zbb : ∀ (cs : List Pl) (m : Mo) (l e : Int) (L : Nat), ww cs <= L -> qat cs -> zg (xe m l e cs) <= vk cs * B32 ^ L
 | [],m,l,e,L,hL,hd=>by rw [xe]; simp [zg]
 | c :: r,m,l,e,L,hL,hd=>by
   rw [ww] at hL;rw [qat] at hd;rw [xe,wah,vk,rN];have:=Pl.Qt c (m.put l e) L (by omega) hd.1;have:=zbb r m l (e+1) L (by omega) hd.2;omega
end
theorem zdc (L:Nat) (n:Nat):∀ l:Sp,(∀ x ∈ l,(dg x.1.natAbs).length<=L)->(bld n l).dm<=L:=by
 induction n with
 | zero =>
   intro l hl;cases l with
   | nil=>simp [bld,Pl.zero,Pl.dm,ww]
   | cons x r=>obtain ⟨c,m⟩:=x; have:=hl (c,m) (by simp); simpa [bld,Pl.const,Pl.dm,ww] using this
 | succ n ih =>
   intro l hl;cases l with
   | nil=>simp [bld,Pl.zero,Pl.dm,ww]
   | cons x r =>
     obtain ⟨c,m⟩:=x;rw [bld]
     split
     · exact ih _ hl
     · rw [Pl.dm];have key:∀ cs:List Pl,(∀ c ∈ cs,c.dm<=L)->ww cs<=L:=by
        intro cs
        induction cs with
        | nil=>intro _; simp [ww]
        | cons y r ihr=>intro h; rw [ww]; have:=h y (by simp); have:=ihr (fun z hz=>h z (by simp [hz])); omega
       have:=key _ (fun (p:Pl) (hp:p ∈ (List.range ((m.get (n+1:Nat)).toNat+1)).map fun (i:Nat)=>bld n (((c,m) :: r).filter fun x=>decide (x.2.get (n+1:Nat)=Int.ofNat i)))=>by
        obtain ⟨i,-,rfl⟩:=pZ.1 hp
        exact ih _ (fun x hx=>hl x (sq.1 hx).1))
       simp only [r8];omega
end Go.Proofs.YtcepajijiabkmaaGreat
