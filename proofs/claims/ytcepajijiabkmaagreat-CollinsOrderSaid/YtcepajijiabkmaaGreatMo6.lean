/- Polynomials in four variables, plain: monomials, sums of terms, recursive polynomials, and their values. No program in sight. -/
import Derived.Test.YtcepajijiabkmaaGreatMo5
set_option linter.all false
namespace Go.Proofs.YtcepajijiabkmaaGreat
structure Mo where
 a:Int
 b:Int
 c:Int
 d:Int
deriving DecidableEq
def Mo.one:Mo:=⟨0,0,0,0⟩
def Mo.get (m:Mo) (i:Int):Int:=if i=1 then m.a else if i=2 then m.b else if i=3 then m.c else m.d
def Mo.put (m:Mo) (i e:Int):Mo:=if i=1 then { m with a:=e } else if i=2 then { m with b:=e } else if i=3 then { m with c:=e } else { m with d:=e }
def Mo.qe (m:Mo):Prop:=0<=m.a/\0<=m.b/\0<=m.c/\0<=m.d
instance (m:Mo):Decidable m.qe:=by unfold Mo.qe; infer_instance
def Mo.lt (m n:Mo):Prop:=m.d < n.d\/(m.d=n.d/\(m.c < n.c\/(m.c=n.c/\(m.b < n.b\/(m.b=n.b/\m.a < n.a)))))
instance (m n:Mo):Decidable (m.lt n):=by unfold Mo.lt; infer_instance
theorem Mo.Kc {m n:Mo} (h1:m.a=n.a) (h2:m.b=n.b) (h3:m.c=n.c) (h4:m.d=n.d):m=n:=by cases m; cases n; simp_all
theorem Mo.lt_irrefl (m:Mo):¬ m.lt m:=by unfold Mo.lt; omega
theorem Mo.lt_trans {m n k:Mo} (h1:m.lt n) (h2:n.lt k):m.lt k:=by unfold Mo.lt at *; omega
theorem Mo.qbH (m n:Mo):m.lt n\/m=n\/n.lt m:=by
 by_cases h:m=n
 · exact .inr (.inl h)
 · have:¬ (m.a=n.a/\m.b=n.b/\m.c=n.c/\m.d=n.d):=fun hh=>h (Mo.Kc hh.1 hh.2.1 hh.2.2.1 hh.2.2.2)
   unfold Mo.lt; omega
abbrev Sp:=List (Int × Mo)
def ve : Sp -> Mo -> Int
 | [],_=>0
 | (c,n) :: r,m=>(if n=m then c else 0)+ve r m
theorem jao (l r:Sp) (m:Mo):ve (l ++ r) m=ve l m+ve r m:=by
 induction l with
 | nil=>simp [ve]
 | cons x l ih=>simp only [rI,ve,ih]; omega
def zq : Sp -> Prop
 | []=>True
 | (c,m) :: r=>c ≠ 0/\(∀ x ∈ r,x.2.lt m)/\zq r
theorem vad {l:Sp} {m:Mo} (h:∀ x ∈ l,x.2 ≠ m):ve l m=0:=by
 induction l with
 | nil=>rfl
 | cons x l ih =>
   rw [ve,if_neg (h x (by simp)),ih (fun y hy=>h y (by simp [hy]))]; rfl
theorem qao {c:Int} {m:Mo} {r:Sp} (h:zq ((c,m) :: r)):ve ((c,m) :: r) m=c/\∀ n,m.lt n->ve ((c,m) :: r) n=0:=by
 have af:=h.2.1
 constructor
 · rw [ve,if_pos rfl,vad (m:=m) (fun x hx e=>Mo.lt_irrefl m (by have:=af x hx; rw [e] at this; exact this))]; omega
 · intro n hn;refine vad fun x hx e=>?_
   rcases pN.1 hx with rfl | hx
   · exact Mo.lt_irrefl m (by rw [<- e] at hn; exact hn)
   · exact Mo.lt_irrefl m (Mo.lt_trans (by rw [<- e] at hn; exact hn) (af x hx))
theorem zq.uniq : ∀ (l l' : Sp), zq l -> zq l' -> (∀ m, ve l m = ve l' m) -> l = l'
 | [],[],_,_,_=>rfl
 | [],(c,m) :: r,_,h',e=>by
   have h1:=(qao h').1;rw [<- e m] at h1;exact absurd h1.symm h'.1
 | (c,m) :: r,[],h,_,e=>by
   have h1:=(qao h).1;rw [e m] at h1;exact absurd h1.symm h.1
 | (c,m) :: r,(c',m') :: r',h,h',e=>by
   have h1:=qao h;have h2:=qao h';have hm:m=m':=by
    rcases Mo.qbH m m' with af | he | af
    · have:=h1.2 m' af;rw [e m',h2.1] at this;exact absurd this h'.1
    · exact he
    · have:=h2.2 m af;rw [<- e m,h1.1] at this;exact absurd this h.1
   subst hm;have hc:c=c':=by rw [<- h1.1,e m,h2.1]
   subst hc;have hr:r=r':=zq.uniq r r' h.2.2 h'.2.2 (fun n=>by
    have:=e n;simp only [ve] at this
    omega)
   rw [hr]
def Mo.val (ρ:Int->Rat) (m:Mo):Rat:=ρ 1 ^ m.a.toNat * ρ 2 ^ m.b.toNat * ρ 3 ^ m.c.toNat * ρ 4 ^ m.d.toNat
def ql (ρ : Int -> Rat) : Sp -> Rat
 | []=>0
 | (c,m) :: r=>(c:Rat) * m.val ρ+ql ρ r
theorem zaj (ρ:Int->Rat) (l r:Sp):ql ρ (l ++ r)=ql ρ l+ql ρ r:=by
 induction l with
 | nil=>simp [ql]; grind
 | cons x l ih=>obtain ⟨c,m⟩:=x; simp only [rI,ql,ih]; grind
theorem kcg (ρ:Int->Rat) (m:Mo) (l:Sp):ql ρ l=(ve l m:Rat) * m.val ρ+ql ρ (l.filter fun x=>decide (x.2 ≠ m)):=by
 induction l with
 | nil=>simp [ql,ve]; grind
 | cons x l ih =>
   obtain ⟨c,n⟩:=x
   by_cases h:n=m
   · subst h;simp only [ql,ve,if_true,rR,ne_eq,not_true,decide_false,PF,if_false];rw [ih]
     push_cast
     grind
   · have:decide (n ≠ m)=true:=by simpa using h
     simp only [ql,ve,if_neg h,rR,this,if_true];rw [ih]
     push_cast
     grind
theorem xby (l:Sp) (m n:Mo):ve (l.filter fun x=>decide (x.2 ≠ m)) n=if n=m then 0 else ve l n:=by
 induction l with
 | nil=>simp [ve]
 | cons x l ih =>
   obtain ⟨c,k⟩:=x
   by_cases h:k=m
   · subst h;simp only [rR,ne_eq,not_true,decide_false,PF,if_false,ve];rw [ih]
     by_cases h2:n=k
     · simp [h2]
     · rw [if_neg h2,if_neg h2,if_neg (fun e=>h2 e.symm)]; omega
   · have:decide (k ≠ m)=true:=by simpa using h
     simp only [rR,this,if_true,ve,ih]
     by_cases h2:n=m
     · subst h2; simp [h]
     · simp [h2]
theorem xco (ρ:Int->Rat) (n:Nat):∀ l:Sp,l.length<=n->(∀ m,ve l m=0)->ql ρ l=0:=by
 induction n with
 | zero=>intro l h _; obtain rfl:l=[]:=rT (by omega); rfl
 | succ n ih =>
   intro l h h0;cases l with
   | nil=>rfl
   | cons x l =>
     obtain ⟨c,m⟩:=x;rw [kcg ρ m,h0 m];have hl:(((c,m) :: l).filter fun x=>decide (x.2 ≠ m)).length<=n:=by
      rw [rR];simp only [ne_eq,not_true,decide_false,PF,if_false];have:=uE (fun x:Int × Mo=>decide (x.2 ≠ m)) l;simp only [pH] at h;simp only [ne_eq] at this ⊢;omega
     rw [ih _ hl (fun k=>by rw [xby]; split <;> simp [h0])];simp; grind
def yaq (l:Sp):Sp:=l.map fun x=>(-x.1,x.2)
theorem gbq (l:Sp) (m:Mo):ve (yaq l) m=- ve l m:=by
 induction l with
 | nil=>rfl
 | cons x l ih =>
   obtain ⟨c,n⟩:=x;simp only [yaq,ss,ve];rw [show (List.map (fun x:Int × Mo=>(-x.1,x.2)) l)=yaq l from rfl,ih]
   split <;> omega
theorem xbw (ρ:Int->Rat) (l:Sp):ql ρ (yaq l)=- ql ρ l:=by
 induction l with
 | nil=>simp [yaq,ql]
 | cons x l ih =>
   obtain ⟨c,n⟩:=x;simp only [yaq,ss,ql];rw [show (List.map (fun x:Int × Mo=>(-x.1,x.2)) l)=yaq l from rfl,ih]
   push_cast
   grind
theorem jas (ρ:Int->Rat) {l l':Sp} (h:∀ m,ve l m=ve l' m):ql ρ l=ql ρ l':=by
 have h1:=xco ρ (l ++ yaq l').length (l ++ yaq l') (pj _) (fun m=>by rw [jao,gbq,h m]; omega);rw [zaj,xbw] at h1
 grind
inductive Pl where
 | mk (lv:Int) (neg:Bool) (ds:List Nat) (cs:List Pl)
def Pl.lv : Pl -> Int
 | .mk l _ _ _=>l
def Pl.neg : Pl -> Bool
 | .mk _ n _ _=>n
def Pl.ds : Pl -> List Nat
 | .mk _ _ d _=>d
def Pl.cs : Pl -> List Pl
 | .mk _ _ _ c=>c
def Pl.z (p:Pl):Int:=sgn p.neg (val p.ds)
mutual
def Pl.qu (m : Mo) : Pl -> Sp
 | .mk l n d cs=>if l<=0 then [(sgn n (val d),m)] else if 4 < l then [] else xe m l (m.get l) cs
def xe (m : Mo) (l e : Int) : List Pl -> Sp
 | []=>[]
 | c :: r=>c.qu (m.put l e) ++ xe m l (e+1) r
end
mutual
def Pl.val (ρ : Int -> Rat) : Pl -> Rat
 | .mk l n d cs=>if l<=0 then ((sgn n (val d):Int):Rat) else if 4 < l then 0 else je ρ l cs
def je (ρ : Int -> Rat) (l : Int) : List Pl -> Rat
 | []=>0
 | c :: r=>c.val ρ+ρ l * je ρ l r
end
theorem Mo.qaJ (ρ:Int->Rat) (m:Mo) (l e:Int) (h1:0 < l) (h2:l<=4) (he:0<=e):(m.put l (e+1)).val ρ=ρ l * (m.put l e).val ρ:=by
 have ht:(e+1).toNat=e.toNat+1:=by omega
 rcases (show l=1\/l=2\/l=3\/l=4 by omega) with rfl | rfl | rfl | rfl
 · show ρ 1 ^ (e+1).toNat * ρ 2 ^ m.b.toNat * ρ 3 ^ m.c.toNat * ρ 4 ^ m.d.toNat=ρ 1 * (ρ 1 ^ e.toNat * ρ 2 ^ m.b.toNat * ρ 3 ^ m.c.toNat * ρ 4 ^ m.d.toNat);rw [ht,Pu]; grind
 · show ρ 1 ^ m.a.toNat * ρ 2 ^ (e+1).toNat * ρ 3 ^ m.c.toNat * ρ 4 ^ m.d.toNat=ρ 2 * (ρ 1 ^ m.a.toNat * ρ 2 ^ e.toNat * ρ 3 ^ m.c.toNat * ρ 4 ^ m.d.toNat);rw [ht,Pu]; grind
 · show ρ 1 ^ m.a.toNat * ρ 2 ^ m.b.toNat * ρ 3 ^ (e+1).toNat * ρ 4 ^ m.d.toNat=ρ 3 * (ρ 1 ^ m.a.toNat * ρ 2 ^ m.b.toNat * ρ 3 ^ e.toNat * ρ 4 ^ m.d.toNat);rw [ht,Pu]; grind
 · show ρ 1 ^ m.a.toNat * ρ 2 ^ m.b.toNat * ρ 3 ^ m.c.toNat * ρ 4 ^ (e+1).toNat=ρ 4 * (ρ 1 ^ m.a.toNat * ρ 2 ^ m.b.toNat * ρ 3 ^ m.c.toNat * ρ 4 ^ e.toNat);rw [ht,Pu]; grind
mutual
theorem Pl.zR (ρ : Int -> Rat) : ∀ (p : Pl) (m : Mo), m.qe -> ql ρ (p.qu m) = m.val ρ * p.val ρ
 | .mk l n d cs,m,hm=>by
   rw [Pl.qu,Pl.val]
   by_cases h1:l<=0
   · rw [if_pos h1,if_pos h1]; simp only [ql]; grind
   · rw [if_neg h1,if_neg h1]
     by_cases h2:4 < l
     · rw [if_pos h2,if_pos h2]; simp only [ql]; grind
     · rw [if_neg h2,if_neg h2];have hg:0<=m.get l:=by unfold Mo.qe at hm; unfold Mo.get; split <;> (try split) <;> (try split) <;> omega
       rw [ybd ρ cs m l (m.get l) (by omega) (by omega) hg hm];have:m.put l (m.get l)=m:=by unfold Mo.put Mo.get; split <;> (try split) <;> (try split) <;> rfl
       rw [this]
theorem ybd (ρ : Int -> Rat) : ∀ (cs : List Pl) (m : Mo) (l e : Int), 0 < l -> l <= 4 -> 0 <= e -> m.qe -> ql ρ (xe m l e cs) = (m.put l e).val ρ * je ρ l cs
 | [],m,l,e,h1,h2,he,hm=>by rw [xe,je]; simp only [ql]; grind
 | c :: r,m,l,e,h1,h2,he,hm=>by
   have hp:(m.put l e).qe:=by unfold Mo.qe at *; unfold Mo.put; split <;> (try split) <;> (try split) <;> simp_all
   rw [xe,je,zaj,Pl.zR ρ c _ hp,ybd ρ r m l (e+1) h1 h2 (by omega) hm,Mo.qaJ ρ m l e h1 h2 he]
   grind
end
theorem Mo.val_one (ρ:Int->Rat):Mo.one.val ρ=1:=by simp [Mo.one,Mo.val]
theorem Pl.Vv (ρ:Int->Rat) {p q:Pl} (h:∀ m,ve (p.qu Mo.one) m=ve (q.qu Mo.one) m):p.val ρ=q.val ρ:=by
 have h1:=jas ρ h;rw [Pl.zR ρ p _ (by unfold Mo.qe Mo.one; simp),Pl.zR ρ q _ (by unfold Mo.qe Mo.one; simp),Mo.val_one] at h1
 grind
def Pl.zero:Pl:=.mk 0 false [] []
def Pl.const (z:Int):Pl:=.mk 0 (decide (z < 0)) (dg z.natAbs) []
theorem Pl.vf (z:Int) (m:Mo):(Pl.const z).qu m=[(z,m)]:=by
 rw [Pl.const,Pl.qu,if_pos (by omega),jg,xaq]
def bld : Nat -> Sp -> Pl
 | _,[]=>Pl.zero
 | 0,(c,_) :: _=>Pl.const c
 | n+1,(c,m) :: r=>if m.get (n+1:Nat)=0 then bld n ((c,m) :: r) else .mk (n+1:Nat) false [] ((List.range ((m.get (n+1:Nat)).toNat+1)).map fun (i:Nat)=>bld n (((c,m) :: r).filter fun x=>decide (x.2.get (n+1:Nat)=Int.ofNat i)))
def gbb (n:Nat) (m:Mo) (l:Sp):Prop:=∀ x ∈ l,∀ i:Nat,n < i->i<=4->x.2.get i=m.get i
theorem Mo.KS {m k:Mo} (h:∀ i:Nat,0 < i->i<=4->m.get i=k.get i):m=k:=by
 have h1:=h 1 (by omega) (by omega);have h2:=h 2 (by omega) (by omega);have h3:=h 3 (by omega) (by omega);have h4:=h 4 (by omega) (by omega);simp [Mo.get] at h1 h2 h3 h4;exact Mo.Kc h1 h2 h3 h4
theorem Mo.zr (m:Mo) (i:Nat) (e:Int) (h1:0 < i) (h2:i<=4) (j:Nat) (h3:0 < j) (h4:j<=4):(m.put i e).get j=if j=i then e else m.get j:=by
 rcases (show i=1\/i=2\/i=3\/i=4 by omega) with rfl | rfl | rfl | rfl <;> rcases (show j=1\/j=2\/j=3\/j=4 by omega) with rfl | rfl | rfl | rfl <;> simp [Mo.put,Mo.get]
theorem Mo.Kj {x m:Mo} {n:Nat} (hn:0 < n) (iE:n<=4) (h:x.lt m) (ha:∀ i:Nat,n < i->i<=4->x.get i=m.get i):x.get n<=m.get n:=by
 unfold Mo.lt at h;have h2:=ha 2;have h3:=ha 3;have h4:=ha 4;rcases (show n=1\/n=2\/n=3\/n=4 by omega) with rfl | rfl | rfl | rfl <;> simp [Mo.get] at h2 h3 h4 ⊢ <;> omega
theorem zq.filter {l:Sp} (h:zq l) (f:Int × Mo->Bool):zq (l.filter f):=by
 induction l with
 | nil=>exact trivial
 | cons x l ih =>
   obtain ⟨c,m⟩:=x;rw [rR]
   split
   · exact ⟨h.1,fun y hy=>h.2.1 y (sw.1 hy).1,ih h.2.2⟩
   · exact ih h.2.2
theorem kch (l:Sp) (m:Mo) (f g k:Int × Mo->Bool) (h:∀ x ∈ l,k x=(f x || g x)) (hd:∀ x ∈ l,¬ (f x=true/\g x=true)):ve (l.filter k) m=ve (l.filter f) m+ve (l.filter g) m:=by
 induction l with
 | nil=>rfl
 | cons x l ih =>
   have ihl:=ih (fun y hy=>h y (by simp [hy])) (fun y hy=>hd y (by simp [hy]));have hk:=h x (by simp);have hx:=hd x (by simp);rw [rR,rR,rR];cases hf:f x <;> cases hg:g x <;> rw [hf,hg] at hk <;> simp only [pbm,Bool.or_true,Bool.true_or,Bool.false_or] at hk <;> rw [hk] <;> simp only [if_true,PF,if_false,ve]
   · exact ihl
   · rw [ihl]; omega
   · rw [ihl]; omega
   · exact absurd ⟨hf,hg⟩ hx
theorem wbf (l:Sp) (m:Mo) (f:Int × Mo->Bool) (h:∀ x ∈ l,f x=true):l.filter f=l:=pal.2 h
theorem jbi (n:Nat) (hn:n<=4):∀ (l:Sp) (m:Mo),zq l->(∀ x ∈ l,x.2.qe)->gbb n m l->(∀ i:Nat,0 < i->i<=n->m.get i=0)->∀ k,ve ((bld n l).qu m) k=ve l k:=by
 induction n with
 | zero =>
   intro l m hl nH ha _ k;cases l with
   | nil=>simp [bld,Pl.zero,Pl.qu,ve,sgn,val]
   | cons x r =>
     obtain ⟨c,m'⟩:=x;have hm:m'=m:=Mo.KS (fun i h1 h2=>ha (c,m') (by simp) i h1 h2);subst hm;have hr:r=[]:=by
      cases r with
      | nil=>rfl
      | cons y r =>
        have h1:=hl.2.1 y (by simp);have h2:y.2=m':=Mo.KS (fun i h1 h2=>ha y (by simp) i h1 h2);rw [h2] at h1;exact absurd h1 (Mo.lt_irrefl _)
     subst hr;rw [bld,Pl.vf]
 | succ n ih =>
   intro l m hl nH ha hz k;cases l with
   | nil=>simp [bld,Pl.zero,Pl.qu,ve,sgn,val]
   | cons x r =>
     obtain ⟨c,m'⟩:=x;have ER:∀ y ∈ ((c,m') :: r:Sp),y.2.get (n+1:Nat)<=m'.get (n+1:Nat):=by
      intro y hy;rcases pN.1 hy with rfl | Zx
      · exact uv _
      · exact Mo.Kj (by omega) (by omega) (hl.2.1 y Zx) (fun i h1 h2=>(ha y hy i (by omega) h2).trans (ha (c,m') (by simp) i (by omega) h2).symm)
     have kT:∀ y ∈ ((c,m') :: r:Sp),0<=y.2.get (n+1:Nat):=by
      intro y hy;have:=nH y hy;unfold Mo.qe at this;unfold Mo.get
      split <;> (try split) <;> (try split) <;> omega
     rw [bld]
     by_cases h0:m'.get (n+1:Nat)=0
     · rw [if_pos h0];refine ih (by omega) _ m hl nH (fun y hy i h1 h2=>?_) (fun i h1 h2=>hz i h1 (by omega)) k
       by_cases hi:i=n+1
       · subst hi;rw [hz (n+1) (by omega) (by omega)];have h1:=ER y hy;have h2:=kT y hy;omega
       · exact ha y hy i (by omega) h2
     · rw [if_neg h0];have bI:m.get (n+1:Nat)=0:=hz (n+1) (by omega) (by omega);rw [Pl.qu,if_neg (by omega),if_neg (by omega),bI];generalize hL:((c,m') :: r:Sp)=L at *;have key:∀ (cnt e:Nat),ve (xe m (n+1:Nat) (e:Int) ((List.range' e cnt).map fun (i:Nat)=>bld n (L.filter fun x=>decide (x.2.get (n+1:Nat)=Int.ofNat i)))) k=ve (L.filter fun x=>decide ((e:Int)<=x.2.get (n+1:Nat)) && decide (x.2.get (n+1:Nat) < (e:Int)+cnt)) k:=by
        intro cnt
        induction cnt with
        | zero =>
          intro e;have:(L.filter fun x=>decide ((e:Int)<=x.2.get (n+1:Nat)) && decide (x.2.get (n+1:Nat) < (e:Int)+(0:Nat)))=[]:=RE.2 (fun x _=>by simp);rw [this]; rfl
        | succ cnt ihc =>
          intro e;rw [List.range'_succ,ss,xe,jao];have e1:((e:Int)+1)=((e+1:Nat):Int):=by omega
          rw [e1,ihc (e+1)];rw [ih (by omega) _ (m.put (n+1:Nat) e) (hl.filter _) (fun x hx=>nH x (sw.1 hx).1) (fun x hx i h1 h2=>?_) (fun i h1 h2=>?_)]
          · refine (kch L k _ _ _ (fun x _=>?_) (fun x _=>?_)).symm
            · simp only [<- Bool.decide_and,<- Bool.decide_or,decide_eq_decide,Rb];omega
            · simp only [Rs,decide_eq_true_eq,Rb];omega
          · obtain ⟨hx1,aN⟩:=sw.1 hx;rw [Mo.zr m (n+1) e (by omega) (by omega) i (by omega) h2]
            by_cases hi:i=n+1
            · rw [if_pos hi,hi]; simpa using aN
            · rw [if_neg hi]; exact ha x hx1 i (by omega) h2
          · rw [Mo.zr m (n+1) e (by omega) (by omega) i h1 (by omega),if_neg (by omega)];exact hz i h1 (by omega)
       have h1:=key ((m'.get (n+1:Nat)).toNat+1) 0;rw [<- List.range_eq_range'] at h1;refine Eq.trans h1 ?_;rw [wbf L k _ (fun x hx=>?_)];have h2:=ER x hx;have h3:=kT x hx;simp only [Rs,decide_eq_true_eq];omega
mutual
def Pl.Can : Pl -> Prop
 | .mk l n d cs=>(l=0/\cs=[]/\d=dg (val d)/\(d=[]->n=false))\/(1<=l/\l<=4/\n=false/\d=[]/\2<=cs.length/\uq l cs/\cs.getLast? ≠ some Pl.zero)
def uq (l : Int) : List Pl -> Prop
 | []=>True
 | c :: r=>c.lv < l/\c.Can/\uq l r
end
theorem uq.mem {l : Int} : ∀ {cs : List Pl}, uq l cs -> ∀ c ∈ cs, c.lv < l /\ c.Can
 | c :: r,h,x,hx=>by
   unfold uq at h;rcases pN.1 hx with rfl | hx
   · exact ⟨h.1,h.2.1⟩
   · exact uq.mem h.2.2 x hx
theorem Pl.qT:Pl.zero.Can:=by unfold Pl.zero Pl.Can; left; exact ⟨rfl,rfl,by simp [val,zo],fun _=>rfl⟩
theorem Pl.Can.qq {p:Pl} (h:p.Can):0<=p.lv/\p.lv<=4:=by
 cases p with
 | mk l n d cs=>unfold Pl.Can at h; show 0<=l/\l<=4; rcases h with h | h <;> omega
mutual
theorem Pl.zj : ∀ (p : Pl) (m : Mo) (n : Nat), p.Can -> p.lv <= n -> ∀ x ∈ p.qu m, ∀ i : Nat, n < i -> i <= 4 -> x.2.get i = m.get i
 | .mk l ng d cs,m,n,h,hl,x,hx,i,h1,h2=>by
   rw [Pl.qu] at hx;unfold Pl.Can at h
   change l<=n at hl
   by_cases h0:l<=0
   · rw [if_pos h0] at hx;rw [(pD.1 hx)]
   · rw [if_neg h0] at hx
     by_cases h4:4 < l
     · rw [if_pos h4] at hx; cases hx
     · rw [if_neg h4] at hx;rcases h with h | h
       · omega
       · exact ka6 cs m l (m.get l) n h.2.2.2.2.2.1 (by omega) (by omega) hl x hx i h1 h2
theorem ka6 : ∀ (cs : List Pl) (m : Mo) (l e : Int) (n : Nat), uq l cs -> 0 < l -> l <= 4 -> l <= n -> ∀ x ∈ xe m l e cs, ∀ i : Nat, n < i -> i <= 4 -> x.2.get i = m.get i
 | [],m,l,e,n,h,lW,ag,hl,x,hx,i,h1,h2=>by rw [xe] at hx; cases hx
 | c :: r,m,l,e,n,h,lW,ag,hl,x,hx,i,h1,h2=>by
   rw [xe] at hx;unfold uq at h;rcases pT.1 hx with hx | hx
   · obtain ⟨ln,rfl⟩:∃ ln:Nat,l=ln:=⟨l.toNat,by omega⟩;rw [Pl.zj c _ n h.2.1 (by omega) x hx i h1 h2,Mo.zr m ln e (by omega) (by omega) i (by omega) h2,if_neg (by omega)]
   · exact ka6 r m l (e+1) n h.2.2 lW ag hl x hx i h1 h2
end
theorem uao (m : Mo) (l : Nat) (lW : 0 < l) (ag : l <= 4) (k : Mo) : ∀ (cs : List Pl) (e : Int), uq l cs -> ve (xe m l e cs) k = if h : e <= k.get l /\ (k.get l - e).toNat < cs.length then ve ((cs[(k.get l - e).toNat]'h.2).qu (m.put l (k.get l))) k else 0
 | [],e,_=>by rw [xe,dif_neg (by simp)]; rfl
 | c :: r,e,h=>by
   unfold uq at h;have hz:∀ (c:Pl) (e:Int),c.lv < l->c.Can->k.get l ≠ e->ve (c.qu (m.put l e)) k=0:=by
    intro c e bY dP au;refine vad fun x hx he=>au ?_
    have:=Pl.zj c (m.put l e) (l - 1) dP (by omega) x hx l (by omega) ag;rw [he,Mo.zr m l e lW ag l lW ag,if_pos rfl] at this;exact this
   rw [xe,jao,uao m l lW ag k r (e+1) h.2.2]
   by_cases he:k.get l=e
   · rw [dif_neg (by omega),dif_pos (by constructor; omega; simp; omega)];have h0:(k.get l - e).toNat=0:=by omega
     have pG:∀ (j:Nat) (hj:j < (c :: r).length),j=0->(c :: r)[j]=c:=by intro j hj h; subst h; rfl
     rw [pG _ _ h0,he];omega
   · rw [hz c e h.1 h.2.1 he]
     by_cases af:e<=k.get l/\(k.get l - e).toNat < (c :: r).length
     · have hs:(k.get l - e).toNat=(k.get l - (e+1)).toNat+1:=by omega
       have fV:e+1<=k.get l/\(k.get l - (e+1)).toNat < r.length:=by
        have:=af.2;simp only [pH] at this;omega
       rw [dif_pos af,dif_pos fV];simp only [hs,RC];omega
     · rw [dif_neg af,dif_neg (by
        simp only [pH] at af
        omega)]
       rfl
theorem Pl.Can.kids {l:Int} {n:Bool} {d:List Nat} {cs:List Pl} (h:(Pl.mk l n d cs).Can) (hl:0 < l):n=false/\d=[]/\2<=cs.length/\uq l cs/\cs.getLast? ≠ some Pl.zero:=by
 unfold Pl.Can at h;rcases h with h | h
 · omega
 · exact h.2.2
theorem Pl.ky (m k:Mo):ve (Pl.zero.qu m) k=0:=by simp [Pl.zero,Pl.qu,ve,sgn,val]
theorem kc7 (n:Nat) (hn:n<=4):∀ (p p':Pl) (m:Mo),p.Can->p'.Can->p.lv<=n->p'.lv<=n->(∀ i:Nat,0 < i->i<=n->m.get i=0)->(∀ k,ve (p.qu m) k=ve (p'.qu m) k)->p=p':=by
 induction n with
 | zero =>
   intro p p' m h h' hl mX _ he;obtain ⟨l,ng,d,cs⟩:=p;obtain ⟨l',Oe,d',cs'⟩:=p';unfold Pl.Can at h h'
   change l<=(0:Nat) at hl
   change l'<=(0:Nat) at mX
   rcases h with ⟨rfl,rfl,hd,su⟩ | h
   · rcases h' with ⟨rfl,rfl,FK,aan⟩ | h'
     · have e1:=he m;simp only [Pl.qu,if_pos (show (0:Int)<=0 by omega),ve,if_true,paD] at e1;have hv:val d=val d':=by
        have:=congrArg Int.natAbs e1;rw [qw,qw] at this;exact this
       have nJ:d=d':=by rw [hd,hv,<- FK]
       subst nJ;have nH:ng=Oe:=by
        by_cases hz:d=[]
        · rw [su hz,aan hz]
        · have hvz:val d ≠ 0:=fun e=>hz (by rw [hd,e,zo])
          cases ng <;> cases Oe <;> first | rfl | (exfalso; simp [sgn] at e1; omega)
       rw [nH]
     · omega
   · omega
 | succ n ih =>
   have low:∀ (p p':Pl) (m:Mo),p.Can->p'.Can->p.lv<=n->p'.lv=(n+1:Nat)->(∀ i:Nat,0 < i->i<=n+1->m.get i=0)->(∀ k,ve (p.qu m) k=ve (p'.qu m) k)->False:=by
    intro p p' m h h' hl mX hm he;obtain ⟨l',Oe,d',cs'⟩:=p'
    change l'=(n+1:Nat) at mX
    subst mX;obtain ⟨-,-,hlen,fD,dW⟩:=h'.kids (by omega);have hL:cs'.length - 1 < cs'.length:=by omega
    have hc:=fD.mem cs'[cs'.length - 1] (pt hL);apply dW;rw [sI,pr hL]
    congr 1
    refine ih (by omega) _ _ (m.put (n+1:Nat) ((cs'.length - 1:Nat):Int)) hc.2 Pl.qT (by omega) (by show (0:Int)<=_; omega) (fun i h1 h2=>?_) (fun k=>?_)
    · rw [Mo.zr m (n+1) _ (by omega) (by omega) i h1 (by omega),if_neg (by omega)];exact hm i h1 (by omega)
    · rw [Pl.ky]
      by_cases hk:k.get (n+1:Nat)=((cs'.length - 1:Nat):Int)
      · have e1:=he k;rw [vad (l:=p.qu m) (fun x hx e=>by
         have:=Pl.zj p m n h hl x hx (n+1) (by omega) (by omega);rw [e,hm (n+1) (by omega) (by omega),hk] at this
         omega)] at e1
        rw [Pl.qu,if_neg (by omega),if_neg (by omega),hm (n+1) (by omega) (by omega),uao m (n+1) (by omega) (by omega) k cs' 0 fD,dif_pos (by omega)] at e1;have hi:(k.get (n+1:Nat) - 0).toNat=cs'.length - 1:=by omega
        have pG:∀ (j:Nat) (hj:j < cs'.length),j=cs'.length - 1->cs'[j]=cs'[cs'.length - 1]:=by intro j hj h; subst h; rfl
        rw [pG _ _ hi] at e1;rw [<- hk];exact e1.symm
      · refine vad fun x hx e=>hk ?_
        have:=Pl.zj cs'[cs'.length - 1] _ n hc.2 (by omega) x hx (n+1) (by omega) (by omega);rw [e,Mo.zr m (n+1) _ (by omega) (by omega) (n+1) (by omega) (by omega),if_pos rfl] at this;exact this
   intro p p' m h h' hl mX hm he
   by_cases hp:p.lv=(n+1:Nat)
   · by_cases Kr:p'.lv=(n+1:Nat)
     · obtain ⟨l,ng,d,cs⟩:=p;obtain ⟨l',Oe,d',cs'⟩:=p'
       change l=(n+1:Nat) at hp
       change l'=(n+1:Nat) at Kr
       subst hp Kr;obtain ⟨rfl,rfl,hlen,fD,dW⟩:=h.kids (by omega);obtain ⟨rfl,rfl,Si,yX,KE⟩:=h'.kids (by omega);have hg:m.get (n+1:Nat)=0:=hm (n+1) (by omega) (by omega);have vJ:∀ k,ve (xe m (n+1:Nat) 0 cs) k=ve (xe m (n+1:Nat) 0 cs') k:=by
        intro k;have:=he k;rw [Pl.qu,if_neg (by omega),if_neg (by omega),Pl.qu,if_neg (by omega),if_neg (by omega),hg] at this;exact this
       have pg:∀ (i:Nat) (e:Int),0 < i->i<=n->(m.put (n+1:Nat) e).get i=0:=fun i e h1 h2=>by
        rw [Mo.zr m (n+1) _ (by omega) (by omega) i h1 (by omega),if_neg (by omega)];exact hm i h1 (by omega)
       have Kt:∀ (c:Pl) (e:Int) (k:Mo),c.Can->c.lv < (n+1:Nat)->k.get (n+1:Nat) ≠ e->ve (c.qu (m.put (n+1:Nat) e)) k=0:=by
        intro c e k bY dP au;refine vad fun x hx he'=>au ?_
        have:=Pl.zj c _ n bY (by omega) x hx (n+1) (by omega) (by omega);rw [he',Mo.zr m (n+1) _ (by omega) (by omega) (n+1) (by omega) (by omega),if_pos rfl] at this;exact this
       have qA:∀ (cs:List Pl) (i:Nat) (hi:i < cs.length) (k:Mo),uq (n+1:Nat) cs->k.get (n+1:Nat)=(i:Int)->ve (xe m (n+1:Nat) 0 cs) k=ve (cs[i].qu (m.put (n+1:Nat) (i:Int))) k:=by
        intro cs i hi k fD hk;rw [uao m (n+1) (by omega) (by omega) k cs 0 fD,dif_pos (by omega)];have jG:(k.get (n+1:Nat) - 0).toNat=i:=by omega
        have pG:∀ (j:Nat) (hj:j < cs.length),j=i->cs[j]=cs[i]:=by intro j hj h; subst h; rfl
        rw [pG _ _ jG,hk]
       have Xj:∀ (cs:List Pl) (i:Nat) (k:Mo),cs.length<=i->uq (n+1:Nat) cs->k.get (n+1:Nat)=(i:Int)->ve (xe m (n+1:Nat) 0 cs) k=0:=by
        intro cs i k hi fD hk;rw [uao m (n+1) (by omega) (by omega) k cs 0 fD,dif_neg (by omega)]
       have nol:∀ (cs cs':List Pl),uq (n+1:Nat) cs->uq (n+1:Nat) cs'->2<=cs.length->cs.getLast? ≠ some Pl.zero->(∀ k,ve (xe m (n+1:Nat) 0 cs) k=ve (xe m (n+1:Nat) 0 cs') k)->cs.length<=cs'.length:=by
        intro cs cs' fD yX hlen dW vJ;rcases tM cs'.length cs.length with af | oL
        · exfalso
          apply dW;have hL:cs.length - 1 < cs.length:=by omega
          rw [sI,pr hL]
          congr 1
          have hc:=fD.mem cs[cs.length - 1] (pt hL);refine ih (by omega) _ _ (m.put (n+1:Nat) ((cs.length - 1:Nat):Int)) hc.2 Pl.qT (by omega) (by show (0:Int)<=_; omega) (fun i h1 h2=>pg i _ h1 h2) (fun k=>?_);rw [Pl.ky]
          by_cases hk:k.get (n+1:Nat)=((cs.length - 1:Nat):Int)
          · rw [<- qA cs (cs.length - 1) hL k fD hk,vJ k];exact Xj cs' _ k (by omega) yX hk
          · exact Kt _ _ k hc.2 hc.1 hk
        · exact oL
       have qN:cs.length=cs'.length:=Nat.le_antisymm (nol cs cs' fD yX hlen dW vJ) (nol cs' cs yX fD Si KE (fun k=>(vJ k).symm));have kV:cs=cs':=by
        refine sT qN fun i hi jG=>?_
        have hc:=fD.mem cs[i] (pt hi);have lD:=yX.mem cs'[i] (pt jG);refine ih (by omega) _ _ (m.put (n+1:Nat) (i:Int)) hc.2 lD.2 (by omega) (by omega) (fun j h1 h2=>pg j _ h1 h2) (fun k=>?_)
        by_cases hk:k.get (n+1:Nat)=(i:Int)
        · rw [<- qA cs i hi k fD hk,<- qA cs' i jG k yX hk]; exact vJ k
        · rw [Kt _ _ k hc.2 hc.1 hk,Kt _ _ k lD.2 lD.1 hk]
       rw [kV]
     · exact (low p' p m h' h (by omega) hp hm (fun k=>(he k).symm)).elim
   · by_cases Kr:p'.lv=(n+1:Nat)
     · exact (low p p' m h h' (by omega) Kr hm he).elim
     · exact ih (by omega) p p' m h h' (by omega) (by omega) (fun i h1 h2=>hm i h1 (by omega)) he
theorem Pl.Kn {p p':Pl} (h:p.Can) (h':p'.Can) (he:∀ k,ve (p.qu Mo.one) k=ve (p'.qu Mo.one) k):p=p':=
 kc7 4 (pj _) p p' Mo.one h h' h.qq.2 h'.qq.2 (fun i h1 h2=>by
  rcases (show i=1\/i=2\/i=3\/i=4 by omega) with rfl | rfl | rfl | rfl <;> rfl) he
theorem qp (z:Int):(Pl.const z).Can:=by
 unfold Pl.const Pl.Can
 left
 refine ⟨rfl,rfl,by rw [jg],fun h=>?_⟩;have:z.natAbs=0:=by
  have h1:(dg z.natAbs).length=0:=by rw [h]; rfl
  exact ja2 h1
 have hz:z=0:=by omega
 rw [hz]; rfl
theorem waf {l : Int} : ∀ {cs : List Pl}, (∀ c ∈ cs, c.lv < l /\ c.Can) -> uq l cs
 | [],_=>by unfold uq; trivial
 | c :: r,h=>by
   unfold uq;exact ⟨(h c (by simp)).1,(h c (by simp)).2,waf (fun x hx=>h x (by simp [hx]))⟩
theorem kcf (n:Nat) (hn:n<=4):∀ (l:Sp) (m:Mo),zq l->(∀ x ∈ l,x.2.qe)->gbb n m l->(∀ i:Nat,0 < i->i<=n->m.get i=0)->(bld n l).Can/\(bld n l).lv<=n:=by
 induction n with
 | zero =>
   intro l m hl nH ha hz;cases l with
   | nil=>rw [bld]; exact ⟨Pl.qT,by show (0:Int)<=_; omega⟩
   | cons x r=>obtain ⟨c,m'⟩:=x; rw [bld]; exact ⟨qp c,by show (0:Int)<=_; omega⟩
 | succ n ih =>
   intro l m hl nH ha hz;cases l with
   | nil=>rw [bld]; exact ⟨Pl.qT,by show (0:Int)<=_; omega⟩
   | cons x r =>
     obtain ⟨c,m'⟩:=x;have ER:∀ y ∈ ((c,m') :: r:Sp),y.2.get (n+1:Nat)<=m'.get (n+1:Nat):=by
      intro y hy;rcases pN.1 hy with rfl | Zx
      · exact uv _
      · exact Mo.Kj (by omega) (by omega) (hl.2.1 y Zx) (fun i h1 h2=>(ha y hy i (by omega) h2).trans (ha (c,m') (by simp) i (by omega) h2).symm)
     have kT:∀ y ∈ ((c,m') :: r:Sp),0<=y.2.get (n+1:Nat):=by
      intro y hy;have:=nH y hy;unfold Mo.qe at this;unfold Mo.get
      split <;> (try split) <;> (try split) <;> omega
     rw [bld]
     by_cases h0:m'.get (n+1:Nat)=0
     · rw [if_pos h0];obtain ⟨h1,h2⟩:=ih (by omega) _ m hl nH (fun y hy i h1 h2=>by
        by_cases hi:i=n+1
        · subst hi;rw [hz (n+1) (by omega) (by omega)];have h1:=ER y hy;have h2:=kT y hy;omega
        · exact ha y hy i (by omega) h2) (fun i h1 h2=>hz i h1 (by omega))
       exact ⟨h1,by omega⟩
     · rw [if_neg h0];have dw:0 < m'.get (n+1:Nat):=by have:=kT (c,m') (by simp); simp only at this; omega
       have Ho:∀ i:Nat,zq (((c,m') :: r).filter fun x=>decide (x.2.get (n+1:Nat)=Int.ofNat i))/\(∀ x ∈ (((c,m') :: r).filter fun x=>decide (x.2.get (n+1:Nat)=Int.ofNat i)),x.2.qe)/\gbb n (m.put (n+1:Nat) (i:Int)) (((c,m') :: r).filter fun x=>decide (x.2.get (n+1:Nat)=Int.ofNat i))/\(∀ j:Nat,0 < j->j<=n->(m.put (n+1:Nat) (i:Int)).get j=0):=by
        intro i;refine ⟨hl.filter _,fun x hx=>nH x (sw.1 hx).1,fun x hx j h1 h2=>?_,fun j h1 h2=>?_⟩
        · obtain ⟨hx1,aN⟩:=sw.1 hx;rw [Mo.zr m (n+1) _ (by omega) (by omega) j (by omega) h2]
          by_cases hj:j=n+1
          · rw [if_pos hj,hj]; simpa using aN
          · rw [if_neg hj]; exact ha x hx1 j (by omega) h2
        · rw [Mo.zr m (n+1) _ (by omega) (by omega) j h1 (by omega),if_neg (by omega)];exact hz j h1 (by omega)
       refine ⟨?_,by show ((n+1:Nat):Int)<=_; omega⟩;unfold Pl.Can
       right
       refine ⟨by omega,by omega,rfl,rfl,by rw [pw,tt]; omega,waf (fun x hx=>?_),?_⟩
       · obtain ⟨i,-,rfl⟩:=pS.1 hx;obtain ⟨q1,q2,q3,q4⟩:=Ho i;obtain ⟨h1,h2⟩:=ih (by omega) _ _ q1 q2 q3 q4;exact ⟨by omega,h1⟩
       · rw [T8,List.getLast?_range];rw [if_neg (by omega)];simp only [paO,uR,ne_eq,T7];intro e;obtain ⟨q1,q2,q3,q4⟩:=Ho (m'.get (n+1:Nat)).toNat;have vJ:=jbi n (by omega) _ _ q1 q2 q3 q4 m';rw [e,Pl.ky] at vJ;have Tc:(((c,m') :: r).filter fun x=>decide (x.2.get (n+1:Nat)=Int.ofNat (m'.get (n+1:Nat)).toNat))=(c,m') :: (r.filter fun x=>decide (x.2.get (n+1:Nat)=Int.ofNat (m'.get (n+1:Nat)).toNat)):=by
          rw [rR,if_pos];simp only [decide_eq_true_eq,Rb];omega
         rw [Tc] at vJ q1;rw [(qao q1).1] at vJ;exact hl.1 vJ.symm
theorem gbp {l:Sp} (h:zq l) (hn:∀ x ∈ l,x.2.qe):(bld 4 l).Can/\∀ k,ve ((bld 4 l).qu Mo.one) k=ve l k:=by
 have hz:∀ i:Nat,0 < i->i<=4->Mo.one.get i=0:=fun i h1 h2=>by
  rcases (show i=1\/i=2\/i=3\/i=4 by omega) with rfl | rfl | rfl | rfl <;> rfl
 have ha:gbb 4 Mo.one l:=fun x _ i h1 h2=>by omega
 exact ⟨(kcf 4 (pj _) l _ h hn ha hz).1,jbi 4 (pj _) l _ h hn ha hz⟩
def Pl.zp (p:Pl):Bool:=decide (p.lv=0) && decide (p.ds.length=0)
mutual
def Pl.xL : Pl -> Bool
 | .mk l n d cs=>if l=0 then (if 0 < cs.length then false else (decide (d.length=0) && !n) || (decide (0 < d.length) && decide (d.getLast? ≠ some 0)))
   else if (l < 1\/4 < l)\/0 < d.length\/n=true\/cs.length < 2 then false
   else uak l cs && (match cs.getLast? with
    | some c=>!c.zp
    | none=>true)
def uak (l : Int) : List Pl -> Bool
 | []=>true
 | c :: r=>decide (c.lv < l) && c.xL && uak l r
end
mutual
def Pl.dig : Pl -> Prop
 | .mk _ _ d cs=>ug d/\jau cs
def jau : List Pl -> Prop
 | []=>True
 | c :: r=>c.dig/\jau r
end
theorem jcl {d:List Nat} (hd:ug d) (h0:0 < d.length):d=dg (val d) ↔ d.getLast? ≠ some 0:=by
 rw [gbm hd];obtain ⟨k,hk⟩:∃ k,d.length=k+1:=⟨d.length - 1,by omega⟩;have hl:d.getLast?=some (d.getD k 0):=by
  rw [sI,po,hk,uR,pr (by omega)]; rfl
 have ht:d=d.take (xad d d.length) ↔ xad d d.length=d.length:=by
  constructor
  · intro h;have:=congrArg List.length h;rw [pA] at this;have:=zaq d d.length;omega
  · intro h; rw [h,pQ]
 rw [ht,hl,hk,xad]
 by_cases h:d.getD k 0=0
 · rw [if_pos h,h];have:=zaq d k
   constructor
   · intro e; omega
   · intro e; exact absurd rfl e
 · rw [if_neg h];simpa using h
theorem Pl.xj {p:Pl} (h:p.Can):p.zp=true ↔ p=Pl.zero:=by
 cases p with
 | mk l n d cs =>
   unfold Pl.Can at h;unfold Pl.zp Pl.zero;show (decide (l=0) && decide (d.length=0))=true ↔ _;rw [Rs,decide_eq_true_eq,decide_eq_true_eq,pbk,Pl.mk.injEq]
   constructor
   · rintro ⟨h1,h2⟩;rcases h with h | h
     · exact ⟨h1,h.2.2.2 h2,h2,h.2.1⟩
     · omega
   · rintro ⟨h1,-,h2,-⟩; exact ⟨h1,h2⟩
mutual
theorem Pl.kg : ∀ p : Pl, p.dig -> (p.xL = true ↔ p.Can)
 | .mk l n d cs,hd=>by
   rw [Pl.dig] at hd;have fD:=ubd cs;rw [Pl.xL,Pl.Can]
   by_cases h0:l=0
   · rw [if_pos h0]
     by_cases hc:0 < cs.length
     · rw [if_pos hc]
       constructor
       · intro h; cases h
       · intro h;rcases h with ⟨-,h,-⟩ | h
         · subst h; cases hc
         · omega
     · rw [if_neg hc];have hce:cs=[]:=rT (by omega);simp only [Bool.or_eq_true,Rs,decide_eq_true_eq,Bool.not_eq_true',pbk]
       by_cases qC:0 < d.length
       · have wW:d ≠ []:=by intro e; subst e; cases qC
         have:=jcl hd.1 qC
         constructor
         · rintro (⟨h,-⟩ | ⟨-,h⟩)
           · exact absurd h wW
           · exact .inl ⟨h0,hce,this.2 h,fun e=>absurd e wW⟩
         · rintro (h | h)
           · exact .inr ⟨qC,this.1 h.2.2.1⟩
           · omega
       · have wW:d=[]:=rT (by omega)
         constructor
         · rintro (⟨-,h⟩ | ⟨h,-⟩)
           · exact .inl ⟨h0,hce,by rw [wW]; simp [val,zo],fun _=>h⟩
           · omega
         · rintro (h | h)
           · exact .inl ⟨wW,h.2.2.2 wW⟩
           · omega
   · rw [if_neg h0]
     by_cases h1:(l < 1\/4 < l)\/0 < d.length\/n=true\/cs.length < 2
     · rw [if_pos h1]
       constructor
       · intro h; cases h
       · rintro (h | ⟨h2,h3,h4,h5,h6,-⟩)
         · exact absurd h.1 h0
         · subst h4 h5;simp at h1; omega
     · rw [if_neg h1];have h2:1<=l/\l<=4/\d.length=0/\n=false/\2<=cs.length:=by
        have hn:¬ n=true:=fun e=>h1 (.inr (.inr (.inl e)))
        refine ⟨?_,?_,?_,by simpa using hn,?_⟩ <;> omega
       have hl:cs.getLast?=some cs[cs.length - 1]:=by rw [sI,pr (by omega)]
       rw [hl];simp only [Rs,Bool.not_eq_true']
       constructor
       · rintro ⟨ha,hb⟩;have hk:=(fD l hd.2).1 ha;refine .inr ⟨h2.1,h2.2.1,h2.2.2.2.1,rT h2.2.2.1,h2.2.2.2.2,hk,?_⟩;intro e;have:=(Pl.xj (hk.mem _ (pt (by omega:cs.length - 1 < cs.length))).2).2 (Option.some.inj e);rw [this] at hb; cases hb
       · rintro (h | ⟨-,-,-,-,-,hk,au⟩)
         · exact absurd h.1 h0
         · refine ⟨(fD l hd.2).2 hk,?_⟩;rw [S6];intro e;exact au (congrArg some ((Pl.xj (hk.mem _ (pt (by omega:cs.length - 1 < cs.length))).2).1 e))
theorem ubd : ∀ (cs : List Pl) (l : Int), jau cs -> (uak l cs = true ↔ uq l cs)
 | [],l,_=>by rw [uak,uq]; simp
 | c :: r,l,hd=>by
   rw [jau] at hd;rw [uak,uq,Rs,Rs,Pl.kg c hd.1,ubd r l hd.2,decide_eq_true_eq,and_assoc]
end
theorem ka0 (l : Int) : ∀ cs : List Pl, uak l cs = cs.all fun c => decide (c.lv < l) && c.xL
 | []=>rfl
 | c :: r=>by rw [uak,ka0 l r,List.all_cons]
theorem Pl.Vi {l:Int} {n:Bool} {d:List Nat} {cs:List Pl} {c:Pl} (hl:l ≠ 0) (hc:c ∈ cs) (h:l<=c.lv\/c.xL=false):(Pl.mk l n d cs).xL=false:=by
 rw [Pl.xL,if_neg hl]
 split
 · rfl
 · have:uak l cs=false:=by
    rw [ka0,List.all_eq_false];refine ⟨c,hc,?_⟩;rcases h with h | h
    · simp; intro h2; omega
    · simp [h]
   rw [this]; rfl
theorem Pl.Vc {l:Int} {n:Bool} {d:List Nat} {cs:List Pl} (hl:l ≠ 0) (hg:¬ ((l < 1\/4 < l)\/0 < d.length\/n=true\/cs.length < 2)) (h:∀ c ∈ cs,c.lv < l/\c.xL=true) (hn:0 < cs.length):(Pl.mk l n d cs).xL=!(cs[cs.length - 1]).zp:=by
 rw [Pl.xL,if_neg hl,if_neg hg];have h1:uak l cs=true:=by
  rw [ka0,List.all_eq_true];intro c hc;simp [h c hc]
 rw [h1,sI,pr (by omega)]
 rfl
def zao (c : Int) (m : Mo) : Sp -> Sp
 | []=>if c=0 then [] else [(c,m)]
 | (d,n) :: r=>if n.lt m then (if c=0 then (d,n) :: r else (c,m) :: (d,n) :: r) else if m=n then (if c+d=0 then r else (c+d,n) :: r) else (d,n) :: zao c m r
theorem xcp (c:Int) (m:Mo) (l:Sp) (k:Mo):ve (zao c m l) k=(if m=k then c else 0)+ve l k:=by
 induction l with
 | nil =>
   unfold zao
   by_cases h:c=0
   · rw [if_pos h,h]; simp [ve]
   · rw [if_neg h]; simp [ve]
 | cons x r ih =>
   obtain ⟨d,n⟩:=x;unfold zao
   by_cases h1:n.lt m
   · rw [if_pos h1]
     by_cases h:c=0
     · rw [if_pos h,h]; simp
     · rw [if_neg h]; simp [ve]
   · rw [if_neg h1]
     by_cases h2:m=n
     · rw [if_pos h2]; subst h2
       by_cases h:c+d=0
       · rw [if_pos h]; simp only [ve]; split <;> omega
       · rw [if_neg h]; simp only [ve]; split <;> omega
     · rw [if_neg h2]; simp only [ve,ih]; omega
theorem ubf {c:Int} {m:Mo} {l:Sp} {x:Int × Mo} (h:x ∈ zao c m l):x.2=m\/∃ y ∈ l,y.2=x.2:=by
 induction l with
 | nil =>
   unfold zao at h
   split at h
   · cases h
   · left; rw [pD.1 h]
 | cons y r ih =>
   obtain ⟨d,n⟩:=y;unfold zao at h
   split at h
   · split at h
     · exact .inr ⟨x,h,rfl⟩
     · rcases pN.1 h with rfl | h
       · exact .inl rfl
       · exact .inr ⟨x,h,rfl⟩
   · split at h
     · split at h
       · exact .inr ⟨x,rr _ h,rfl⟩
       · rcases pN.1 h with rfl | h
         · exact .inr ⟨_,rS,rfl⟩
         · exact .inr ⟨x,rr _ h,rfl⟩
     · rcases pN.1 h with rfl | h
       · exact .inr ⟨_,rS,rfl⟩
       · rcases ih h with h | ⟨y,hy,e⟩
         · exact .inl h
         · exact .inr ⟨y,rr _ hy,e⟩
theorem gcy (c:Int) (m:Mo) (l:Sp) (h:zq l):zq (zao c m l):=by
 induction l with
 | nil =>
   unfold zao
   split
   · exact trivial
   · rename_i hc; exact ⟨hc,fun _ hx=>(by cases hx),trivial⟩
 | cons x r ih =>
   obtain ⟨d,n⟩:=x;obtain ⟨h1,h2,h3⟩:=h;unfold zao
   split
   · rename_i af
     split
     · exact ⟨h1,h2,h3⟩
     · rename_i hc;refine ⟨hc,fun y hy=>?_,h1,h2,h3⟩;rcases pN.1 hy with rfl | hy
       · exact af
       · exact Mo.lt_trans (h2 y hy) af
   · rename_i af
     split
     · rename_i he
       split
       · exact h3
       · rename_i hc; exact ⟨hc,h2,h3⟩
     · rename_i au;refine ⟨h1,fun y hy=>?_,ih h3⟩;rcases ubf hy with e | ⟨z,hz,e⟩
       · rw [e];rcases Mo.qbH m n with h | h | h
         · exact h
         · exact absurd h au
         · exact absurd h af
       · rw [<- e]; exact h2 z hz
def qg : Sp -> Sp
 | []=>[]
 | (c,m) :: r=>if m.qe then zao c m (qg r) else qg r
theorem kaa (l:Sp):zq (qg l):=by
 induction l with
 | nil=>exact trivial
 | cons x r ih =>
   obtain ⟨c,m⟩:=x;unfold qg
   split
   · exact gcy _ _ _ ih
   · exact ih
theorem gan (l:Sp) (k:Mo):ve (qg l) k=if k.qe then ve l k else 0:=by
 induction l with
 | nil=>simp [qg,ve]
 | cons x r ih =>
   obtain ⟨c,m⟩:=x;unfold qg
   by_cases hm:m.qe
   · rw [if_pos hm,xcp,ih]
     by_cases hk:k.qe
     · rw [if_pos hk,if_pos hk]; simp only [ve]
     · rw [if_neg hk,if_neg hk,if_neg (fun (e:m=k)=>hk (e ▸ hm))]; rfl
   · rw [if_neg hm,ih]
     by_cases hk:k.qe
     · rw [if_pos hk,if_pos hk]; simp only [ve]; rw [if_neg (fun (e:m=k)=>hm (e ▸ hk))]; omega
     · rw [if_neg hk,if_neg hk]
theorem ww {l:Sp} {x:Int × Mo} (h:x ∈ qg l):x.2.qe/\∃ y ∈ l,y.2=x.2:=by
 induction l with
 | nil=>cases h
 | cons y r ih =>
   obtain ⟨c,m⟩:=y;unfold qg at h
   split at h
   · rename_i hm;rcases ubf h with e | ⟨z,hz,e⟩
     · exact ⟨by rw [e]; exact hm,_,rS,e.symm⟩
     · suffices z.2.qe/\∃ y ∈ r,y.2=z.2 by
        obtain ⟨a,y,hy,e'⟩:=this;exact ⟨by rw [<- e]; exact a,y,rr _ hy,e'.trans e⟩
       clear ih h
       induction r generalizing z with
       | nil=>cases hz
       | cons y r ih =>
         obtain ⟨c',m'⟩:=y;unfold qg at hz
         split at hz
         · rename_i hm';rcases ubf hz with e1 | ⟨z',lI,e1⟩
           · exact ⟨by rw [e1]; exact hm',_,rS,e1.symm⟩
           · obtain ⟨a,y,hy,e'⟩:=ih z' lI (e1.trans e);exact ⟨by rw [<- e1]; exact a,y,rr _ hy,e'.trans e1⟩
         · obtain ⟨a,y,hy,e'⟩:=ih z hz e;exact ⟨a,y,rr _ hy,e'⟩
   · obtain ⟨a,y,hy,e⟩:=ih h;exact ⟨a,y,rr _ hy,e⟩
theorem gae {l:Sp} (h:∀ x ∈ l,x.2.qe) (k:Mo):ve (qg l) k=ve l k:=by
 rw [gan]
 by_cases hk:k.qe
 · rw [if_pos hk]
 · rw [if_neg hk,vad fun x hx (e:x.2=k)=>hk (e ▸ h x hx)]
theorem xa7 {l:Sp} (h:zq l) (hn:∀ x ∈ l,x.2.qe):qg l=l:=zq.uniq _ _ (kaa l) h (gae hn)
theorem xbc {l l':Sp} (h:∀ k,k.qe->ve l k=ve l' k):qg l=qg l':=zq.uniq _ _ (kaa l) (kaa l') fun k=>by
 rw [gan,gan]
 by_cases hk:k.qe
 · rw [if_pos hk,if_pos hk,h k hk]
 · rw [if_neg hk,if_neg hk]
theorem jcy {l l':Sp} (hc:zq l') (hn:∀ x ∈ l',x.2.qe) (h:∀ k,k.qe->ve l' k=ve l k):l'=qg l:=by
 rw [<- xa7 hc hn]; exact xbc h
def zg : Sp -> Nat
 | []=>0
 | (c,_) :: r=>c.natAbs+zg r
theorem yaj (l r:Sp):zg (l ++ r)=zg l+zg r:=by
 induction l with
 | nil=>simp [zg]
 | cons x l ih=>obtain ⟨c,m⟩:=x; simp only [rI,zg,ih]; omega
theorem ucy (c:Int) (m:Mo) (l:Sp):zg (zao c m l)<=c.natAbs+zg l:=by
 induction l with
 | nil=>unfold zao; split <;> simp [zg]
 | cons x r ih =>
   obtain ⟨d,n⟩:=x;unfold zao
   split
   · split <;> simp only [zg] <;> omega
   · split
     · split <;> simp only [zg] <;> omega
     · simp only [zg]; omega
theorem qa7 (l:Sp):zg (qg l)<=zg l:=by
 induction l with
 | nil=>exact pj _
 | cons x r ih =>
   obtain ⟨c,m⟩:=x;unfold qg;have:=ucy c m (qg r)
   split <;> simp only [zg] <;> omega
theorem qbf {l:Sp} {x:Int × Mo} (h:x ∈ l):x.1.natAbs<=zg l:=by
 induction l with
 | nil=>cases h
 | cons y r ih =>
   obtain ⟨c,m⟩:=y;rcases pN.1 h with rfl | h
   · simp only [zg]; omega
   · have:=ih h; simp only [zg]; omega
theorem wb7 (f:Int × Mo->Bool) (l:Sp):zg (l.filter f)<=zg l:=by
 induction l with
 | nil=>exact pj _
 | cons x r ih =>
   obtain ⟨c,m⟩:=x;rw [rR]
   split <;> simp only [zg] <;> omega
def Pl.j8 (l:Sp):Pl:=bld 4 (qg l)
def Pl.nf (p:Pl):Pl:=Pl.j8 (p.qu Mo.one)
theorem Pl.jj (l:Sp):(Pl.j8 l).Can:=(gbp (kaa l) (fun _ hx=>(ww hx).1)).1
theorem Pl.Kb (l:Sp) (k:Mo):ve ((Pl.j8 l).qu Mo.one) k=if k.qe then ve l k else 0:=
 ((gbp (kaa l) (fun _ hx=>(ww hx).1)).2 k).trans (gan l k)
theorem Mo.yv {m:Mo} {i e:Int} (h:m.qe) (he:0<=e):(m.put i e).qe:=by
 unfold Mo.qe at *; unfold Mo.put; split <;> (try split) <;> (try split) <;> simp_all
theorem Mo.one_nonneg:Mo.one.qe:=by unfold Mo.qe Mo.one; simp
theorem Mo.jN {m:Mo} (h:m.qe) (i:Int):0<=m.get i:=by
 unfold Mo.qe at h; unfold Mo.get; split <;> (try split) <;> (try split) <;> omega
mutual
theorem Pl.kl : ∀ (p : Pl) (m : Mo), m.qe -> ∀ x ∈ p.qu m, x.2.qe
 | .mk l n d cs,m,hm,x,hx=>by
   rw [Pl.qu] at hx
   split at hx
   · rw [pD.1 hx]; exact hm
   · split at hx
     · cases hx
     · exact ja1 cs m l (m.get l) hm (Mo.jN hm l) x hx
theorem ja1 : ∀ (cs : List Pl) (m : Mo) (l e : Int), m.qe -> 0 <= e -> ∀ x ∈ xe m l e cs, x.2.qe
 | [],m,l,e,hm,he,x,hx=>by rw [xe] at hx; cases hx
 | c :: r,m,l,e,hm,he,x,hx=>by
   rw [xe] at hx;rcases pT.1 hx with hx | hx
   · exact Pl.kl c _ (Mo.yv hm he) x hx
   · exact ja1 r m l (e+1) hm (by omega) x hx
end
theorem Pl.qz (p:Pl):∀ x ∈ p.qu Mo.one,x.2.qe:=Pl.kl p _ Mo.one_nonneg
theorem Pl.xV (p:Pl):p.nf.Can:=Pl.jj _
theorem Pl.KK (p:Pl) (k:Mo):ve (p.nf.qu Mo.one) k=ve (p.qu Mo.one) k:=
 ((gbp (kaa _) (fun _ hx=>(ww hx).1)).2 k).trans (gae p.qz k)
theorem Pl.q7 {p:Pl} (h:p.Can):p.nf=p:=Pl.Kn p.xV h p.KK
theorem Pl.jt (ρ:Int->Rat) (p:Pl):p.nf.val ρ=p.val ρ:=Pl.Vv ρ p.KK
mutual
def Pl.sz : Pl -> Nat
 | .mk _ _ _ cs=>vk cs+1
def vk : List Pl -> Nat
 | []=>0
 | c :: r=>c.sz+vk r
end
mutual
def Pl.dm : Pl -> Nat
 | .mk _ _ d cs=>max d.length (jy cs)
def jy : List Pl -> Nat
 | []=>0
 | c :: r=>max c.dm (jy r)
end
theorem xam {cs:List Pl} {c:Pl} (h:c ∈ cs):c.sz<=vk cs:=by
 induction cs with
 | nil=>cases h
 | cons x r ih =>
   rcases pN.1 h with rfl | h
   · unfold vk; omega
   · have:=ih h; unfold vk; omega
theorem Pl.jn {p c:Pl} (h:c ∈ p.cs):c.sz < p.sz:=by
 cases p with
 | mk l n d cs =>
   have h1:c.sz<=vk cs:=xam (cs:=cs) h;have h2:(Pl.mk l n d cs).sz=vk cs+1:=by rw [Pl.sz]
   omega
theorem gad (cs:List Pl):cs.length<=vk cs:=by
 induction cs with
 | nil=>exact pj _
 | cons x r ih=>cases x; unfold vk Pl.sz; simp only [pH]; omega
theorem Pl.kj (p:Pl):p.cs.length < p.sz:=by
 cases p with
 | mk l n d cs =>
   have h1:=gad cs;have h2:(Pl.mk l n d cs).sz=vk cs+1:=by rw [Pl.sz]
   have h3:(Pl.mk l n d cs).cs=cs:=rfl;rw [h3]; omega
theorem kb9 (a b:List Pl):vk (a ++ b)=vk a+vk b:=by
 induction a with
 | nil=>simp [vk]
 | cons x r ih=>simp only [rI,vk,ih]; omega
theorem qcr (l:List Pl) (k:Nat) (h:k < l.length):vk (l.drop k)=l[k].sz+vk (l.drop (k+1)):=by
 rw [sh h]; simp only [vk]
theorem vaq {cs:List Pl} {c:Pl} (h:c ∈ cs):c.dm<=jy cs:=by
 induction cs with
 | nil=>cases h
 | cons x r ih =>
   rcases pN.1 h with rfl | h
   · unfold jy; omega
   · have:=ih h; unfold jy; omega
theorem Pl.qbB {p c:Pl} (h:c ∈ p.cs):c.dm<=p.dm:=by
 cases p with
 | mk l n d cs =>
   have h1:c.dm<=jy cs:=vaq (cs:=cs) h;have h2:(Pl.mk l n d cs).dm=max d.length (jy cs):=by rw [Pl.dm]
   omega
theorem Pl.vd (p:Pl):p.ds.length<=p.dm:=by
 cases p with
 | mk l n d cs =>
   have h2:(Pl.mk l n d cs).dm=max d.length (jy cs):=by rw [Pl.dm]
   have h3:(Pl.mk l n d cs).ds=d:=rfl;rw [h3]; omega
mutual
theorem Pl.kA : ∀ (p : Pl) (m : Mo), (p.qu m).length <= p.sz
 | .mk l n d cs,m=>by
   rw [Pl.qu,Pl.sz]
   split
   · simp
   · split
     · simp
     · have:=xaj cs m l (m.get l); omega
theorem xaj : ∀ (cs : List Pl) (m : Mo) (l e : Int), (xe m l e cs).length <= vk cs
 | [],m,l,e=>by rw [xe]; simp
 | c :: r,m,l,e=>by
   rw [xe,rh,vk];have:=Pl.kA c (m.put l e);have:=xaj r m l (e+1);omega
end
theorem Mo.qaY {m:Mo} {l e E:Int} (h:m.a<=E/\m.b<=E/\m.c<=E/\m.d<=E) (he:e<=E):(m.put l e).a<=E/\(m.put l e).b<=E/\(m.put l e).c<=E/\(m.put l e).d<=E:=by
 unfold Mo.put; split <;> (try split) <;> (try split) <;> simp_all
def Mo.le (m:Mo) (E:Int):Prop:=m.a<=E/\m.b<=E/\m.c<=E/\m.d<=E
theorem Mo.le.get {m:Mo} {E:Int} (h:m.le E) (i:Int):m.get i<=E:=by
 unfold Mo.le at h; unfold Mo.get; split <;> (try split) <;> (try split) <;> omega
theorem Mo.le.put {m:Mo} {E:Int} (h:m.le E) (l e:Int) (he:e<=E):(m.put l e).le E:=Mo.qaY h he
theorem Mo.le.mono {m:Mo} {E E':Int} (h:m.le E) (he:E<=E'):m.le E':=by unfold Mo.le at *; omega
theorem Mo.one_le:Mo.one.le 0:=by unfold Mo.le Mo.one; simp
mutual
theorem Pl.J0 : ∀ (p : Pl) (m : Mo) (E : Int), m.le E -> ∀ x ∈ p.qu m, x.2.le (E + p.sz)
 | .mk l n d cs,m,E,hm,x,hx=>by
   rw [Pl.qu] at hx
   split at hx
   · rw [pD.1 hx]; exact hm.mono (by omega)
   · split at hx
     · cases hx
     · have:=wbk cs m l (m.get l) E hm (hm.get l) x hx;refine this.mono ?_;rw [Pl.sz]; omega
theorem wbk : ∀ (cs : List Pl) (m : Mo) (l e E : Int), m.le E -> e <= E -> ∀ x ∈ xe m l e cs, x.2.le (E + vk cs)
 | [],m,l,e,E,hm,he,x,hx=>by rw [xe] at hx; cases hx
 | c :: r,m,l,e,E,hm,he,x,hx=>by
   rw [xe] at hx;rcases pT.1 hx with hx | hx
   · refine (Pl.J0 c _ E (hm.put l e he) x hx).mono ?_;rw [vk]; omega
   · refine (wbk r m l (e+1) (E+1) (hm.mono (by omega)) (by omega) x hx).mono ?_;have:1<=c.sz:=by cases c; rw [Pl.sz]; omega
     rw [vk]; omega
end
mutual
theorem Pl.Qt : ∀ (p : Pl) (m : Mo) (L : Nat), p.dm <= L -> p.dig -> zg (p.qu m) <= p.sz * B32 ^ L
 | .mk l n d cs,m,L,hL,hd=>by
   rw [Pl.dm] at hL;rw [Pl.dig] at hd;rw [Pl.qu,Pl.sz,r5,tr]
   split
   · simp only [zg,qw];have h1:=wz hd.1;have h2:B32 ^ d.length<=B32 ^ L:=r8 yj (by omega);omega
   · split
     · simp [zg]
     · have:=xbd cs m l (m.get l) L (by omega) hd.2; omega
theorem xbd : ∀ (cs : List Pl) (m : Mo) (l e : Int) (L : Nat), jy cs <= L -> jau cs -> zg (xe m l e cs) <= vk cs * B32 ^ L
 | [],m,l,e,L,hL,hd=>by rw [xe]; simp [zg]
 | c :: r,m,l,e,L,hL,hd=>by
   rw [jy] at hL;rw [jau] at hd;rw [xe,yaj,vk,r5];have:=Pl.Qt c (m.put l e) L (by omega) hd.1;have:=xbd r m l (e+1) L (by omega) hd.2;omega
end
theorem jdh (L:Nat) (n:Nat):∀ l:Sp,(∀ x ∈ l,(dg x.1.natAbs).length<=L)->(bld n l).dm<=L:=by
 induction n with
 | zero =>
   intro l hl;cases l with
   | nil=>simp [bld,Pl.zero,Pl.dm,jy]
   | cons x r=>obtain ⟨c,m⟩:=x; have:=hl (c,m) (by simp); simpa [bld,Pl.const,Pl.dm,jy] using this
 | succ n ih =>
   intro l hl;cases l with
   | nil=>simp [bld,Pl.zero,Pl.dm,jy]
   | cons x r =>
     obtain ⟨c,m⟩:=x;rw [bld]
     split
     · exact ih _ hl
     · rw [Pl.dm];have key:∀ cs:List Pl,(∀ c ∈ cs,c.dm<=L)->jy cs<=L:=by
        intro cs
        induction cs with
        | nil=>intro _; simp [jy]
        | cons y r ihr=>intro h; rw [jy]; have:=h y (by simp); have:=ihr (fun z hz=>h z (by simp [hz])); omega
       have:=key _ (fun (p:Pl) (hp:p ∈ (List.range ((m.get (n+1:Nat)).toNat+1)).map fun (i:Nat)=>bld n (((c,m) :: r).filter fun x=>decide (x.2.get (n+1:Nat)=Int.ofNat i)))=>by
        obtain ⟨i,-,rfl⟩:=pS.1 hp
        exact ih _ (fun x hx=>hl x (sw.1 hx).1))
       simp only [rK];omega
end Go.Proofs.YtcepajijiabkmaaGreat
