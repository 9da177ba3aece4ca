/- Polynomials in four variables, plain: monomials, sums of terms, recursive polynomials, and their values. No program in sight. -/
import Derived.Test.YtheefiaoimbeiaaGreatDoorMp4
set_option linter.unusedSimpArgs false
set_option linter.unusedVariables false
namespace Go.Proofs.YtheefiaoimbeiaaGreatDoor
structure Mo where
 a:Int
 b:Int
 c:Int
 d:Int
deriving DecidableEq
def Mo.one:Mo:=⟨0,0,0,0⟩
def Mo.get (m:Mo) (i:Int):Int:=if i=1 then m.a else if i=2 then m.b else if i=3 then m.c else m.d
def Mo.put (m:Mo) (i e:Int):Mo:=if i=1 then { m with a:=e } else if i=2 then { m with b:=e } else if i=3 then { m with c:=e } else { m with d:=e }
def Mo.qg (m:Mo):Prop:=0<=m.a/\0<=m.b/\0<=m.c/\0<=m.d
instance (m:Mo):Decidable m.qg:=by unfold Mo.qg; infer_instance
def Mo.lt (m n:Mo):Prop:=m.d < n.d\/(m.d=n.d/\(m.c < n.c\/(m.c=n.c/\(m.b < n.b\/(m.b=n.b/\m.a < n.a)))))
instance (m n:Mo):Decidable (m.lt n):=by unfold Mo.lt; infer_instance
theorem Mo.js {m n:Mo} (h1:m.a=n.a) (h2:m.b=n.b) (h3:m.c=n.c) (h4:m.d=n.d):m=n:=by cases m; cases n; simp_all
theorem Mo.lt_irrefl (m:Mo):¬ m.lt m:=by unfold Mo.lt; omega
theorem Mo.lt_trans {m n k:Mo} (h1:m.lt n) (h2:n.lt k):m.lt k:=by unfold Mo.lt at *; omega
theorem Mo.jB (m n:Mo):m.lt n\/m=n\/n.lt m:=by
 by_cases h:m=n
 · exact .inr (.inl h)
 · have:¬ (m.a=n.a/\m.b=n.b/\m.c=n.c/\m.d=n.d):=fun hh=>h (Mo.js hh.1 hh.2.1 hh.2.2.1 hh.2.2.2)
   unfold Mo.lt; omega
abbrev Sp:=List (Int × Mo)
def ydk : Sp -> Mo -> Int
 | [],_=>0
 | (c,n) :: r,m=>(if n=m then c else 0)+ydk r m
theorem ud6 (l r:Sp) (m:Mo):ydk (l ++ r) m=ydk l m+ydk r m:=by
 induction l with
 | nil=>simp [ydk]
 | cons x l ih=>simp only [rj,ydk,ih]; omega
def kd7 : Sp -> Prop
 | []=>True
 | (c,m) :: r=>c ≠ 0/\(∀ x ∈ r,x.2.lt m)/\kd7 r
theorem ydx {l:Sp} {m:Mo} (h:∀ x ∈ l,x.2 ≠ m):ydk l m=0:=by
 induction l with
 | nil=>rfl
 | cons x l ih =>
   rw [ydk,if_neg (h x (by simp)),ih (fun y hy=>h y (by simp [hy]))]; rfl
theorem gfg {c:Int} {m:Mo} {r:Sp} (h:kd7 ((c,m) :: r)):ydk ((c,m) :: r) m=c/\∀ n,m.lt n->ydk ((c,m) :: r) n=0:=by
 have hlt:=h.2.1
 constructor
 · rw [ydk,if_pos rfl,ydx (m:=m) (fun x hx e=>Mo.lt_irrefl m (by have:=hlt x hx; rw [e] at this; exact this))]; omega
 · intro n hn;refine ydx fun x hx e=>?_
   rcases pI.1 hx with rfl | hx
   · exact Mo.lt_irrefl m (by rw [<- e] at hn; exact hn)
   · exact Mo.lt_irrefl m (Mo.lt_trans (by rw [<- e] at hn; exact hn) (hlt x hx))
def Mo.val (ρ:Int->Rat) (m:Mo):Rat:=ρ 1 ^ m.a.toNat * ρ 2 ^ m.b.toNat * ρ 3 ^ m.c.toNat * ρ 4 ^ m.d.toNat
def zdq (ρ : Int -> Rat) : Sp -> Rat
 | []=>0
 | (c,m) :: r=>(c:Rat) * m.val ρ+zdq ρ r
theorem gd1 (ρ:Int->Rat) (l r:Sp):zdq ρ (l ++ r)=zdq ρ l+zdq ρ r:=by
 induction l with
 | nil=>simp [zdq]; grind
 | cons x l ih=>obtain ⟨c,m⟩:=x; simp only [rj,zdq,ih]; grind
theorem uff (ρ:Int->Rat) (m:Mo) (l:Sp):zdq ρ l=(ydk l m:Rat) * m.val ρ+zdq ρ (l.filter fun x=>decide (x.2 ≠ m)):=by
 induction l with
 | nil=>simp [zdq,ydk]; grind
 | cons x l ih =>
   obtain ⟨c,n⟩:=x
   by_cases h:n=m
   · subst h;simp only [zdq,ydk,if_true,ri,ne_eq,not_true,decide_false,tf,if_false];rw [ih]
     push_cast
     grind
   · have:decide (n ≠ m)=true:=by simpa using h
     simp only [zdq,ydk,if_neg h,ri,this,if_true];rw [ih]
     push_cast
     grind
theorem ue3 (l:Sp) (m n:Mo):ydk (l.filter fun x=>decide (x.2 ≠ m)) n=if n=m then 0 else ydk l n:=by
 induction l with
 | nil=>simp [ydk]
 | cons x l ih =>
   obtain ⟨c,k⟩:=x
   by_cases h:k=m
   · subst h;simp only [ri,ne_eq,not_true,decide_false,tf,if_false,ydk];rw [ih]
     by_cases h2:n=k
     · simp [h2]
     · rw [if_neg h2,if_neg h2,if_neg (fun e=>h2 e.symm)]; omega
   · have:decide (k ≠ m)=true:=by simpa using h
     simp only [ri,this,if_true,ydk,ih]
     by_cases h2:n=m
     · subst h2; simp [h]
     · simp [h2]
theorem qfn (ρ:Int->Rat) (n:Nat):∀ l:Sp,l.length<=n->(∀ m,ydk l m=0)->zdq ρ l=0:=by
 induction n with
 | zero=>intro l h _; obtain rfl:l=[]:=pV (by omega); rfl
 | succ n ih =>
   intro l h h0;cases l with
   | nil=>rfl
   | cons x l =>
     obtain ⟨c,m⟩:=x;rw [uff ρ m,h0 m];have hl:(((c,m) :: l).filter fun x=>decide (x.2 ≠ m)).length<=n:=by
      rw [ri];simp only [ne_eq,not_true,decide_false,tf,if_false];have:=te (fun x:Int × Mo=>decide (x.2 ≠ m)) l;simp only [py] at h;simp only [ne_eq] at this ⊢;omega
     rw [ih _ hl (fun k=>by rw [ue3]; split <;> simp [h0])];simp; grind
def gd7 (l:Sp):Sp:=l.map fun x=>(-x.1,x.2)
theorem uex (l:Sp) (m:Mo):ydk (gd7 l) m=- ydk l m:=by
 induction l with
 | nil=>rfl
 | cons x l ih =>
   obtain ⟨c,n⟩:=x;simp only [gd7,rL,ydk];rw [show (List.map (fun x:Int × Mo=>(-x.1,x.2)) l)=gd7 l from rfl,ih]
   split <;> omega
theorem ye2 (ρ:Int->Rat) (l:Sp):zdq ρ (gd7 l)=- zdq ρ l:=by
 induction l with
 | nil=>simp [gd7,zdq]
 | cons x l ih =>
   obtain ⟨c,n⟩:=x;simp only [gd7,rL,zdq];rw [show (List.map (fun x:Int × Mo=>(-x.1,x.2)) l)=gd7 l from rfl,ih]
   push_cast
   grind
theorem vej (ρ:Int->Rat) {l l':Sp} (h:∀ m,ydk l m=ydk l' m):zdq ρ l=zdq ρ l':=by
 have h1:=qfn ρ (l ++ gd7 l').length (l ++ gd7 l') (pf _) (fun m=>by rw [ud6,uex,h m]; omega);rw [gd1,ye2] at h1
 grind
inductive Pl where
 | mk (lv:Int) (neg:Bool) (ds:List Nat) (cs:List Pl)
def Pl.lv : Pl -> Int
 | .mk l _ _ _=>l
def Pl.neg : Pl -> Bool
 | .mk _ n _ _=>n
def Pl.ds : Pl -> List Nat
 | .mk _ _ d _=>d
def Pl.cs : Pl -> List Pl
 | .mk _ _ _ c=>c
def Pl.z (p:Pl):Int:=sgn p.neg (val p.ds)
mutual
def Pl.qe (m : Mo) : Pl -> Sp
 | .mk l n d cs=>if l<=0 then [(sgn n (val d),m)] else if 4 < l then [] else qdo m l (m.get l) cs
def qdo (m : Mo) (l e : Int) : List Pl -> Sp
 | []=>[]
 | c :: r=>c.qe (m.put l e) ++ qdo m l (e+1) r
end
mutual
def Pl.val (ρ : Int -> Rat) : Pl -> Rat
 | .mk l n d cs=>if l<=0 then ((sgn n (val d):Int):Rat) else if 4 < l then 0 else wdk ρ l cs
def wdk (ρ : Int -> Rat) (l : Int) : List Pl -> Rat
 | []=>0
 | c :: r=>c.val ρ+ρ l * wdk ρ l r
end
theorem Mo.yF (ρ:Int->Rat) (m:Mo) (l e:Int) (h1:0 < l) (h2:l<=4) (he:0<=e):(m.put l (e+1)).val ρ=ρ l * (m.put l e).val ρ:=by
 have ht:(e+1).toNat=e.toNat+1:=by omega
 rcases (show l=1\/l=2\/l=3\/l=4 by omega) with rfl | rfl | rfl | rfl
 · show ρ 1 ^ (e+1).toNat * ρ 2 ^ m.b.toNat * ρ 3 ^ m.c.toNat * ρ 4 ^ m.d.toNat=ρ 1 * (ρ 1 ^ e.toNat * ρ 2 ^ m.b.toNat * ρ 3 ^ m.c.toNat * ρ 4 ^ m.d.toNat);rw [ht,sJ]; grind
 · show ρ 1 ^ m.a.toNat * ρ 2 ^ (e+1).toNat * ρ 3 ^ m.c.toNat * ρ 4 ^ m.d.toNat=ρ 2 * (ρ 1 ^ m.a.toNat * ρ 2 ^ e.toNat * ρ 3 ^ m.c.toNat * ρ 4 ^ m.d.toNat);rw [ht,sJ]; grind
 · show ρ 1 ^ m.a.toNat * ρ 2 ^ m.b.toNat * ρ 3 ^ (e+1).toNat * ρ 4 ^ m.d.toNat=ρ 3 * (ρ 1 ^ m.a.toNat * ρ 2 ^ m.b.toNat * ρ 3 ^ e.toNat * ρ 4 ^ m.d.toNat);rw [ht,sJ]; grind
 · show ρ 1 ^ m.a.toNat * ρ 2 ^ m.b.toNat * ρ 3 ^ m.c.toNat * ρ 4 ^ (e+1).toNat=ρ 4 * (ρ 1 ^ m.a.toNat * ρ 2 ^ m.b.toNat * ρ 3 ^ m.c.toNat * ρ 4 ^ e.toNat);rw [ht,sJ]; grind
mutual
theorem Pl.qW (ρ : Int -> Rat) : ∀ (p : Pl) (m : Mo), m.qg -> zdq ρ (p.qe m) = m.val ρ * p.val ρ
 | .mk l n d cs,m,hm=>by
   rw [Pl.qe,Pl.val]
   by_cases h1:l<=0
   · rw [if_pos h1,if_pos h1]; simp only [zdq]; grind
   · rw [if_neg h1,if_neg h1]
     by_cases h2:4 < l
     · rw [if_pos h2,if_pos h2]; simp only [zdq]; grind
     · rw [if_neg h2,if_neg h2];have hg:0<=m.get l:=by unfold Mo.qg at hm; unfold Mo.get; split <;> (try split) <;> (try split) <;> omega
       rw [yen ρ cs m l (m.get l) (by omega) (by omega) hg hm];have:m.put l (m.get l)=m:=by unfold Mo.put Mo.get; split <;> (try split) <;> (try split) <;> rfl
       rw [this]
theorem yen (ρ : Int -> Rat) : ∀ (cs : List Pl) (m : Mo) (l e : Int), 0 < l -> l <= 4 -> 0 <= e -> m.qg -> zdq ρ (qdo m l e cs) = (m.put l e).val ρ * wdk ρ l cs
 | [],m,l,e,h1,h2,he,hm=>by rw [qdo,wdk]; simp only [zdq]; grind
 | c :: r,m,l,e,h1,h2,he,hm=>by
   have hp:(m.put l e).qg:=by unfold Mo.qg at *; unfold Mo.put; split <;> (try split) <;> (try split) <;> simp_all
   rw [qdo,wdk,gd1,Pl.qW ρ c _ hp,yen ρ r m l (e+1) h1 h2 (by omega) hm,Mo.yF ρ m l e h1 h2 he]
   grind
end
theorem Mo.val_one (ρ:Int->Rat):Mo.one.val ρ=1:=by simp [Mo.one,Mo.val]
def Pl.zero:Pl:=.mk 0 false [] []
def Pl.const (z:Int):Pl:=.mk 0 (decide (z < 0)) (dg z.natAbs) []
theorem Pl.xP (z:Int) (m:Mo):(Pl.const z).qe m=[(z,m)]:=by
 rw [Pl.const,Pl.qe,if_pos (by omega),zdk,gd2]
def bld : Nat -> Sp -> Pl
 | _,[]=>Pl.zero
 | 0,(c,_) :: _=>Pl.const c
 | n+1,(c,m) :: r=>if m.get (n+1:Nat)=0 then bld n ((c,m) :: r) else .mk (n+1:Nat) false [] ((List.range ((m.get (n+1:Nat)).toNat+1)).map fun (i:Nat)=>bld n (((c,m) :: r).filter fun x=>decide (x.2.get (n+1:Nat)=Int.ofNat i)))
def veu (n:Nat) (m:Mo) (l:Sp):Prop:=∀ x ∈ l,∀ i:Nat,n < i->i<=4->x.2.get i=m.get i
theorem Mo.zS {m k:Mo} (h:∀ i:Nat,0 < i->i<=4->m.get i=k.get i):m=k:=by
 have h1:=h 1 (by omega) (by omega);have h2:=h 2 (by omega) (by omega);have h3:=h 3 (by omega) (by omega);have h4:=h 4 (by omega) (by omega);simp [Mo.get] at h1 h2 h3 h4;exact Mo.js h1 h2 h3 h4
theorem Mo.qK (m:Mo) (i:Nat) (e:Int) (h1:0 < i) (h2:i<=4) (j:Nat) (h3:0 < j) (h4:j<=4):(m.put i e).get j=if j=i then e else m.get j:=by
 rcases (show i=1\/i=2\/i=3\/i=4 by omega) with rfl | rfl | rfl | rfl <;> rcases (show j=1\/j=2\/j=3\/j=4 by omega) with rfl | rfl | rfl | rfl <;> simp [Mo.put,Mo.get]
theorem Mo.yv {x m:Mo} {n:Nat} (hn:0 < n) (hn4:n<=4) (h:x.lt m) (ha:∀ i:Nat,n < i->i<=4->x.get i=m.get i):x.get n<=m.get n:=by
 unfold Mo.lt at h;have h2:=ha 2;have h3:=ha 3;have h4:=ha 4;rcases (show n=1\/n=2\/n=3\/n=4 by omega) with rfl | rfl | rfl | rfl <;> simp [Mo.get] at h2 h3 h4 ⊢ <;> omega
theorem kd7.filter {l:Sp} (h:kd7 l) (f:Int × Mo->Bool):kd7 (l.filter f):=by
 induction l with
 | nil=>exact trivial
 | cons x l ih =>
   obtain ⟨c,m⟩:=x;rw [ri]
   split
   · exact ⟨h.1,fun y hy=>h.2.1 y (sL.1 hy).1,ih h.2.2⟩
   · exact ih h.2.2
theorem ufg (l:Sp) (m:Mo) (f g k:Int × Mo->Bool) (h:∀ x ∈ l,k x=(f x || g x)) (hd:∀ x ∈ l,¬ (f x=true/\g x=true)):ydk (l.filter k) m=ydk (l.filter f) m+ydk (l.filter g) m:=by
 induction l with
 | nil=>rfl
 | cons x l ih =>
   have ihl:=ih (fun y hy=>h y (by simp [hy])) (fun y hy=>hd y (by simp [hy]));have hk:=h x (by simp);have hx:=hd x (by simp);rw [ri,ri,ri];cases hf:f x <;> cases hg:g x <;> rw [hf,hg] at hk <;> simp only [Bool.or_false,Bool.or_true,Bool.true_or,Bool.false_or] at hk <;> rw [hk] <;> simp only [if_true,tf,if_false,ydk]
   · exact ihl
   · rw [ihl]; omega
   · rw [ihl]; omega
   · exact absurd ⟨hf,hg⟩ hx
theorem xep (l:Sp) (m:Mo) (f:Int × Mo->Bool) (h:∀ x ∈ l,f x=true):l.filter f=l:=List.filter_eq_self.2 h
theorem xeq (n:Nat) (hn:n<=4):∀ (l:Sp) (m:Mo),kd7 l->(∀ x ∈ l,x.2.qg)->veu n m l->(∀ i:Nat,0 < i->i<=n->m.get i=0)->∀ k,ydk ((bld n l).qe m) k=ydk l k:=by
 induction n with
 | zero =>
   intro l m hl hnn ha _ k;cases l with
   | nil=>simp [bld,Pl.zero,Pl.qe,ydk,sgn,val]
   | cons x r =>
     obtain ⟨c,m'⟩:=x;have hm:m'=m:=Mo.zS (fun i h1 h2=>ha (c,m') (by simp) i h1 h2);subst hm;have hr:r=[]:=by
      cases r with
      | nil=>rfl
      | cons y r =>
        have h1:=hl.2.1 y (by simp);have h2:y.2=m':=Mo.zS (fun i h1 h2=>ha y (by simp) i h1 h2);rw [h2] at h1;exact absurd h1 (Mo.lt_irrefl _)
     subst hr;rw [bld,Pl.xP]
 | succ n ih =>
   intro l m hl hnn ha hz k;cases l with
   | nil=>simp [bld,Pl.zero,Pl.qe,ydk,sgn,val]
   | cons x r =>
     obtain ⟨c,m'⟩:=x;have amG:∀ y ∈ ((c,m') :: r:Sp),y.2.get (n+1:Nat)<=m'.get (n+1:Nat):=by
      intro y hy;rcases pI.1 hy with rfl | hy'
      · exact uH _
      · exact Mo.yv (by omega) (by omega) (hl.2.1 y hy') (fun i h1 h2=>(ha y hy i (by omega) h2).trans (ha (c,m') (by simp) i (by omega) h2).symm)
     have agB:∀ y ∈ ((c,m') :: r:Sp),0<=y.2.get (n+1:Nat):=by
      intro y hy;have:=hnn y hy;unfold Mo.qg at this;unfold Mo.get
      split <;> (try split) <;> (try split) <;> omega
     rw [bld]
     by_cases h0:m'.get (n+1:Nat)=0
     · rw [if_pos h0];refine ih (by omega) _ m hl hnn (fun y hy i h1 h2=>?_) (fun i h1 h2=>hz i h1 (by omega)) k
       by_cases hi:i=n+1
       · subst hi;rw [hz (n+1) (by omega) (by omega)];have h1:=amG y hy;have h2:=agB y hy;omega
       · exact ha y hy i (by omega) h2
     · rw [if_neg h0];have hg0:m.get (n+1:Nat)=0:=hz (n+1) (by omega) (by omega);rw [Pl.qe,if_neg (by omega),if_neg (by omega),hg0];generalize hL:((c,m') :: r:Sp)=L at *;have key:∀ (cnt e:Nat),ydk (qdo m (n+1:Nat) (e:Int) ((List.range' e cnt).map fun (i:Nat)=>bld n (L.filter fun x=>decide (x.2.get (n+1:Nat)=Int.ofNat i)))) k=ydk (L.filter fun x=>decide ((e:Int)<=x.2.get (n+1:Nat)) && decide (x.2.get (n+1:Nat) < (e:Int)+cnt)) k:=by
        intro cnt
        induction cnt with
        | zero =>
          intro e;have:(L.filter fun x=>decide ((e:Int)<=x.2.get (n+1:Nat)) && decide (x.2.get (n+1:Nat) < (e:Int)+(0:Nat)))=[]:=List.filter_eq_nil_iff.2 (fun x _=>by simp);rw [this]; rfl
        | succ cnt ihc =>
          intro e;rw [List.range'_succ,rL,qdo,ud6];have e1:((e:Int)+1)=((e+1:Nat):Int):=by omega
          rw [e1,ihc (e+1)];rw [ih (by omega) _ (m.put (n+1:Nat) e) (hl.filter _) (fun x hx=>hnn x (sL.1 hx).1) (fun x hx i h1 h2=>?_) (fun i h1 h2=>?_)]
          · refine (ufg L k _ _ _ (fun x _=>?_) (fun x _=>?_)).symm
            · simp only [<- Bool.decide_and,<- Bool.decide_or,decide_eq_decide,Int.ofNat_eq_natCast];omega
            · simp only [pj,decide_eq_true_eq,Int.ofNat_eq_natCast];omega
          · obtain ⟨hx1,hx2⟩:=sL.1 hx;rw [Mo.qK m (n+1) e (by omega) (by omega) i (by omega) h2]
            by_cases hi:i=n+1
            · rw [if_pos hi,hi]; simpa using hx2
            · rw [if_neg hi]; exact ha x hx1 i (by omega) h2
          · rw [Mo.qK m (n+1) e (by omega) (by omega) i h1 (by omega),if_neg (by omega)];exact hz i h1 (by omega)
       have h1:=key ((m'.get (n+1:Nat)).toNat+1) 0;rw [<- List.range_eq_range'] at h1;refine Eq.trans h1 ?_;rw [xep L k _ (fun x hx=>?_)];have h2:=amG x hx;have h3:=agB x hx;simp only [pj,decide_eq_true_eq];omega
mutual
def Pl.Can : Pl -> Prop
 | .mk l n d cs=>(l=0/\cs=[]/\d=dg (val d)/\(d=[]->n=false))\/(1<=l/\l<=4/\n=false/\d=[]/\2<=cs.length/\wdp l cs/\cs.getLast? ≠ some Pl.zero)
def wdp (l : Int) : List Pl -> Prop
 | []=>True
 | c :: r=>c.lv < l/\c.Can/\wdp l r
end
theorem wdp.mem {l : Int} : ∀ {cs : List Pl}, wdp l cs -> ∀ c ∈ cs, c.lv < l /\ c.Can
 | c :: r,h,x,hx=>by
   unfold wdp at h;rcases pI.1 hx with rfl | hx
   · exact ⟨h.1,h.2.1⟩
   · exact wdp.mem h.2.2 x hx
theorem Pl.qA:Pl.zero.Can:=by unfold Pl.zero Pl.Can; left; exact ⟨rfl,rfl,by simp [val,jdn],fun _=>rfl⟩
theorem Pl.Can.qp {p:Pl} (h:p.Can):0<=p.lv/\p.lv<=4:=by
 cases p with
 | mk l n d cs=>unfold Pl.Can at h; show 0<=l/\l<=4; rcases h with h | h <;> omega
mutual
theorem Pl.qF : ∀ (p : Pl) (m : Mo) (n : Nat), p.Can -> p.lv <= n -> ∀ x ∈ p.qe m, ∀ i : Nat, n < i -> i <= 4 -> x.2.get i = m.get i
 | .mk l ng d cs,m,n,h,hl,x,hx,i,h1,h2=>by
   rw [Pl.qe] at hx;unfold Pl.Can at h
   change l<=n at hl
   by_cases h0:l<=0
   · rw [if_pos h0] at hx;rw [(rb.1 hx)]
   · rw [if_neg h0] at hx
     by_cases h4:4 < l
     · rw [if_pos h4] at hx; cases hx
     · rw [if_neg h4] at hx;rcases h with h | h
       · omega
       · exact yej cs m l (m.get l) n h.2.2.2.2.2.1 (by omega) (by omega) hl x hx i h1 h2
theorem yej : ∀ (cs : List Pl) (m : Mo) (l e : Int) (n : Nat), wdp l cs -> 0 < l -> l <= 4 -> l <= n -> ∀ x ∈ qdo m l e cs, ∀ i : Nat, n < i -> i <= 4 -> x.2.get i = m.get i
 | [],m,l,e,n,h,hl0,hl4,hl,x,hx,i,h1,h2=>by rw [qdo] at hx; cases hx
 | c :: r,m,l,e,n,h,hl0,hl4,hl,x,hx,i,h1,h2=>by
   rw [qdo] at hx;unfold wdp at h;rcases rq.1 hx with hx | hx
   · obtain ⟨ln,rfl⟩:∃ ln:Nat,l=ln:=⟨l.toNat,by omega⟩;rw [Pl.qF c _ n h.2.1 (by omega) x hx i h1 h2,Mo.qK m ln e (by omega) (by omega) i (by omega) h2,if_neg (by omega)]
   · exact yej r m l (e+1) n h.2.2 hl0 hl4 hl x hx i h1 h2
end
theorem zd7 (m : Mo) (l : Nat) (hl0 : 0 < l) (hl4 : l <= 4) (k : Mo) : ∀ (cs : List Pl) (e : Int), wdp l cs -> ydk (qdo m l e cs) k = if h : e <= k.get l /\ (k.get l - e).toNat < cs.length then ydk ((cs[(k.get l - e).toNat]'h.2).qe (m.put l (k.get l))) k else 0
 | [],e,_=>by rw [qdo,dif_neg (by simp)]; rfl
 | c :: r,e,h=>by
   unfold wdp at h;have hz:∀ (c:Pl) (e:Int),c.lv < l->c.Can->k.get l ≠ e->ydk (c.qe (m.put l e)) k=0:=by
    intro c e hc1 hc2 hne;refine ydx fun x hx he=>hne ?_
    have:=Pl.qF c (m.put l e) (l - 1) hc2 (by omega) x hx l (by omega) hl4;rw [he,Mo.qK m l e hl0 hl4 l hl0 hl4,if_pos rfl] at this;exact this
   rw [qdo,ud6,zd7 m l hl0 hl4 k r (e+1) h.2.2]
   by_cases he:k.get l=e
   · rw [dif_neg (by omega),dif_pos (by constructor; omega; simp; omega)];have h0:(k.get l - e).toNat=0:=by omega
     have hc0:∀ (j:Nat) (hj:j < (c :: r).length),j=0->(c :: r)[j]=c:=by intro j hj h; subst h; rfl
     rw [hc0 _ _ h0,he];omega
   · rw [hz c e h.1 h.2.1 he]
     by_cases hlt:e<=k.get l/\(k.get l - e).toNat < (c :: r).length
     · have hs:(k.get l - e).toNat=(k.get l - (e+1)).toNat+1:=by omega
       have aoN:e+1<=k.get l/\(k.get l - (e+1)).toNat < r.length:=by
        have:=hlt.2;simp only [py] at this;omega
       rw [dif_pos hlt,dif_pos aoN];simp only [hs,rW];omega
     · rw [dif_neg hlt,dif_neg (by
        simp only [py] at hlt
        omega)]
       rfl
theorem Pl.Can.kids {l:Int} {n:Bool} {d:List Nat} {cs:List Pl} (h:(Pl.mk l n d cs).Can) (hl:0 < l):n=false/\d=[]/\2<=cs.length/\wdp l cs/\cs.getLast? ≠ some Pl.zero:=by
 unfold Pl.Can at h;rcases h with h | h
 · omega
 · exact h.2.2
theorem Pl.xK (m k:Mo):ydk (Pl.zero.qe m) k=0:=by simp [Pl.zero,Pl.qe,ydk,sgn,val]
theorem wf5 (n:Nat) (hn:n<=4):∀ (p p':Pl) (m:Mo),p.Can->p'.Can->p.lv<=n->p'.lv<=n->(∀ i:Nat,0 < i->i<=n->m.get i=0)->(∀ k,ydk (p.qe m) k=ydk (p'.qe m) k)->p=p':=by
 induction n with
 | zero =>
   intro p p' m h h' hl hl' _ he;obtain ⟨l,ng,d,cs⟩:=p;obtain ⟨l',ng',d',cs'⟩:=p';unfold Pl.Can at h h'
   change l<=(0:Nat) at hl
   change l'<=(0:Nat) at hl'
   rcases h with ⟨rfl,rfl,hd,hng⟩ | h
   · rcases h' with ⟨rfl,rfl,hd',avm⟩ | h'
     · have e1:=he m;simp only [Pl.qe,if_pos (show (0:Int)<=0 by omega),ydk,if_true,Int.add_zero] at e1;have hv:val d=val d':=by
        have:=congrArg Int.natAbs e1;rw [gdo,gdo] at this;exact this
       have hdd:d=d':=by rw [hd,hv,<- hd']
       subst hdd;have hnn:ng=ng':=by
        by_cases hz:d=[]
        · rw [hng hz,avm hz]
        · have hvz:val d ≠ 0:=fun e=>hz (by rw [hd,e,jdn])
          cases ng <;> cases ng' <;> first | rfl | (exfalso; simp [sgn] at e1; omega)
       rw [hnn]
     · omega
   · omega
 | succ n ih =>
   have low:∀ (p p':Pl) (m:Mo),p.Can->p'.Can->p.lv<=n->p'.lv=(n+1:Nat)->(∀ i:Nat,0 < i->i<=n+1->m.get i=0)->(∀ k,ydk (p.qe m) k=ydk (p'.qe m) k)->False:=by
    intro p p' m h h' hl hl' hm he;obtain ⟨l',ng',d',cs'⟩:=p'
    change l'=(n+1:Nat) at hl'
    subst hl';obtain ⟨-,-,hlen,hcs,ad9⟩:=h'.kids (by omega);have hL:cs'.length - 1 < cs'.length:=by omega
    have hc:=hcs.mem cs'[cs'.length - 1] (pt hL);apply ad9;rw [sH,pq hL]
    congr 1
    refine ih (by omega) _ _ (m.put (n+1:Nat) ((cs'.length - 1:Nat):Int)) hc.2 Pl.qA (by omega) (by show (0:Int)<=_; omega) (fun i h1 h2=>?_) (fun k=>?_)
    · rw [Mo.qK m (n+1) _ (by omega) (by omega) i h1 (by omega),if_neg (by omega)];exact hm i h1 (by omega)
    · rw [Pl.xK]
      by_cases hk:k.get (n+1:Nat)=((cs'.length - 1:Nat):Int)
      · have e1:=he k;rw [ydx (l:=p.qe m) (fun x hx e=>by
         have:=Pl.qF p m n h hl x hx (n+1) (by omega) (by omega);rw [e,hm (n+1) (by omega) (by omega),hk] at this
         omega)] at e1
        rw [Pl.qe,if_neg (by omega),if_neg (by omega),hm (n+1) (by omega) (by omega),zd7 m (n+1) (by omega) (by omega) k cs' 0 hcs,dif_pos (by omega)] at e1;have hi:(k.get (n+1:Nat) - 0).toNat=cs'.length - 1:=by omega
        have hc0:∀ (j:Nat) (hj:j < cs'.length),j=cs'.length - 1->cs'[j]=cs'[cs'.length - 1]:=by intro j hj h; subst h; rfl
        rw [hc0 _ _ hi] at e1;rw [<- hk];exact e1.symm
      · refine ydx fun x hx e=>hk ?_
        have:=Pl.qF cs'[cs'.length - 1] _ n hc.2 (by omega) x hx (n+1) (by omega) (by omega);rw [e,Mo.qK m (n+1) _ (by omega) (by omega) (n+1) (by omega) (by omega),if_pos rfl] at this;exact this
   intro p p' m h h' hl hl' hm he
   by_cases hp:p.lv=(n+1:Nat)
   · by_cases hp':p'.lv=(n+1:Nat)
     · obtain ⟨l,ng,d,cs⟩:=p;obtain ⟨l',ng',d',cs'⟩:=p'
       change l=(n+1:Nat) at hp
       change l'=(n+1:Nat) at hp'
       subst hp hp';obtain ⟨rfl,rfl,hlen,hcs,ad9⟩:=h.kids (by omega);obtain ⟨rfl,rfl,ary,akK,aoS⟩:=h'.kids (by omega);have hg:m.get (n+1:Nat)=0:=hm (n+1) (by omega) (by omega);have hco:∀ k,ydk (qdo m (n+1:Nat) 0 cs) k=ydk (qdo m (n+1:Nat) 0 cs') k:=by
        intro k;have:=he k;rw [Pl.qe,if_neg (by omega),if_neg (by omega),Pl.qe,if_neg (by omega),if_neg (by omega),hg] at this;exact this
       have ahu:∀ (i:Nat) (e:Int),0 < i->i<=n->(m.put (n+1:Nat) e).get i=0:=fun i e h1 h2=>by
        rw [Mo.qK m (n+1) _ (by omega) (by omega) i h1 (by omega),if_neg (by omega)];exact hm i h1 (by omega)
       have aoJ:∀ (c:Pl) (e:Int) (k:Mo),c.Can->c.lv < (n+1:Nat)->k.get (n+1:Nat) ≠ e->ydk (c.qe (m.put (n+1:Nat) e)) k=0:=by
        intro c e k hc1 hc2 hne;refine ydx fun x hx he'=>hne ?_
        have:=Pl.qF c _ n hc1 (by omega) x hx (n+1) (by omega) (by omega);rw [he',Mo.qK m (n+1) _ (by omega) (by omega) (n+1) (by omega) (by omega),if_pos rfl] at this;exact this
       have hin:∀ (cs:List Pl) (i:Nat) (hi:i < cs.length) (k:Mo),wdp (n+1:Nat) cs->k.get (n+1:Nat)=(i:Int)->ydk (qdo m (n+1:Nat) 0 cs) k=ydk (cs[i].qe (m.put (n+1:Nat) (i:Int))) k:=by
        intro cs i hi k hcs hk;rw [zd7 m (n+1) (by omega) (by omega) k cs 0 hcs,dif_pos (by omega)];have hi':(k.get (n+1:Nat) - 0).toNat=i:=by omega
        have hc0:∀ (j:Nat) (hj:j < cs.length),j=i->cs[j]=cs[i]:=by intro j hj h; subst h; rfl
        rw [hc0 _ _ hi',hk]
       have hno:∀ (cs:List Pl) (i:Nat) (k:Mo),cs.length<=i->wdp (n+1:Nat) cs->k.get (n+1:Nat)=(i:Int)->ydk (qdo m (n+1:Nat) 0 cs) k=0:=by
        intro cs i k hi hcs hk;rw [zd7 m (n+1) (by omega) (by omega) k cs 0 hcs,dif_neg (by omega)]
       have nol:∀ (cs cs':List Pl),wdp (n+1:Nat) cs->wdp (n+1:Nat) cs'->2<=cs.length->cs.getLast? ≠ some Pl.zero->(∀ k,ydk (qdo m (n+1:Nat) 0 cs) k=ydk (qdo m (n+1:Nat) 0 cs') k)->cs.length<=cs'.length:=by
        intro cs cs' hcs akK hlen ad9 hco;rcases rz cs'.length cs.length with hlt | hge
        · exfalso
          apply ad9;have hL:cs.length - 1 < cs.length:=by omega
          rw [sH,pq hL]
          congr 1
          have hc:=hcs.mem cs[cs.length - 1] (pt hL);refine ih (by omega) _ _ (m.put (n+1:Nat) ((cs.length - 1:Nat):Int)) hc.2 Pl.qA (by omega) (by show (0:Int)<=_; omega) (fun i h1 h2=>ahu i _ h1 h2) (fun k=>?_);rw [Pl.xK]
          by_cases hk:k.get (n+1:Nat)=((cs.length - 1:Nat):Int)
          · rw [<- hin cs (cs.length - 1) hL k hcs hk,hco k];exact hno cs' _ k (by omega) akK hk
          · exact aoJ _ _ k hc.2 hc.1 hk
        · exact hge
       have hll:cs.length=cs'.length:=Nat.le_antisymm (nol cs cs' hcs akK hlen ad9 hco) (nol cs' cs akK hcs ary aoS (fun k=>(hco k).symm));have hcc:cs=cs':=by
        refine List.ext_getElem hll fun i hi hi'=>?_
        have hc:=hcs.mem cs[i] (pt hi);have hc':=akK.mem cs'[i] (pt hi');refine ih (by omega) _ _ (m.put (n+1:Nat) (i:Int)) hc.2 hc'.2 (by omega) (by omega) (fun j h1 h2=>ahu j _ h1 h2) (fun k=>?_)
        by_cases hk:k.get (n+1:Nat)=(i:Int)
        · rw [<- hin cs i hi k hcs hk,<- hin cs' i hi' k akK hk]; exact hco k
        · rw [aoJ _ _ k hc.2 hc.1 hk,aoJ _ _ k hc'.2 hc'.1 hk]
       rw [hcc]
     · exact (low p' p m h' h (by omega) hp hm (fun k=>(he k).symm)).elim
   · by_cases hp':p'.lv=(n+1:Nat)
     · exact (low p p' m h h' (by omega) hp' hm he).elim
     · exact ih (by omega) p p' m h h' (by omega) (by omega) (fun i h1 h2=>hm i h1 (by omega)) he
theorem Pl.zK {p p':Pl} (h:p.Can) (h':p'.Can) (he:∀ k,ydk (p.qe Mo.one) k=ydk (p'.qe Mo.one) k):p=p':=
 wf5 4 (pf _) p p' Mo.one h h' h.qp.2 h'.qp.2 (fun i h1 h2=>by
  rcases (show i=1\/i=2\/i=3\/i=4 by omega) with rfl | rfl | rfl | rfl <;> rfl) he
theorem yd0 (z:Int):(Pl.const z).Can:=by
 unfold Pl.const Pl.Can
 left
 refine ⟨rfl,rfl,by rw [zdk],fun h=>?_⟩;have:z.natAbs=0:=by
  have h1:(dg z.natAbs).length=0:=by rw [h]; rfl
  exact zeg h1
 have hz:z=0:=by omega
 rw [hz]; rfl
theorem vd5 {l : Int} : ∀ {cs : List Pl}, (∀ c ∈ cs, c.lv < l /\ c.Can) -> wdp l cs
 | [],_=>by unfold wdp; trivial
 | c :: r,h=>by
   unfold wdp;exact ⟨(h c (by simp)).1,(h c (by simp)).2,vd5 (fun x hx=>h x (by simp [hx]))⟩
theorem xfe (n:Nat) (hn:n<=4):∀ (l:Sp) (m:Mo),kd7 l->(∀ x ∈ l,x.2.qg)->veu n m l->(∀ i:Nat,0 < i->i<=n->m.get i=0)->(bld n l).Can/\(bld n l).lv<=n:=by
 induction n with
 | zero =>
   intro l m hl hnn ha hz;cases l with
   | nil=>rw [bld]; exact ⟨Pl.qA,by show (0:Int)<=_; omega⟩
   | cons x r=>obtain ⟨c,m'⟩:=x; rw [bld]; exact ⟨yd0 c,by show (0:Int)<=_; omega⟩
 | succ n ih =>
   intro l m hl hnn ha hz;cases l with
   | nil=>rw [bld]; exact ⟨Pl.qA,by show (0:Int)<=_; omega⟩
   | cons x r =>
     obtain ⟨c,m'⟩:=x;have amG:∀ y ∈ ((c,m') :: r:Sp),y.2.get (n+1:Nat)<=m'.get (n+1:Nat):=by
      intro y hy;rcases pI.1 hy with rfl | hy'
      · exact uH _
      · exact Mo.yv (by omega) (by omega) (hl.2.1 y hy') (fun i h1 h2=>(ha y hy i (by omega) h2).trans (ha (c,m') (by simp) i (by omega) h2).symm)
     have agB:∀ y ∈ ((c,m') :: r:Sp),0<=y.2.get (n+1:Nat):=by
      intro y hy;have:=hnn y hy;unfold Mo.qg at this;unfold Mo.get
      split <;> (try split) <;> (try split) <;> omega
     rw [bld]
     by_cases h0:m'.get (n+1:Nat)=0
     · rw [if_pos h0];obtain ⟨h1,h2⟩:=ih (by omega) _ m hl hnn (fun y hy i h1 h2=>by
        by_cases hi:i=n+1
        · subst hi;rw [hz (n+1) (by omega) (by omega)];have h1:=amG y hy;have h2:=agB y hy;omega
        · exact ha y hy i (by omega) h2) (fun i h1 h2=>hz i h1 (by omega))
       exact ⟨h1,by omega⟩
     · rw [if_neg h0];have adT:0 < m'.get (n+1:Nat):=by have:=agB (c,m') (by simp); simp only at this; omega
       have anK:∀ i:Nat,kd7 (((c,m') :: r).filter fun x=>decide (x.2.get (n+1:Nat)=Int.ofNat i))/\(∀ x ∈ (((c,m') :: r).filter fun x=>decide (x.2.get (n+1:Nat)=Int.ofNat i)),x.2.qg)/\veu n (m.put (n+1:Nat) (i:Int)) (((c,m') :: r).filter fun x=>decide (x.2.get (n+1:Nat)=Int.ofNat i))/\(∀ j:Nat,0 < j->j<=n->(m.put (n+1:Nat) (i:Int)).get j=0):=by
        intro i;refine ⟨hl.filter _,fun x hx=>hnn x (sL.1 hx).1,fun x hx j h1 h2=>?_,fun j h1 h2=>?_⟩
        · obtain ⟨hx1,hx2⟩:=sL.1 hx;rw [Mo.qK m (n+1) _ (by omega) (by omega) j (by omega) h2]
          by_cases hj:j=n+1
          · rw [if_pos hj,hj]; simpa using hx2
          · rw [if_neg hj]; exact ha x hx1 j (by omega) h2
        · rw [Mo.qK m (n+1) _ (by omega) (by omega) j h1 (by omega),if_neg (by omega)];exact hz j h1 (by omega)
       refine ⟨?_,by show ((n+1:Nat):Int)<=_; omega⟩;unfold Pl.Can
       right
       refine ⟨by omega,by omega,rfl,rfl,by rw [pC,uF]; omega,vd5 (fun x hx=>?_),?_⟩
       · obtain ⟨i,-,rfl⟩:=sF.1 hx;obtain ⟨q1,q2,q3,q4⟩:=anK i;obtain ⟨h1,h2⟩:=ih (by omega) _ _ q1 q2 q3 q4;exact ⟨by omega,h1⟩
       · rw [List.getLast?_map,List.getLast?_range];rw [if_neg (by omega)];simp only [Option.map_some,Nat.add_sub_cancel,ne_eq,Option.some.injEq];intro e;obtain ⟨q1,q2,q3,q4⟩:=anK (m'.get (n+1:Nat)).toNat;have hco:=xeq n (by omega) _ _ q1 q2 q3 q4 m';rw [e,Pl.xK] at hco;have arK:(((c,m') :: r).filter fun x=>decide (x.2.get (n+1:Nat)=Int.ofNat (m'.get (n+1:Nat)).toNat))=(c,m') :: (r.filter fun x=>decide (x.2.get (n+1:Nat)=Int.ofNat (m'.get (n+1:Nat)).toNat)):=by
          rw [ri,if_pos];simp only [decide_eq_true_eq,Int.ofNat_eq_natCast];omega
         rw [arK] at hco q1;rw [(gfg q1).1] at hco;exact hl.1 hco.symm
theorem kew {l:Sp} (h:kd7 l) (hn:∀ x ∈ l,x.2.qg):(bld 4 l).Can/\∀ k,ydk ((bld 4 l).qe Mo.one) k=ydk l k:=by
 have hz:∀ i:Nat,0 < i->i<=4->Mo.one.get i=0:=fun i h1 h2=>by
  rcases (show i=1\/i=2\/i=3\/i=4 by omega) with rfl | rfl | rfl | rfl <;> rfl
 have ha:veu 4 Mo.one l:=fun x _ i h1 h2=>by omega
 exact ⟨(xfe 4 (pf _) l _ h hn ha hz).1,xeq 4 (pf _) l _ h hn ha hz⟩
end Go.Proofs.YtheefiaoimbeiaaGreatDoor
