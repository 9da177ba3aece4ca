/- Polynomials in four variables, plain: a canonical polynomial is known by its values; sums and products. No program in sight. -/
import Derived.Test.YtheefiaoimbeiaaGreatDoorMp10
import Derived.Test.YtheefiaoimbeiaaGreatDoorMp5
set_option linter.unusedSimpArgs false
set_option linter.unusedVariables false

namespace Go.Proofs.YtheefiaoimbeiaaGreatDoor
theorem qec (x:Rat) (m n:Nat):x ^ (m+n)=x ^ m * x ^ n:=by
 induction n with
 | zero=>simp
 | succ n ih=>rw [<- ts,sJ,ih,sJ]; grind
theorem xfx (x:Rat) (m n:Nat):x ^ (m * n)=(x ^ m) ^ n:=by
 induction n with
 | zero=>simp
 | succ n ih=>rw [Nat.mul_succ,qec,ih,sJ]
def Mo.num (E:Nat) (m:Mo):Nat:=m.a.toNat+E * (m.b.toNat+E * (m.c.toNat+E * m.d.toNat))
theorem qd8 {E x x' y y':Nat} (hx:x < E) (h:y < y'):x+E * y < x'+E * y':=by
 have h1:E * (y+1)<=E * y':=pX E h;rw [pD] at h1;omega
theorem Mo.jb {E:Nat} {m n:Mo} (hm:m.qg) (hn:n.qg) (hE:m.a < E/\m.b < E/\m.c < E/\m.d < E) (h:m.lt n):m.num E < n.num E:=by
 unfold Mo.lt at h;unfold Mo.qg at hm hn;unfold Mo.num;rcases h with h | ⟨h1,h | ⟨h2,h | ⟨h3,h⟩⟩⟩
 · exact qd8 (by omega) (qd8 (by omega) (qd8 (by omega) (by omega)))
 · rw [h1]; exact qd8 (by omega) (qd8 (by omega) (by omega))
 · rw [h1,h2]; exact qd8 (by omega) (by omega)
 · rw [h1,h2,h3]; omega
def gea (E B : Nat) : Sp -> Int
 | []=>0
 | (c,m) :: r=>c * (B:Int) ^ m.num E+gea E B r
def kro (E B:Nat) (i:Int):Rat:=(B:Rat) ^ (E ^ (i - 1).toNat)
theorem Mo.yG (E B:Nat) (m:Mo):m.val (kro E B)=(B:Rat) ^ m.num E:=by
 unfold Mo.val kro Mo.num;simp only [<- xfx,<- qec]
 congr 1
 simp only [show ((1:Int) - 1).toNat=0 from rfl,show ((2:Int) - 1).toNat=1 from rfl,show ((3:Int) - 1).toNat=2 from rfl,show ((4:Int) - 1).toNat=3 from rfl,Nat.pow_zero,Nat.pow_one]
 grind
theorem xe2 (E B:Nat) (l:Sp):zdq (kro E B) l=(gea E B l:Rat):=by
 induction l with
 | nil=>simp [zdq,gea]
 | cons x l ih =>
   obtain ⟨c,m⟩:=x;simp only [zdq,gea,ih,Mo.yG]
   push_cast
   rfl
theorem xgf (E B K:Nat) (hB:0 < B) (l:Sp) (h:∀ x ∈ l,x.2.num E<=K):(gea E B l).natAbs<=jdo l * B ^ K:=by
 induction l with
 | nil=>simp [gea]
 | cons x l ih =>
   obtain ⟨c,m⟩:=x;have h1:=ih fun x hx=>h x (rk _ hx)
   have h2:B ^ m.num E<=B ^ K:=pK hB (h (c,m) (rB ..));simp only [gea,jdo];have h3:(c * (B:Int) ^ m.num E).natAbs=c.natAbs * B ^ m.num E:=by
    rw [tP,Int.natAbs_pow,rP]
   have h4:c.natAbs * B ^ m.num E<=c.natAbs * B ^ K:=pX _ h2;have h5:=Int.natAbs_add_le (c * (B:Int) ^ m.num E) (gea E B l);rw [pT];omega
theorem vd2 (c:Int) (m:Mo) (l:Sp):jdo ((c,m) :: l)=c.natAbs+jdo l:=rfl
theorem gfd {l:Sp} (h:kd7 l) (hn:∀ x ∈ l,x.2.qg) (E:Nat) (hE:∀ x ∈ l,x.2.le E) (B:Nat) (hB:jdo l+1<=B) (hne:l ≠ []):gea (E+1) B l ≠ 0:=by
 intro h2;cases l with
 | nil=>exact hne rfl
 | cons x r =>
   obtain ⟨c,m⟩:=x;simp only [gea] at h2;have hc:=h.1;rw [vd2] at hB;have aq8:∀ x ∈ r,x.2.num (E+1) < m.num (E+1):=fun x hx=>by
    refine Mo.jb (hn x (rk _ hx)) (hn _ (rB ..)) ?_ (h.2.1 x hx);have:=hE x (rk _ hx);unfold Mo.le at this;omega
   have h3:(c * (B:Int) ^ m.num (E+1)).natAbs=c.natAbs * B ^ m.num (E+1):=by
    rw [tP,Int.natAbs_pow,rP]
   have h4:(gea (E+1) B r).natAbs=(c * (B:Int) ^ m.num (E+1)).natAbs:=by omega
   have hc1:1<=c.natAbs:=by omega
   cases r with
   | nil =>
     simp only [gea,Int.natAbs_zero] at h4;rw [h3] at h4;have:0 < B ^ m.num (E+1):=rF (by omega);have:=pE (B ^ m.num (E+1)) hc1;omega
   | cons y r' =>
     have hy:=aq8 y (rB ..);obtain ⟨K,hK⟩:∃ K,m.num (E+1)=K+1:=⟨m.num (E+1) - 1,by omega⟩;have h5:=xgf (E+1) B K (by omega) (y :: r') (fun x hx=>by have:=aq8 x hx; omega);rw [h4,h3,hK,pP] at h5;have hp:0 < B ^ K:=rF (by omega);generalize B ^ K=P at *;generalize jdo (y :: r')=S at *;have h6:1 * (P * B)<=c.natAbs * (P * B):=pE _ hc1;have h7:P * (S+2)<=P * B:=pX _ (by omega);have h8:P * (S+2)=S * P+2 * P:=by grind
     omega
theorem wff {l:Sp} (h:kd7 l) (hn:∀ x ∈ l,x.2.qg) (E:Nat) (hE:∀ x ∈ l,x.2.le E) (hz:∀ ρ,zdq ρ l=0):l=[]:=by
 cases l with
 | nil=>rfl
 | cons x r =>
   have h1:=hz (kro (E+1) (jdo (x :: r)+1));rw [xe2] at h1;exact absurd (by exact_mod_cast h1) (gfd h hn E hE _ (pf _) (by simp))
theorem Mo.le_sup (l:Sp):∃ E:Nat,∀ x ∈ l,x.2.le E:=by
 induction l with
 | nil=>exact ⟨0,by simp⟩
 | cons x r ih =>
   obtain ⟨E,h⟩:=ih;refine ⟨E+x.2.a.toNat+x.2.b.toNat+x.2.c.toNat+x.2.d.toNat,fun y hy=>?_⟩;rcases pI.1 hy with rfl | hy
   · unfold Mo.le; omega
   · exact (h y hy).mono (by omega)
theorem ve3 {l l':Sp} (hn:∀ x ∈ l,x.2.qg) (hn':∀ x ∈ l',x.2.qg) (h:∀ ρ,zdq ρ l=zdq ρ l') (k:Mo):ydk l k=ydk l' k:=by
 have hnn:∀ x ∈ l ++ gd7 l',x.2.qg:=fun x hx=>by
  rcases rq.1 hx with hx | hx
  · exact hn x hx
  · unfold gd7 at hx;obtain ⟨y,hy,rfl⟩:=sF.1 hx;exact hn' y hy
 obtain ⟨E,hE⟩:=Mo.le_sup (kdr (l ++ gd7 l'));have h1:kdr (l ++ gd7 l')=[]:=wff (ud2 _) (fun x hx=>(zd0 hx).1) E hE (fun ρ=>by
  rw [vej ρ (xd5 hnn),gd1,ye2,h ρ]
  grind)
 have h2:=xd5 hnn k;rw [h1,ud6,uex] at h2;simp only [ydk] at h2;omega
theorem Pl.qH {p q:Pl} (hp:p.Can) (hq:q.Can) (h:∀ ρ,p.val ρ=q.val ρ):p=q:=by
 refine Pl.zK hp hq (ve3 p.qi q.qi fun ρ=>?_);rw [Pl.qW ρ p _ Mo.one_nonneg,Pl.qW ρ q _ Mo.one_nonneg,h ρ]
theorem Pl.zj (ρ:Int->Rat) {l:Sp} (hn:∀ x ∈ l,x.2.qg):(Pl.zY l).val ρ=zdq ρ l:=by
 have h1:=vej ρ (l:=(Pl.zY l).qe Mo.one) (l':=l) (fun k=>by
  rw [Pl.zt]
  split
  · rfl
  · rename_i hk
    exact (ydx fun x hx e=>hk (by rw [<- e]; exact hn x hx)).symm)
 rw [Pl.qW ρ _ _ Mo.one_nonneg,Mo.val_one] at h1
 grind
theorem Pl.qE (ρ:Int->Rat) (p:Pl):zdq ρ (p.qe Mo.one)=p.val ρ:=by
 rw [Pl.qW ρ p _ Mo.one_nonneg,Mo.val_one]; grind
def Mo.mul (m n:Mo):Mo:=⟨m.a+n.a,m.b+n.b,m.c+n.c,m.d+n.d⟩
theorem Mo.mul_nonneg {m n:Mo} (h:m.qg) (k:n.qg):(m.mul n).qg:=by unfold Mo.qg Mo.mul at *; simp only at *; omega
theorem Mo.je {m n:Mo} {E F:Nat} (h:m.le E) (k:n.le F):(m.mul n).le ((E+F:Nat):Int):=by unfold Mo.le Mo.mul at *; simp only; omega
theorem Mo.val_mul (ρ:Int->Rat) {m n:Mo} (h:m.qg) (k:n.qg):(m.mul n).val ρ=m.val ρ * n.val ρ:=by
 unfold Mo.qg at h k;unfold Mo.val Mo.mul;rw [Int.toNat_add h.1 k.1,Int.toNat_add h.2.1 k.2.1,Int.toNat_add h.2.2.1 k.2.2.1,Int.toNat_add h.2.2.2 k.2.2.2];simp only [qec]
 grind
def stm (c:Int) (m:Mo) (l:Sp):Sp:=l.map fun x=>(c * x.1,m.mul x.2)
def jd6 : Sp -> Sp -> Sp
 | [],_=>[]
 | (c,m) :: r,l=>stm c m l ++ jd6 r l
theorem uf9 {c:Int} {m:Mo} {l:Sp} {x:Int × Mo} (h:x ∈ stm c m l):∃ y ∈ l,x=(c * y.1,m.mul y.2):=by
 unfold stm at h;obtain ⟨y,hy,rfl⟩:=sF.1 h;exact ⟨y,hy,rfl⟩
theorem weo {k l:Sp} {x:Int × Mo} (h:x ∈ jd6 k l):∃ y ∈ k,∃ z ∈ l,x=(y.1 * z.1,y.2.mul z.2):=by
 induction k with
 | nil=>simp [jd6] at h
 | cons u k ih =>
   obtain ⟨c,m⟩:=u;rw [jd6] at h;rcases rq.1 h with h | h
   · obtain ⟨z,hz,rfl⟩:=uf9 h;exact ⟨(c,m),rB ..,z,hz,rfl⟩
   · obtain ⟨y,hy,z,hz,rfl⟩:=ih h;exact ⟨y,rk _ hy,z,hz,rfl⟩
theorem kf9 (ρ:Int->Rat) (c:Int) {m:Mo} (hm:m.qg) {l:Sp} (hl:∀ x ∈ l,x.2.qg):zdq ρ (stm c m l)=(c:Rat) * m.val ρ * zdq ρ l:=by
 induction l with
 | nil=>simp [stm,zdq]
 | cons x l ih =>
   obtain ⟨d,n⟩:=x;have h1:=ih fun x hx=>hl x (rk _ hx)
   have h2:=hl (d,n) (rB ..);unfold stm at h1 ⊢;simp only [rL,zdq,h1,Mo.val_mul ρ hm h2]
   push_cast
   grind
theorem jfw (ρ:Int->Rat) {k l:Sp} (hk:∀ x ∈ k,x.2.qg) (hl:∀ x ∈ l,x.2.qg):zdq ρ (jd6 k l)=zdq ρ k * zdq ρ l:=by
 induction k with
 | nil=>simp [jd6,zdq]
 | cons x k ih =>
   obtain ⟨c,m⟩:=x;rw [jd6,gd1,kf9 ρ c (hk _ (rB ..)) hl,ih fun x hx=>hk x (rk _ hx)];simp only [zdq]
   grind
theorem vf9 (c:Int) (m:Mo) (l:Sp):jdo (stm c m l)=c.natAbs * jdo l:=by
 induction l with
 | nil=>simp [stm,jdo]
 | cons x l ih =>
   obtain ⟨d,n⟩:=x;unfold stm at ih ⊢;simp only [rL,jdo,ih,tP,pD]
theorem je3 (k l:Sp):jdo (jd6 k l)=jdo k * jdo l:=by
 induction k with
 | nil=>simp [jd6,jdo]
 | cons x k ih =>
   obtain ⟨c,m⟩:=x;rw [jd6,qd9,vf9,ih,vd2,pT]
theorem gem {k l:Sp} (hk:∀ x ∈ k,x.2.qg) (hl:∀ x ∈ l,x.2.qg):∀ x ∈ jd6 k l,x.2.qg:=fun x hx=>by
 obtain ⟨y,hy,z,hz,rfl⟩:=weo hx;exact Mo.mul_nonneg (hk y hy) (hl z hz)
def Pl.add (p q:Pl):Pl:=Pl.zY (p.qe Mo.one ++ q.qe Mo.one)
def Pl.mul (p q:Pl):Pl:=Pl.zY (jd6 (p.qe Mo.one) (q.qe Mo.one))
theorem Pl.xI (p q:Pl):(p.add q).Can:=Pl.xB _
theorem Pl.qy (p q:Pl):(p.mul q).Can:=Pl.xB _
theorem Pl.xU (ρ:Int->Rat) (p q:Pl):(p.add q).val ρ=p.val ρ+q.val ρ:=by
 unfold Pl.add;rw [Pl.zj ρ (fun x hx=>(rq.1 hx).elim (p.qi x) (q.qi x)),gd1,Pl.qE,Pl.qE]
theorem Pl.qB (ρ:Int->Rat) (p q:Pl):(p.mul q).val ρ=p.val ρ * q.val ρ:=by
 unfold Pl.mul;rw [Pl.zj ρ (gem p.qi q.qi),jfw ρ p.qi q.qi,Pl.qE,Pl.qE]
theorem Pl.qC (ρ:Int->Rat) (z:Int):(Pl.const z).val ρ=(z:Rat):=by
 have:=Pl.qE ρ (Pl.const z);rw [Pl.xP] at this;simp only [zdq,Mo.val_one] at this
 grind
theorem Pl.qS (ρ:Int->Rat):Pl.zero.val ρ=0:=by simp [Pl.zero,Pl.val,sgn,val]
theorem Pl.zo {p:Pl} (hp:p.Can) (h:∀ ρ,p.val ρ=0):p=Pl.zero:=Pl.qH hp Pl.qA fun ρ=>by rw [h,Pl.qS]
mutual
def Pl.ex (E : Nat) : Pl -> Prop
 | .mk l _ _ cs=>l<=0\/(cs.length<=E+1/\kec E cs)
def kec (E : Nat) : List Pl -> Prop
 | []=>True
 | c :: r=>c.ex E/\kec E r
end
mutual
def Pl.nr : Pl -> Nat
 | .mk l n d cs=>if l<=0 then (sgn n (val d)).natAbs else jdu cs
def jdu : List Pl -> Nat
 | []=>0
 | c :: r=>c.nr+jdu r
end
theorem vep {E:Nat} {cs:List Pl} (h:kec E cs):∀ c ∈ cs,c.ex E:=by
 induction cs with
 | nil=>simp
 | cons y r ih=>rw [kec] at h; simpa using ⟨h.1,ih h.2⟩
theorem zfd {E:Nat} {cs:List Pl} (h:∀ c ∈ cs,c.ex E):kec E cs:=by
 induction cs with
 | nil=>trivial
 | cons y r ih=>rw [kec]; exact ⟨h y (by simp),ih fun c hc=>h c (by simp [hc])⟩
theorem we4 {cs:List Pl} {c:Pl} (h:c ∈ cs):c.nr<=jdu cs:=by
 induction cs with
 | nil=>cases h
 | cons y r ih =>
   rw [jdu];rcases pI.1 h with rfl | h
   · omega
   · have:=ih h; omega
theorem xen (a b:List Pl):jdu (a ++ b)=jdu a+jdu b:=by
 induction a with
 | nil=>simp [jdu]
 | cons x a ih=>rw [rj,jdu,jdu,ih]; omega
mutual
theorem Pl.xS {E F : Nat} (hEF : E <= F) : ∀ p : Pl, p.ex E -> p.ex F
 | .mk l _ _ cs,h=>by rw [Pl.ex] at h ⊢; rcases h with h | h; exact .inl h; exact .inr ⟨by omega,jey hEF cs h.2⟩
theorem jey {E F : Nat} (hEF : E <= F) : ∀ cs : List Pl, kec E cs -> kec F cs
 | [],_=>trivial
 | c :: r,h=>by rw [kec] at h ⊢; exact ⟨Pl.xS hEF c h.1,jey hEF r h.2⟩
end
theorem Pl.xH {l:Int} {n:Bool} {d:List Nat} {cs:List Pl} (h:(Pl.mk l n d cs).Can) (hl:¬ l<=0):l<=4/\wdp l cs:=⟨h.qp.2,(h.kids (by omega)).2.2.2.1⟩
theorem Mo.zH (m:Mo) (i e j:Int) (hj:0 < j) (hj4:j<=4) (hi:0 < i) (hi4:i<=4) (h:j ≠ i):(m.put i e).get j=m.get j:=by
 have:=Mo.qK m i.toNat e (by omega) (by omega) j.toNat (by omega) (by omega);rw [show ((i.toNat:Nat):Int)=i by omega,show ((j.toNat:Nat):Int)=j by omega,if_neg (by omega)] at this;exact this
mutual
theorem Pl.zr (E : Nat) : ∀ (p : Pl) (m : Mo), p.Can -> p.ex E -> m.le E -> (∀ i : Int, 0 < i -> i <= p.lv -> m.get i = 0) -> ∀ x ∈ p.qe m, x.2.le E
 | .mk l n d cs,m,hc,h,hm,h0,x,hx=>by
   rw [Pl.qe] at hx
   by_cases h1:l<=0
   · rw [if_pos h1] at hx;rw [rb.1 hx];exact hm
   · rw [if_neg h1] at hx;obtain ⟨hl4,hk⟩:=Pl.xH hc h1;rw [if_neg (by omega)] at hx;rw [Pl.ex] at h;have h:=h.resolve_left h1;have hz:=h0 l (by omega) (uH _);rw [hz] at hx;exact ver E cs m l 0 hk h.2 hm (by omega) hl4 (by omega) (by omega) (fun i hi hil=>h0 i hi (by show i<=l; omega)) x hx
theorem ver (E : Nat) : ∀ (cs : List Pl) (m : Mo) (l e : Int), wdp l cs -> kec E cs -> m.le E -> 0 < l -> l <= 4 -> 0 <= e -> e + cs.length <= E + 1 -> (∀ i : Int, 0 < i -> i < l -> m.get i = 0) -> ∀ x ∈ qdo m l e cs, x.2.le E
 | [],m,l,e,_,_,_,_,_,_,_,_,x,hx=>by rw [qdo] at hx; cases hx
 | c :: r,m,l,e,hc,h,hm,hl0,hl4,he,hle,h0,x,hx=>by
   rw [qdo] at hx;rw [kec] at h;rw [py] at hle;unfold wdp at hc;rcases rq.1 hx with hx | hx
   · exact Pl.zr E c _ hc.2.1 h.1 (hm.put l e (by omega)) (fun i hi hil=>by rw [Mo.zH m l e i hi (by omega) hl0 hl4 (by omega)]; exact h0 i hi (by omega)) x hx
   · exact ver E r m l (e+1) hc.2.2 h.2 hm hl0 hl4 (by omega) (by omega) h0 x hx
end
mutual
theorem Pl.qX : ∀ (p : Pl) (m : Mo), p.Can -> jdo (p.qe m) = p.nr
 | .mk l n d cs,m,hc=>by
   rw [Pl.qe,Pl.nr]
   by_cases h1:l<=0
   · rw [if_pos h1,if_pos h1]; simp [jdo]
   · rw [if_neg h1,if_neg h1];obtain ⟨hl4,hk⟩:=Pl.xH hc h1;rw [if_neg (by omega)];exact ker cs m l _ hk
theorem ker : ∀ (cs : List Pl) (m : Mo) (l e : Int), wdp l cs -> jdo (qdo m l e cs) = jdu cs
 | [],m,l,e,_=>rfl
 | c :: r,m,l,e,hc=>by
   unfold wdp at hc;rw [qdo,qd9,jdu,Pl.qX c _ hc.2.1,ker r m l (e+1) hc.2.2]
end
theorem Pl.qL (z:Int):(Pl.const z).nr=z.natAbs:=by rw [Pl.const,Pl.nr,if_pos (uH _),zdk,gd2]
theorem jfg (f:Int × Mo->Int) (k:Nat) (l:Sp):jdu ((List.range k).map fun i=>Pl.const (jdo (l.filter fun x=>decide (f x=Int.ofNat i))))<=jdo l:=by
 have h1:∀ k,jdu ((List.range k).map fun i=>Pl.const (jdo (l.filter fun x=>decide (f x=Int.ofNat i))))=jdo (l.filter fun x=>decide (0<=f x/\f x < k)):=by
  intro k
  induction k with
  | zero =>
    rw [show (l.filter fun x=>decide (0<=f x/\f x < ((0:Nat):Int)))=[] from List.filter_eq_nil_iff.2 fun x _=>by simp]
    rfl
  | succ k ih =>
    rw [List.range_succ,rC,xen,ih];simp only [rL,List.map_nil,jdu,Pl.qL,rP,sx];clear ih
    induction l with
    | nil=>rfl
    | cons x l ih =>
      obtain ⟨c,m⟩:=x;simp only [ri,decide_eq_true_eq]
      by_cases h1:f (c,m)=Int.ofNat k
      · have h2:¬ (0<=f (c,m)/\f (c,m) < (k:Int)):=by rw [h1]; simp
        have h3:0<=f (c,m)/\f (c,m) < ((k+1:Nat):Int):=by rw [h1]; simp; omega
        rw [if_neg h2,if_pos h1,if_pos h3,vd2,vd2];omega
      · rw [if_neg h1];have h4:f (c,m) ≠ (k:Int):=h1
        by_cases h2:0<=f (c,m)/\f (c,m) < (k:Int)
        · have h3:0<=f (c,m)/\f (c,m) < ((k+1:Nat):Int):=by omega
          rw [if_pos h2,if_pos h3,vd2,vd2];omega
        · have h3:¬ (0<=f (c,m)/\f (c,m) < ((k+1:Nat):Int)):=by omega
          rw [if_neg h2,if_neg h3];exact ih
 rw [h1];exact je9 _ l
theorem zgb {α:Type} (f g:α->Pl) (l:List α) (h:∀ x ∈ l,(f x).nr<=(g x).nr):jdu (l.map f)<=jdu (l.map g):=by
 induction l with
 | nil=>simp [jdu]
 | cons x l ih =>
   simp only [rL,jdu];have h1:=h x (by simp);have h2:=ih fun y hy=>h y (by simp [hy])
   omega
theorem xgp (n:Nat):∀ l:Sp,(bld n l).nr<=jdo l:=by
 induction n with
 | zero =>
   intro l;cases l with
   | nil=>simp [bld,Pl.zero,Pl.nr,sgn,val]
   | cons x r=>obtain ⟨c,m⟩:=x; rw [bld,Pl.qL,vd2]; omega
 | succ n ih =>
   intro l;cases l with
   | nil=>simp [bld,Pl.zero,Pl.nr,sgn,val]
   | cons x r =>
     obtain ⟨c,m⟩:=x;rw [bld]
     split
     · exact ih _
     · rw [Pl.nr,if_neg (by omega)];refine po (zgb _ (fun (i:Nat)=>Pl.const (jdo (((c,m) :: r).filter fun x=>decide (x.2.get (n+1:Nat)=Int.ofNat i)))) _ fun i _=>?_) (jfg (fun x=>x.2.get (n+1:Nat)) _ _);rw [Pl.qL,rP];exact ih _
theorem qgp (E n:Nat):∀ l:Sp,(∀ x ∈ l,x.2.le E)->(bld n l).ex E:=by
 induction n with
 | zero =>
   intro l _;cases l with
   | nil=>simp [bld,Pl.zero,Pl.ex]
   | cons x r=>obtain ⟨c,m⟩:=x; simp [bld,Pl.const,Pl.ex]
 | succ n ih =>
   intro l hl;cases l with
   | nil=>simp [bld,Pl.zero,Pl.ex]
   | cons x r =>
     obtain ⟨c,m⟩:=x;rw [bld]
     split
     · exact ih _ hl
     · rw [Pl.ex];have hg:m.get ((n+1:Nat):Int)<=E:=(hl (c,m) (by simp)).get ((n+1:Nat):Int);refine .inr ⟨by rw [pC,uF]; omega,zfd fun p hp=>?_⟩;obtain ⟨i,-,rfl⟩:=sF.1 hp;exact ih _ (fun x hx=>hl x (sL.1 hx).1)
theorem Pl.yo {E:Nat} {l:Sp} (h:∀ x ∈ l,x.2.le E):(Pl.zY l).ex E:=qgp E 4 _ fun x hx=>by
 obtain ⟨-,y,hy,e⟩:=zd0 hx;rw [<- e];exact h y hy
theorem Pl.zk (l:Sp):(Pl.zY l).nr<=jdo l:=po (xgp 4 _) (ufn l)
theorem Pl.jt (E:Nat) (n:Nat):∀ p:Pl,p.Can->p.ex E->p.lv<=n->p.sz<=(E+2) ^ n:=by
 induction n with
 | zero =>
   intro p hc h hl;obtain ⟨l,ng,d,cs⟩:=p;unfold Pl.Can at hc
   change l<=0 at hl
   rcases hc with hc | hc
   · rw [hc.2.1,Pl.sz,zdx]; simp
   · omega
 | succ n ih =>
   intro p hc h hl;obtain ⟨l,ng,d,cs⟩:=p
   change l<=((n+1:Nat):Int) at hl
   by_cases h1:l<=0
   · unfold Pl.Can at hc;rcases hc with hc | hc
     · rw [hc.2.1,Pl.sz,zdx]; exact rF (by omega)
     · omega
   · obtain ⟨-,hk⟩:=Pl.xH hc h1;rw [Pl.ex] at h;have h:=h.resolve_left h1;have key:∀ ks:List Pl,(∀ c ∈ ks,c.sz<=(E+2) ^ n)->zdx ks<=ks.length * (E+2) ^ n:=by
      intro ks
      induction ks with
      | nil=>simp [zdx]
      | cons y r ihr =>
        intro hh;have h1:=hh y (by simp);have h2:=ihr fun z hz=>hh z (by simp [hz])
        rw [zdx,py,pT];omega
     have h2:=key cs fun c hcm=>ih c (hk.mem c hcm).2 (vep h.2 c hcm) (by have:=(hk.mem c hcm).1; omega)
     have h3:cs.length * (E+2) ^ n<=(E+1) * (E+2) ^ n:=pE _ h.1;have h4:(E+2) ^ (n+1)=(E+1) * (E+2) ^ n+(E+2) ^ n:=by rw [pP,re,<- Nat.succ_mul]
     have h5:0 < (E+2) ^ n:=rF (by omega);rw [Pl.sz];omega
mutual
theorem Pl.yT (D : Nat) : ∀ p : Pl, p.Can -> p.nr < B32 ^ D -> p.dm <= D
 | .mk l n d cs,hc,h=>by
   unfold Pl.Can at hc;rw [Pl.nr] at h;rw [Pl.dm];rcases hc with hc | hc
   · rw [if_pos (by omega),gdo] at h;rw [hc.2.1,xd8,hc.2.2.1];have:=gdk h;omega
   · rw [if_neg (by omega)] at h;have:=wfc D cs l hc.2.2.2.2.2.1 h;rw [hc.2.2.2.1,pQ];omega
theorem wfc (D : Nat) : ∀ (cs : List Pl) (l : Int), wdp l cs -> jdu cs < B32 ^ D -> xd8 cs <= D
 | [],_,_,_=>by rw [xd8]; omega
 | c :: r,l,hc,h=>by
   unfold wdp at hc;rw [jdu] at h;rw [xd8];have h1:=Pl.yT D c hc.2.1 (by omega);have h2:=wfc D r l hc.2.2 (by omega);omega
end
structure Fit (p : Pl) (E D : Nat) : Prop where
 can:p.Can
 ex:p.ex E
 nr:p.nr < B32 ^ D
namespace Fit
variable {p q:Pl} {E D F G:Nat}
theorem sz (h:Fit p E D):p.sz<=(E+2) ^ 4:=Pl.jt E 4 p h.can h.ex h.can.qp.2
theorem dm (h:Fit p E D):p.dm<=D:=Pl.yT D p h.can h.nr
theorem mono (h:Fit p E D) (hE:E<=F) (hD:D<=G):Fit p F G:=⟨h.can,Pl.xS hE p h.ex,pr h.nr (pK (by decide) hD)⟩
theorem exps (h:Fit p E D):∀ x ∈ p.qe Mo.one,x.2.le E:=Pl.zr E p Mo.one h.can h.ex (by unfold Mo.le Mo.one; simp) (fun i h0 h4=>by unfold Mo.one Mo.get; split <;> (try split) <;> (try split) <;> rfl)
theorem nrm (h:Fit p E D):jdo (p.qe Mo.one)=p.nr:=Pl.qX p _ h.can
theorem kid {l:Int} {n:Bool} {d:List Nat} {cs:List Pl} (h:Fit (.mk l n d cs) E D) (hl:0 < l) {c:Pl} (hc:c ∈ cs):Fit c E D:=by
 obtain ⟨h1,h2,h3⟩:=h;obtain ⟨-,hk⟩:=Pl.xH h1 (by omega);rw [Pl.ex] at h2;rw [Pl.nr,if_neg (by omega)] at h3;have:=we4 hc;exact ⟨(hk.mem c hc).2,vep (h2.resolve_left (by omega)).2 c hc,by omega⟩
theorem len {l:Int} {n:Bool} {d:List Nat} {cs:List Pl} (h:Fit (.mk l n d cs) E D) (hl:0 < l):cs.length<=E+1:=by
 have h2:=h.ex;rw [Pl.ex] at h2;exact (h2.resolve_left (by omega)).1
theorem const {z:Int} (h:z.natAbs < B32 ^ D):Fit (Pl.const z) E D:=⟨yd0 z,by unfold Pl.const; rw [Pl.ex]; exact .inl (uH _),by rw [Pl.qL]; exact h⟩
theorem zero:Fit Pl.zero E D:=⟨Pl.qA,by unfold Pl.zero; rw [Pl.ex]; exact .inl (uH _),by unfold Pl.zero; rw [Pl.nr,if_pos (uH _)]; exact rF (by decide)⟩
theorem add (h:Fit p E D) (k:Fit q F G):Fit (p.add q) (max E F) (max D G+1):=by
 refine ⟨Pl.xI p q,Pl.yo fun x hx=>?_,?_⟩
 · rcases rq.1 hx with hx | hx
   · exact (h.exps x hx).mono (by omega)
   · exact (k.exps x hx).mono (by omega)
 · have h1:=Pl.zk (p.qe Mo.one ++ q.qe Mo.one);rw [qd9,h.nrm,k.nrm] at h1;have h2:B32 ^ D<=B32 ^ max D G:=pK (by decide) (by omega);have h3:B32 ^ G<=B32 ^ max D G:=pK (by decide) (by omega);have h4:=h.nr;have h5:=k.nr;unfold Pl.add;rw [pP];have h6:B32 ^ max D G * 2<=B32 ^ max D G * B32:=pX _ (by decide);omega
theorem mul (h:Fit p E D) (k:Fit q F G):Fit (p.mul q) (E+F) (D+G):=by
 refine ⟨Pl.qy p q,Pl.yo fun x hx=>?_,?_⟩
 · obtain ⟨y,hy,z,hz,rfl⟩:=weo hx;exact Mo.je (h.exps y hy) (k.exps z hz)
 · have h1:=Pl.zk (jd6 (p.qe Mo.one) (q.qe Mo.one));rw [je3,h.nrm,k.nrm] at h1;unfold Pl.mul;rw [su];refine sC h1 (tH h.nr (tq k.nr) (rF (by decide)))
end Fit
theorem Pl.mul_zero {p q:Pl} (hp:p.Can) (hq:q.Can) (h:∀ ρ,p.val ρ * q.val ρ=0):p=Pl.zero\/q=Pl.zero:=by
 obtain ⟨E,hE⟩:=Mo.le_sup (kdr (p.qe Mo.one) ++ kdr (q.qe Mo.one));have key:∀ r:Pl,r.Can->(∀ x ∈ kdr (r.qe Mo.one),x.2.le E)->r ≠ Pl.zero->∀ B,jdo (kdr (r.qe Mo.one))+1<=B->r.val (kro (E+1) B) ≠ 0:=by
  intro r hr hle hne B hB h0;rw [<- Pl.qE,<- vej _ (xd5 r.qi),xe2] at h0;refine gfd (ud2 _) (fun x hx=>(zd0 hx).1) E hle B hB (fun e=>hne ?_) (by exact_mod_cast h0);rw [<- Pl.qR hr];unfold Pl.nf Pl.zY;rw [e]
  rfl
 by_cases h1:p=Pl.zero
 · exact .inl h1
 by_cases h2:q=Pl.zero
 · exact .inr h2
 exfalso
 have h3:=h (kro (E+1) (jdo (kdr (p.qe Mo.one))+jdo (kdr (q.qe Mo.one))+1));rcases Rat.mul_eq_zero.1 h3 with h4 | h4
 · exact key p hp (fun x hx=>hE x (List.mem_append_left _ hx)) h1 _ (by omega) h4
 · exact key q hq (fun x hx=>hE x (tC _ hx)) h2 _ (by omega) h4
theorem Pl.mul_eq_zero {p q:Pl} (hp:p.Can) (hq:q.Can) (h:p.mul q=Pl.zero):p=Pl.zero\/q=Pl.zero:=
 Pl.mul_zero hp hq fun ρ=>by rw [<- Pl.qB,h,Pl.qS]
theorem Pl.ym {l:Sp} {n:Nat} (hn4:n<=4) (hnn:∀ x ∈ l,x.2.qg) (h:∀ x ∈ l,∀ i:Nat,n < i->i<=4->x.2.get i=0):(Pl.zY l).lv<=n:=by
 have hz:∀ i:Nat,0 < i->i<=4->Mo.one.get i=0:=fun i h1 h2=>by
  rcases (show i=1\/i=2\/i=3\/i=4 by omega) with rfl | rfl | rfl | rfl <;> rfl
 have ha:veu n Mo.one (kdr l):=fun x hx i h1 h2=>by
  obtain ⟨-,y,hy,e⟩:=zd0 hx;rw [<- e,h y hy i h1 h2,hz i (by omega) h2]
 have ard:∀ x ∈ kdr l,x.2.qg:=fun x hx=>(zd0 hx).1
 obtain ⟨h1,h2⟩:=xfe n hn4 (kdr l) Mo.one (ud2 l) ard ha (fun i hi hin=>hz i hi (by omega));have h3:=xeq n hn4 (kdr l) Mo.one (ud2 l) ard ha (fun i hi hin=>hz i hi (by omega));have h4:bld n (kdr l)=Pl.zY l:=Pl.zK h1 (Pl.xB l) fun k=>by
  rw [h3,Pl.zt,ueg]
 rw [<- h4];exact h2
theorem Pl.xM {p:Pl} (hp:p.Can) {n:Nat} (h:p.lv<=n):∀ x ∈ p.qe Mo.one,∀ i:Nat,n < i->i<=4->x.2.get i=0:=fun x hx i h1 h2=>by
 rw [Pl.qF p Mo.one n hp h x hx i h1 h2];rcases (show i=1\/i=2\/i=3\/i=4 by omega) with rfl | rfl | rfl | rfl <;> rfl
theorem Mo.yO (m n:Mo) (i:Int):(m.mul n).get i=m.get i+n.get i:=by
 unfold Mo.mul Mo.get
 split <;> (try split) <;> (try split) <;> rfl
theorem Pl.yt {p q:Pl} (hp:p.Can) (hq:q.Can) {n:Int} (h1:p.lv<=n) (h2:q.lv<=n) (hn:n<=4):(p.mul q).lv<=n:=by
 have h0:=hp.qp.1;obtain ⟨k,rfl⟩:∃ k:Nat,n=k:=⟨n.toNat,by omega⟩;refine Pl.ym (by omega) (gem p.qi q.qi) fun x hx i hi hi4=>?_
 obtain ⟨y,hy,z,hz,rfl⟩:=weo hx;rw [Mo.yO,Pl.xM hp h1 y hy i hi hi4,Pl.xM hq h2 z hz i hi hi4]
 rfl
theorem Pl.mul_comm (p q:Pl):p.mul q=q.mul p:=Pl.qH (Pl.qy _ _) (Pl.qy _ _) fun ρ=>by rw [Pl.qB,Pl.qB]; grind
theorem Pl.xV (p:Pl):Pl.zero.mul p=Pl.zero:=Pl.zo (Pl.qy _ _) fun ρ=>by rw [Pl.qB,Pl.qS]; grind
theorem Pl.zB (p:Pl):p.mul Pl.zero=Pl.zero:=by rw [Pl.mul_comm,Pl.xV]
theorem Pl.yh (a b:Int):(Pl.const a).mul (Pl.const b)=Pl.const (a * b):=Pl.qH (Pl.qy _ _) (yd0 _) fun ρ=>by
 rw [Pl.qB,Pl.qC,Pl.qC,Pl.qC]; push_cast; rfl
theorem kef {p:Pl} (h:p.Can) (hl:p.lv=0):p=Pl.const p.z:=by
 obtain ⟨l,n,d,cs⟩:=p
 change l=0 at hl
 subst hl;unfold Pl.Can at h;rcases h with ⟨-,rfl,hd,hn⟩ | h
 · show _=Pl.const (sgn n (val d));unfold Pl.const;rw [gdo,<- hd]
   congr 1
   cases n
   · simp [sgn]
   · have h1:d ≠ []:=fun e=>by have:=hn e; cases this
     have h2:val d ≠ 0:=fun e=>h1 (by rw [hd,e,jdn])
     simp only [sgn];simp;omega
 · omega
theorem jfp (ρ:Int->Rat) (l:Int) (f:Pl->Pl) (r:Rat) (cs:List Pl) (h:∀ c ∈ cs,(f c).val ρ=c.val ρ * r):wdk ρ l (cs.map f)=wdk ρ l cs * r:=by
 induction cs with
 | nil=>simp [wdk]
 | cons x cs ih =>
   simp only [rL,wdk];rw [h x (by simp),ih fun c hc=>h c (by simp [hc])]
   grind
theorem Pl.mk_val (ρ:Int->Rat) {l:Int} (n:Bool) (d:List Nat) (cs:List Pl) (h0:0 < l) (h4:l<=4):(Pl.mk l n d cs).val ρ=wdk ρ l cs:=by
 rw [Pl.val,if_neg (by omega),if_neg (by omega)]
theorem qe5 {l:Int} {cs:List Pl} (h0:0 < l) (h4:l<=4) (h2:2<=cs.length) (hk:wdp l cs) (hz:cs.getLast? ≠ some Pl.zero):(Pl.mk l false [] cs).Can:=by
 unfold Pl.Can;exact .inr ⟨by omega,h4,rfl,rfl,h2,hk,hz⟩
theorem Pl.jd {l:Int} {n:Bool} {d:List Nat} {cs:List Pl} {q:Pl} (hp:(Pl.mk l n d cs).Can) (hq:q.Can) (hl:q.lv < l) (hz:q ≠ Pl.zero):(Pl.mk l n d cs).mul q=.mk l false [] (cs.map fun c=>c.mul q):=by
 have hl0:0 < l:=by have:=hq.qp.1; omega
 obtain ⟨rfl,rfl,h2,hk,ad9⟩:=hp.kids hl0;have hl4:l<=4:=hp.qp.2;refine Pl.qH (Pl.qy _ _) (qe5 hl0 hl4 (by rw [pC]; exact h2) (vd5 fun c hc=>?_) ?_) fun ρ=>?_
 · obtain ⟨c',hc',rfl⟩:=sF.1 hc;have h3:=hk.mem c' hc';have:=Pl.yt (n:=l - 1) h3.2 hq (by omega) (by omega) (by omega);exact ⟨by omega,Pl.qy _ _⟩
 · rw [List.getLast?_map];intro e;obtain ⟨c,hc,he⟩:=uw.1 e;rcases Pl.mul_eq_zero (hk.mem c (List.mem_of_getLast? hc)).2 hq he with h | h
   · rw [h] at hc; exact ad9 hc
   · exact hz h
 · rw [Pl.qB,Pl.mk_val ρ _ _ _ hl0 hl4,Pl.mk_val ρ _ _ _ hl0 hl4,jfp ρ l _ (q.val ρ) cs fun c _=>Pl.qB ρ c q]
theorem Pl.yN {p q:Pl} (hp:p.Can) (hq:q.Can) (hl:q.lv < p.lv) (hz:q ≠ Pl.zero):p.mul q=.mk p.lv false [] (p.cs.map fun c=>c.mul q):=by
 obtain ⟨l,n,d,cs⟩:=p;exact Pl.jd hp hq hl hz
def udq : List Pl -> List Pl
 | []=>[]
 | c :: r=>if c.xw=true/\udq r=[] then [] else c :: udq r
def wdx (l:Int) (cs:List Pl):Pl:=
 match udq cs with
 | []=>Pl.zero
 | [c]=>c
 | c :: d :: r=>.mk l false [] (c :: d :: r)
theorem xe9 {a:List Pl} {x:Pl} (h:x.xw=true):udq (a ++ [x])=udq a:=by
 induction a with
 | nil=>simp [udq,h]
 | cons y a ih=>rw [rj,udq,udq,ih]
theorem kfn {a:List Pl} {x:Pl} (h:x.xw=false):udq (a ++ [x])=a ++ [x]:=by
 induction a with
 | nil=>simp [udq,h]
 | cons y a ih=>rw [rj,udq,ih,if_neg (by simp)]
theorem ueo {l:Int} {cs:List Pl} {n:Nat} (hn:n<=cs.length) (h:udq cs=cs.take n):wdx l cs=if n=0 then Pl.zero else if h1:n=1/\0 < cs.length then cs[0]'h1.2 else .mk l false [] (cs.take n):=by
 unfold wdx;rw [h]
 match n,cs,hn with
 | 0,cs,_=>simp
 | 1,x :: cs,_=>simp
 | n+2,x :: y :: cs,_=>simp
theorem xfg {cs:List Pl} {c:Pl} (h:c ∈ udq cs):c ∈ cs:=by
 induction cs with
 | nil=>exact h
 | cons x cs ih =>
   rw [udq] at h
   split at h
   · cases h
   · rcases pI.1 h with rfl | h
     · exact rB ..
     · exact rk _ (ih h)
theorem qe9 {cs:List Pl} (hc:∀ c ∈ cs,c.Can):(udq cs).getLast? ≠ some Pl.zero:=by
 induction cs with
 | nil=>simp [udq]
 | cons x cs ih =>
   rw [udq]
   split
   · simp
   · rename_i h;intro e
     by_cases h1:udq cs=[]
     · rw [h1] at e;have e1:x=Pl.zero:=by simpa using e
       exact h ⟨(Pl.qN (hc x (by simp))).2 e1,h1⟩
     · obtain ⟨y,r,hr⟩:=List.exists_cons_of_ne_nil h1;rw [hr,List.getLast?_cons_cons,<- hr] at e;exact ih (fun c hcm=>hc c (by simp [hcm])) e
theorem yfg (ρ:Int->Rat) (l:Int) {cs:List Pl} (hc:∀ c ∈ cs,c.Can):wdk ρ l (udq cs)=wdk ρ l cs:=by
 induction cs with
 | nil=>rfl
 | cons x cs ih =>
   have h1:=ih fun c hcm=>hc c (by simp [hcm])
   rw [udq]
   split
   · rename_i h;rw [wdk,wdk,<- h1,h.2,(Pl.qN (hc x (by simp))).1 h.1,Pl.qS,wdk]
     grind
   · rw [wdk,wdk,h1]
theorem vex {l:Int} {cs:List Pl} (h0:0 < l) (h4:l<=4) (hk:wdp l cs):(wdx l cs).Can/\(wdx l cs).lv<=l/\∀ ρ,(wdx l cs).val ρ=wdk ρ l cs:=by
 have hc:∀ c ∈ cs,c.Can:=fun c hcm=>(hk.mem c hcm).2
 have ad9:=qe9 hc;have ab2:=fun ρ=>yfg ρ l hc
 have akI:∀ c ∈ udq cs,c.lv < l/\c.Can:=fun c hcm=>hk.mem c (xfg hcm)
 unfold wdx
 split
 · rename_i e;rw [e] at ab2;exact ⟨Pl.qA,by show (0:Int)<=l; omega,fun ρ=>by rw [<- ab2 ρ,Pl.qS,wdk]⟩
 · rename_i c e;rw [e] at ab2 akI;have h1:=akI c (by simp);exact ⟨h1.2,by omega,fun ρ=>by rw [<- ab2 ρ,wdk,wdk]; grind⟩
 · rename_i c d r e;rw [e] at ab2 akI ad9;exact ⟨qe5 h0 h4 (by simp) (vd5 akI) ad9,uH _,fun ρ=>by rw [<- ab2 ρ,Pl.mk_val ρ _ _ _ h0 h4]⟩
open Go.RowKit
end Go.Proofs.YtheefiaoimbeiaaGreatDoor
