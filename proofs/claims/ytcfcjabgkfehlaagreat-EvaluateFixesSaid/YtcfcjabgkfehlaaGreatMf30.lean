/- Polynomials in four variables, plain: a canonical polynomial is known by its values; sums and products. No program in sight. -/
import Derived.Test.YtcfcjabgkfehlaaGreatMf29
set_option linter.unusedSimpArgs false
set_option linter.unusedVariables false

namespace Go.Proofs.YtcfcjabgkfehlaaGreat
theorem kaw (x:Rat) (m n:Nat):x ^ (m+n)=x ^ m * x ^ n:=by
 induction n with
 | zero=>simp
 | succ n ih=>rw [<- Nat.add_assoc,Rat.pow_succ,ih,Rat.pow_succ]; grind
theorem wcc (x:Rat) (m n:Nat):x ^ (m * n)=(x ^ m) ^ n:=by
 induction n with
 | zero=>simp
 | succ n ih=>rw [Nat.mul_succ,kaw,ih,Rat.pow_succ]
def Mo.num (E:Nat) (m:Mo):Nat:=m.a.toNat+E * (m.b.toNat+E * (m.c.toNat+E * m.d.toNat))
theorem yap {E x x' y y':Nat} (hx:x < E) (h:y < y'):x+E * y < x'+E * y':=by
 have h1:E * (y+1)<=E * y':=Nat.mul_le_mul_left E h;rw [Nat.mul_add] at h1;omega
theorem Mo.num_lt {E:Nat} {m n:Mo} (hm:m.nonneg) (hn:n.nonneg) (hE:m.a < E/\m.b < E/\m.c < E/\m.d < E) (h:m.lt n):m.num E < n.num E:=by
 unfold Mo.lt at h;unfold Mo.nonneg at hm hn;unfold Mo.num;rcases h with h | ⟨h1,h | ⟨h2,h | ⟨h3,h⟩⟩⟩
 · exact yap (by omega) (yap (by omega) (yap (by omega) (by omega)))
 · rw [h1]; exact yap (by omega) (yap (by omega) (by omega))
 · rw [h1,h2]; exact yap (by omega) (by omega)
 · rw [h1,h2,h3]; omega
def zar (E B : Nat) : Sp -> Int
 | []=>0
 | (c,m) :: r=>c * (B:Int) ^ m.num E+zar E B r
def kro (E B:Nat) (i:Int):Rat:=(B:Rat) ^ (E ^ (i - 1).toNat)
theorem Mo.val_kro (E B:Nat) (m:Mo):m.val (kro E B)=(B:Rat) ^ m.num E:=by
 unfold Mo.val kro Mo.num;simp only [<- wcc,<- kaw]
 congr 1
 simp only [show ((1:Int) - 1).toNat=0 from rfl,show ((2:Int) - 1).toNat=1 from rfl,show ((3:Int) - 1).toNat=2 from rfl,show ((4:Int) - 1).toNat=3 from rfl,Nat.pow_zero,Nat.pow_one]
 grind
theorem ubg (E B:Nat) (l:Sp):zu (kro E B) l=(zar E B l:Rat):=by
 induction l with
 | nil=>simp [zu,zar]
 | cons x l ih =>
   obtain ⟨c,m⟩:=x;simp only [zu,zar,ih,Mo.val_kro]
   push_cast
   rfl
theorem vcp (E B K:Nat) (hB:0 < B) (l:Sp) (h:∀ x ∈ l,x.2.num E<=K):(zar E B l).natAbs<=jg l * B ^ K:=by
 induction l with
 | nil=>simp [zar]
 | cons x l ih =>
   obtain ⟨c,m⟩:=x;have h1:=ih fun x hx=>h x (List.mem_cons_of_mem _ hx)
   have h2:B ^ m.num E<=B ^ K:=Nat.pow_le_pow_right hB (h (c,m) (List.mem_cons_self ..));simp only [zar,jg];have h3:(c * (B:Int) ^ m.num E).natAbs=c.natAbs * B ^ m.num E:=by
    rw [Int.natAbs_mul,Int.natAbs_pow,Int.natAbs_natCast]
   have h4:c.natAbs * B ^ m.num E<=c.natAbs * B ^ K:=Nat.mul_le_mul_left _ h2;have h5:=Int.natAbs_add_le (c * (B:Int) ^ m.num E) (zar E B l);rw [Nat.add_mul];omega
theorem kai (c:Int) (m:Mo) (l:Sp):jg ((c,m) :: l)=c.natAbs+jg l:=rfl
theorem gbt {l:Sp} (h:jad l) (hn:∀ x ∈ l,x.2.nonneg) (E:Nat) (hE:∀ x ∈ l,x.2.le E) (B:Nat) (hB:jg l+1<=B) (hne:l ≠ []):zar (E+1) B l ≠ 0:=by
 intro h2;cases l with
 | nil=>exact hne rfl
 | cons x r =>
   obtain ⟨c,m⟩:=x;simp only [zar] at h2;have hc:=h.1;rw [kai] at hB;have hnum:∀ x ∈ r,x.2.num (E+1) < m.num (E+1):=fun x hx=>by
    refine Mo.num_lt (hn x (List.mem_cons_of_mem _ hx)) (hn _ (List.mem_cons_self ..)) ?_ (h.2.1 x hx);have:=hE x (List.mem_cons_of_mem _ hx);unfold Mo.le at this;omega
   have h3:(c * (B:Int) ^ m.num (E+1)).natAbs=c.natAbs * B ^ m.num (E+1):=by
    rw [Int.natAbs_mul,Int.natAbs_pow,Int.natAbs_natCast]
   have h4:(zar (E+1) B r).natAbs=(c * (B:Int) ^ m.num (E+1)).natAbs:=by omega
   have hc1:1<=c.natAbs:=by omega
   cases r with
   | nil =>
     simp only [zar,Int.natAbs_zero] at h4;rw [h3] at h4;have:0 < B ^ m.num (E+1):=Nat.pow_pos (by omega);have:=Nat.mul_le_mul_right (B ^ m.num (E+1)) hc1;omega
   | cons y r' =>
     have hy:=hnum y (List.mem_cons_self ..);obtain ⟨K,hK⟩:∃ K,m.num (E+1)=K+1:=⟨m.num (E+1) - 1,by omega⟩;have h5:=vcp (E+1) B K (by omega) (y :: r') (fun x hx=>by have:=hnum x hx; omega);rw [h4,h3,hK,Nat.pow_succ] at h5;have hp:0 < B ^ K:=Nat.pow_pos (by omega);generalize B ^ K=P at *;generalize jg (y :: r')=S at *;have h6:1 * (P * B)<=c.natAbs * (P * B):=Nat.mul_le_mul_right _ hc1;have h7:P * (S+2)<=P * B:=Nat.mul_le_mul_left _ (by omega);have h8:P * (S+2)=S * P+2 * P:=by grind
     omega
theorem kbv {l:Sp} (h:jad l) (hn:∀ x ∈ l,x.2.nonneg) (E:Nat) (hE:∀ x ∈ l,x.2.le E) (hz:∀ ρ,zu ρ l=0):l=[]:=by
 cases l with
 | nil=>rfl
 | cons x r =>
   have h1:=hz (kro (E+1) (jg (x :: r)+1));rw [ubg] at h1;exact absurd (by exact_mod_cast h1) (gbt h hn E hE _ (Nat.le_refl _) (by simp))
theorem Mo.le_sup (l:Sp):∃ E:Nat,∀ x ∈ l,x.2.le E:=by
 induction l with
 | nil=>exact ⟨0,by simp⟩
 | cons x r ih =>
   obtain ⟨E,h⟩:=ih;refine ⟨E+x.2.a.toNat+x.2.b.toNat+x.2.c.toNat+x.2.d.toNat,fun y hy=>?_⟩;rcases List.mem_cons.1 hy with rfl | hy
   · unfold Mo.le; omega
   · exact (h y hy).mono (by omega)
theorem jbi {l l':Sp} (hn:∀ x ∈ l,x.2.nonneg) (hn':∀ x ∈ l',x.2.nonneg) (h:∀ ρ,zu ρ l=zu ρ l') (k:Mo):jc l k=jc l' k:=by
 have hnn:∀ x ∈ l ++ gao l',x.2.nonneg:=fun x hx=>by
  rcases List.mem_append.1 hx with hx | hx
  · exact hn x hx
  · unfold gao at hx;obtain ⟨y,hy,rfl⟩:=List.mem_map.1 hx;exact hn' y hy
 obtain ⟨E,hE⟩:=Mo.le_sup (yl (l ++ gao l'));have h1:yl (l ++ gao l')=[]:=kbv (xac _) (fun x hx=>(yac hx).1) E hE (fun ρ=>by
  rw [zau ρ (xah hnn),vah,vbg,h ρ]
  grind)
 have h2:=xah hnn k;rw [h1,van,xbd] at h2;simp only [jc] at h2;omega
theorem Pl.val_uniq {p q:Pl} (hp:p.Can) (hq:q.Can) (h:∀ ρ,p.val ρ=q.val ρ):p=q:=by
 refine Pl.can_eq hp hq (jbi p.terms_one_nonneg q.terms_one_nonneg fun ρ=>?_);rw [Pl.terms_val ρ p _ Mo.one_nonneg,Pl.terms_val ρ q _ Mo.one_nonneg,h ρ]
theorem Pl.ofS_val (ρ:Int->Rat) {l:Sp} (hn:∀ x ∈ l,x.2.nonneg):(Pl.ofS l).val ρ=zu ρ l:=by
 have h1:=zau ρ (l:=(Pl.ofS l).terms Mo.one) (l':=l) (fun k=>by
  rw [Pl.ofS_coef]
  split
  · rfl
  · rename_i hk
    exact (kad fun x hx e=>hk (by rw [<- e]; exact hn x hx)).symm)
 rw [Pl.terms_val ρ _ _ Mo.one_nonneg,Mo.val_one] at h1
 grind
theorem Pl.terms_sval (ρ:Int->Rat) (p:Pl):zu ρ (p.terms Mo.one)=p.val ρ:=by
 rw [Pl.terms_val ρ p _ Mo.one_nonneg,Mo.val_one]; grind
def Mo.mul (m n:Mo):Mo:=⟨m.a+n.a,m.b+n.b,m.c+n.c,m.d+n.d⟩
theorem Mo.mul_nonneg {m n:Mo} (h:m.nonneg) (k:n.nonneg):(m.mul n).nonneg:=by unfold Mo.nonneg Mo.mul at *; simp only at *; omega
theorem Mo.mul_le {m n:Mo} {E F:Nat} (h:m.le E) (k:n.le F):(m.mul n).le ((E+F:Nat):Int):=by unfold Mo.le Mo.mul at *; simp only; omega
theorem Mo.val_mul (ρ:Int->Rat) {m n:Mo} (h:m.nonneg) (k:n.nonneg):(m.mul n).val ρ=m.val ρ * n.val ρ:=by
 unfold Mo.nonneg at h k;unfold Mo.val Mo.mul;rw [Int.toNat_add h.1 k.1,Int.toNat_add h.2.1 k.2.1,Int.toNat_add h.2.2.1 k.2.2.1,Int.toNat_add h.2.2.2 k.2.2.2];simp only [kaw]
 grind
def stm (c:Int) (m:Mo) (l:Sp):Sp:=l.map fun x=>(c * x.1,m.mul x.2)
def xan : Sp -> Sp -> Sp
 | [],_=>[]
 | (c,m) :: r,l=>stm c m l ++ xan r l
theorem wcl {c:Int} {m:Mo} {l:Sp} {x:Int × Mo} (h:x ∈ stm c m l):∃ y ∈ l,x=(c * y.1,m.mul y.2):=by
 unfold stm at h;obtain ⟨y,hy,rfl⟩:=List.mem_map.1 h;exact ⟨y,hy,rfl⟩
theorem ua5 {k l:Sp} {x:Int × Mo} (h:x ∈ xan k l):∃ y ∈ k,∃ z ∈ l,x=(y.1 * z.1,y.2.mul z.2):=by
 induction k with
 | nil=>simp [xan] at h
 | cons u k ih =>
   obtain ⟨c,m⟩:=u;rw [xan] at h;rcases List.mem_append.1 h with h | h
   · obtain ⟨z,hz,rfl⟩:=wcl h;exact ⟨(c,m),List.mem_cons_self ..,z,hz,rfl⟩
   · obtain ⟨y,hy,z,hz,rfl⟩:=ih h;exact ⟨y,List.mem_cons_of_mem _ hy,z,hz,rfl⟩
theorem ucl (ρ:Int->Rat) (c:Int) {m:Mo} (hm:m.nonneg) {l:Sp} (hl:∀ x ∈ l,x.2.nonneg):zu ρ (stm c m l)=(c:Rat) * m.val ρ * zu ρ l:=by
 induction l with
 | nil=>simp [stm,zu]
 | cons x l ih =>
   obtain ⟨d,n⟩:=x;have h1:=ih fun x hx=>hl x (List.mem_cons_of_mem _ hx)
   have h2:=hl (d,n) (List.mem_cons_self ..);unfold stm at h1 ⊢;simp only [List.map_cons,zu,h1,Mo.val_mul ρ hm h2]
   push_cast
   grind
theorem ycc (ρ:Int->Rat) {k l:Sp} (hk:∀ x ∈ k,x.2.nonneg) (hl:∀ x ∈ l,x.2.nonneg):zu ρ (xan k l)=zu ρ k * zu ρ l:=by
 induction k with
 | nil=>simp [xan,zu]
 | cons x k ih =>
   obtain ⟨c,m⟩:=x;rw [xan,vah,ucl ρ c (hk _ (List.mem_cons_self ..)) hl,ih fun x hx=>hk x (List.mem_cons_of_mem _ hx)];simp only [zu]
   grind
theorem gcl (c:Int) (m:Mo) (l:Sp):jg (stm c m l)=c.natAbs * jg l:=by
 induction l with
 | nil=>simp [stm,jg]
 | cons x l ih =>
   obtain ⟨d,n⟩:=x;unfold stm at ih ⊢;simp only [List.map_cons,jg,ih,Int.natAbs_mul,Nat.mul_add]
theorem qbi (k l:Sp):jg (xan k l)=jg k * jg l:=by
 induction k with
 | nil=>simp [xan,jg]
 | cons x k ih =>
   obtain ⟨c,m⟩:=x;rw [xan,yaf,gcl,ih,kai,Nat.add_mul]
theorem xa3 {k l:Sp} (hk:∀ x ∈ k,x.2.nonneg) (hl:∀ x ∈ l,x.2.nonneg):∀ x ∈ xan k l,x.2.nonneg:=fun x hx=>by
 obtain ⟨y,hy,z,hz,rfl⟩:=ua5 hx;exact Mo.mul_nonneg (hk y hy) (hl z hz)
def Pl.add (p q:Pl):Pl:=Pl.ofS (p.terms Mo.one ++ q.terms Mo.one)
def Pl.mul (p q:Pl):Pl:=Pl.ofS (xan (p.terms Mo.one) (q.terms Mo.one))
theorem Pl.add_can (p q:Pl):(p.add q).Can:=Pl.ofS_can _
theorem Pl.mul_can (p q:Pl):(p.mul q).Can:=Pl.ofS_can _
theorem Pl.add_val (ρ:Int->Rat) (p q:Pl):(p.add q).val ρ=p.val ρ+q.val ρ:=by
 unfold Pl.add;rw [Pl.ofS_val ρ (fun x hx=>(List.mem_append.1 hx).elim (p.terms_one_nonneg x) (q.terms_one_nonneg x)),vah,Pl.terms_sval,Pl.terms_sval]
theorem Pl.mul_val (ρ:Int->Rat) (p q:Pl):(p.mul q).val ρ=p.val ρ * q.val ρ:=by
 unfold Pl.mul;rw [Pl.ofS_val ρ (xa3 p.terms_one_nonneg q.terms_one_nonneg),ycc ρ p.terms_one_nonneg q.terms_one_nonneg,Pl.terms_sval,Pl.terms_sval]
theorem Pl.const_val (ρ:Int->Rat) (z:Int):(Pl.const z).val ρ=(z:Rat):=by
 have:=Pl.terms_sval ρ (Pl.const z);rw [Pl.const_terms] at this;simp only [zu,Mo.val_one] at this
 grind
theorem Pl.zero_val (ρ:Int->Rat):Pl.zero.val ρ=0:=by simp [Pl.zero,Pl.val,sgn,val]
theorem Pl.zero_of_val {p:Pl} (hp:p.Can) (h:∀ ρ,p.val ρ=0):p=Pl.zero:=Pl.val_uniq hp Pl.zero_can fun ρ=>by rw [h,Pl.zero_val]
mutual
def Pl.ex (E : Nat) : Pl -> Prop
 | .mk l _ _ cs=>l<=0\/(cs.length<=E+1/\qat E cs)
def qat (E : Nat) : List Pl -> Prop
 | []=>True
 | c :: r=>c.ex E/\qat E r
end
mutual
def Pl.nr : Pl -> Nat
 | .mk l n d cs=>if l<=0 then (sgn n (val d)).natAbs else yt cs
def yt : List Pl -> Nat
 | []=>0
 | c :: r=>c.nr+yt r
end
theorem xat {E:Nat} {cs:List Pl} (h:qat E cs):∀ c ∈ cs,c.ex E:=by
 induction cs with
 | nil=>simp
 | cons y r ih=>rw [qat] at h; simpa using ⟨h.1,ih h.2⟩
theorem xbt {E:Nat} {cs:List Pl} (h:∀ c ∈ cs,c.ex E):qat E cs:=by
 induction cs with
 | nil=>trivial
 | cons y r ih=>rw [qat]; exact ⟨h y (by simp),ih fun c hc=>h c (by simp [hc])⟩
theorem wbj {cs:List Pl} {c:Pl} (h:c ∈ cs):c.nr<=yt cs:=by
 induction cs with
 | nil=>cases h
 | cons y r ih =>
   rw [yt];rcases List.mem_cons.1 h with rfl | h
   · omega
   · have:=ih h; omega
theorem wa3 (a b:List Pl):yt (a ++ b)=yt a+yt b:=by
 induction a with
 | nil=>simp [yt]
 | cons x a ih=>rw [List.cons_append,yt,yt,ih]; omega
mutual
theorem Pl.ex_mono {E F : Nat} (hEF : E <= F) : ∀ p : Pl, p.ex E -> p.ex F
 | .mk l _ _ cs,h=>by rw [Pl.ex] at h ⊢; rcases h with h | h; exact .inl h; exact .inr ⟨by omega,gbd hEF cs h.2⟩
theorem gbd {E F : Nat} (hEF : E <= F) : ∀ cs : List Pl, qat E cs -> qat F cs
 | [],_=>trivial
 | c :: r,h=>by rw [qat] at h ⊢; exact ⟨Pl.ex_mono hEF c h.1,gbd hEF r h.2⟩
end
theorem Pl.can_kids {l:Int} {n:Bool} {d:List Nat} {cs:List Pl} (h:(Pl.mk l n d cs).Can) (hl:¬ l<=0):l<=4/\ut l cs:=⟨h.lv_nonneg.2,(h.kids (by omega)).2.2.2.1⟩
theorem Mo.get_put_ne (m:Mo) (i e j:Int) (hj:0 < j) (hj4:j<=4) (hi:0 < i) (hi4:i<=4) (h:j ≠ i):(m.put i e).get j=m.get j:=by
 have:=Mo.get_put m i.toNat e (by omega) (by omega) j.toNat (by omega) (by omega);rw [show ((i.toNat:Nat):Int)=i by omega,show ((j.toNat:Nat):Int)=j by omega,if_neg (by omega)] at this;exact this
mutual
theorem Pl.terms_ex (E : Nat) : ∀ (p : Pl) (m : Mo), p.Can -> p.ex E -> m.le E -> (∀ i : Int, 0 < i -> i <= p.lv -> m.get i = 0) -> ∀ x ∈ p.terms m, x.2.le E
 | .mk l n d cs,m,hc,h,hm,h0,x,hx=>by
   rw [Pl.terms] at hx
   by_cases h1:l<=0
   · rw [if_pos h1] at hx;rw [List.mem_singleton.1 hx];exact hm
   · rw [if_neg h1] at hx;obtain ⟨hl4,hk⟩:=Pl.can_kids hc h1;rw [if_neg (by omega)] at hx;rw [Pl.ex] at h;have h:=h.resolve_left h1;have hz:=h0 l (by omega) (Int.le_refl _);rw [hz] at hx;exact ga7 E cs m l 0 hk h.2 hm (by omega) hl4 (by omega) (by omega) (fun i hi hil=>h0 i hi (by show i<=l; omega)) x hx
theorem ga7 (E : Nat) : ∀ (cs : List Pl) (m : Mo) (l e : Int), ut l cs -> qat E cs -> m.le E -> 0 < l -> l <= 4 -> 0 <= e -> e + cs.length <= E + 1 -> (∀ i : Int, 0 < i -> i < l -> m.get i = 0) -> ∀ x ∈ yc m l e cs, x.2.le E
 | [],m,l,e,_,_,_,_,_,_,_,_,x,hx=>by rw [yc] at hx; cases hx
 | c :: r,m,l,e,hc,h,hm,hl0,hl4,he,hle,h0,x,hx=>by
   rw [yc] at hx;rw [qat] at h;rw [List.length_cons] at hle;unfold ut at hc;rcases List.mem_append.1 hx with hx | hx
   · exact Pl.terms_ex E c _ hc.2.1 h.1 (hm.put l e (by omega)) (fun i hi hil=>by rw [Mo.get_put_ne m l e i hi (by omega) hl0 hl4 (by omega)]; exact h0 i hi (by omega)) x hx
   · exact ga7 E r m l (e+1) hc.2.2 h.2 hm hl0 hl4 (by omega) (by omega) h0 x hx
end
mutual
theorem Pl.terms_nr : ∀ (p : Pl) (m : Mo), p.Can -> jg (p.terms m) = p.nr
 | .mk l n d cs,m,hc=>by
   rw [Pl.terms,Pl.nr]
   by_cases h1:l<=0
   · rw [if_pos h1,if_pos h1]; simp [jg]
   · rw [if_neg h1,if_neg h1];obtain ⟨hl4,hk⟩:=Pl.can_kids hc h1;rw [if_neg (by omega)];exact va7 cs m l _ hk
theorem va7 : ∀ (cs : List Pl) (m : Mo) (l e : Int), ut l cs -> jg (yc m l e cs) = yt cs
 | [],m,l,e,_=>rfl
 | c :: r,m,l,e,hc=>by
   unfold ut at hc;rw [yc,yaf,yt,Pl.terms_nr c _ hc.2.1,va7 r m l (e+1) hc.2.2]
end
theorem Pl.const_nr (z:Int):(Pl.const z).nr=z.natAbs:=by rw [Pl.const,Pl.nr,if_pos (Int.le_refl _),je,vai]
theorem gbv (f:Int × Mo->Int) (k:Nat) (l:Sp):yt ((List.range k).map fun i=>Pl.const (jg (l.filter fun x=>decide (f x=Int.ofNat i))))<=jg l:=by
 have h1:∀ k,yt ((List.range k).map fun i=>Pl.const (jg (l.filter fun x=>decide (f x=Int.ofNat i))))=jg (l.filter fun x=>decide (0<=f x/\f x < k)):=by
  intro k
  induction k with
  | zero =>
    rw [show (l.filter fun x=>decide (0<=f x/\f x < ((0:Nat):Int)))=[] from List.filter_eq_nil_iff.2 fun x _=>by simp]
    rfl
  | succ k ih =>
    rw [List.range_succ,List.map_append,wa3,ih];simp only [List.map_cons,List.map_nil,yt,Pl.const_nr,Int.natAbs_natCast,Nat.add_zero];clear ih
    induction l with
    | nil=>rfl
    | cons x l ih =>
      obtain ⟨c,m⟩:=x;simp only [List.filter_cons,decide_eq_true_eq]
      by_cases h1:f (c,m)=Int.ofNat k
      · have h2:¬ (0<=f (c,m)/\f (c,m) < (k:Int)):=by rw [h1]; simp
        have h3:0<=f (c,m)/\f (c,m) < ((k+1:Nat):Int):=by rw [h1]; simp; omega
        rw [if_neg h2,if_pos h1,if_pos h3,kai,kai];omega
      · rw [if_neg h1];have h4:f (c,m) ≠ (k:Int):=h1
        by_cases h2:0<=f (c,m)/\f (c,m) < (k:Int)
        · have h3:0<=f (c,m)/\f (c,m) < ((k+1:Nat):Int):=by omega
          rw [if_pos h2,if_pos h3,kai,kai];omega
        · have h3:¬ (0<=f (c,m)/\f (c,m) < ((k+1:Nat):Int)):=by omega
          rw [if_neg h2,if_neg h3];exact ih
 rw [h1];exact ybp _ l
theorem wcm {α:Type} (f g:α->Pl) (l:List α) (h:∀ x ∈ l,(f x).nr<=(g x).nr):yt (l.map f)<=yt (l.map g):=by
 induction l with
 | nil=>simp [yt]
 | cons x l ih =>
   simp only [List.map_cons,yt];have h1:=h x (by simp);have h2:=ih fun y hy=>h y (by simp [hy])
   omega
theorem qcw (n:Nat):∀ l:Sp,(bld n l).nr<=jg l:=by
 induction n with
 | zero =>
   intro l;cases l with
   | nil=>simp [bld,Pl.zero,Pl.nr,sgn,val]
   | cons x r=>obtain ⟨c,m⟩:=x; rw [bld,Pl.const_nr,kai]; omega
 | succ n ih =>
   intro l;cases l with
   | nil=>simp [bld,Pl.zero,Pl.nr,sgn,val]
   | cons x r =>
     obtain ⟨c,m⟩:=x;rw [bld]
     split
     · exact ih _
     · rw [Pl.nr,if_neg (by omega)];refine Nat.le_trans (wcm _ (fun (i:Nat)=>Pl.const (jg (((c,m) :: r).filter fun x=>decide (x.2.get (n+1:Nat)=Int.ofNat i)))) _ fun i _=>?_) (gbv (fun x=>x.2.get (n+1:Nat)) _ _);rw [Pl.const_nr,Int.natAbs_natCast];exact ih _
theorem jcw (E n:Nat):∀ l:Sp,(∀ x ∈ l,x.2.le E)->(bld n l).ex E:=by
 induction n with
 | zero =>
   intro l _;cases l with
   | nil=>simp [bld,Pl.zero,Pl.ex]
   | cons x r=>obtain ⟨c,m⟩:=x; simp [bld,Pl.const,Pl.ex]
 | succ n ih =>
   intro l hl;cases l with
   | nil=>simp [bld,Pl.zero,Pl.ex]
   | cons x r =>
     obtain ⟨c,m⟩:=x;rw [bld]
     split
     · exact ih _ hl
     · rw [Pl.ex];have hg:m.get ((n+1:Nat):Int)<=E:=(hl (c,m) (by simp)).get ((n+1:Nat):Int);refine .inr ⟨by rw [List.length_map,List.length_range]; omega,xbt fun p hp=>?_⟩;obtain ⟨i,-,rfl⟩:=List.mem_map.1 hp;exact ih _ (fun x hx=>hl x (List.mem_filter.1 hx).1)
theorem Pl.ofS_ex {E:Nat} {l:Sp} (h:∀ x ∈ l,x.2.le E):(Pl.ofS l).ex E:=jcw E 4 _ fun x hx=>by
 obtain ⟨-,y,hy,e⟩:=yac hx;rw [<- e];exact h y hy
theorem Pl.ofS_nr (l:Sp):(Pl.ofS l).nr<=jg l:=Nat.le_trans (qcw 4 _) (ybd l)
theorem Pl.ex_sz (E:Nat) (n:Nat):∀ p:Pl,p.Can->p.ex E->p.lv<=n->p.sz<=(E+2) ^ n:=by
 induction n with
 | zero =>
   intro p hc h hl;obtain ⟨l,ng,d,cs⟩:=p;unfold Pl.Can at hc
   change l<=0 at hl
   rcases hc with hc | hc
   · rw [hc.2.1,Pl.sz,uj]; simp
   · omega
 | succ n ih =>
   intro p hc h hl;obtain ⟨l,ng,d,cs⟩:=p
   change l<=((n+1:Nat):Int) at hl
   by_cases h1:l<=0
   · unfold Pl.Can at hc;rcases hc with hc | hc
     · rw [hc.2.1,Pl.sz,uj]; exact Nat.pow_pos (by omega)
     · omega
   · obtain ⟨-,hk⟩:=Pl.can_kids hc h1;rw [Pl.ex] at h;have h:=h.resolve_left h1;have key:∀ ks:List Pl,(∀ c ∈ ks,c.sz<=(E+2) ^ n)->uj ks<=ks.length * (E+2) ^ n:=by
      intro ks
      induction ks with
      | nil=>simp [uj]
      | cons y r ihr =>
        intro hh;have h1:=hh y (by simp);have h2:=ihr fun z hz=>hh z (by simp [hz])
        rw [uj,List.length_cons,Nat.add_mul];omega
     have h2:=key cs fun c hcm=>ih c (hk.mem c hcm).2 (xat h.2 c hcm) (by have:=(hk.mem c hcm).1; omega)
     have h3:cs.length * (E+2) ^ n<=(E+1) * (E+2) ^ n:=Nat.mul_le_mul_right _ h.1;have h4:(E+2) ^ (n+1)=(E+1) * (E+2) ^ n+(E+2) ^ n:=by rw [Nat.pow_succ,Nat.mul_comm,<- Nat.succ_mul]
     have h5:0 < (E+2) ^ n:=Nat.pow_pos (by omega);rw [Pl.sz];omega
mutual
theorem Pl.nr_dm (D : Nat) : ∀ p : Pl, p.Can -> p.nr < B32 ^ D -> p.dm <= D
 | .mk l n d cs,hc,h=>by
   unfold Pl.Can at hc;rw [Pl.nr] at h;rw [Pl.dm];rcases hc with hc | hc
   · rw [if_pos (by omega),jr] at h;rw [hc.2.1,waa,hc.2.2.1];have:=qg h;omega
   · rw [if_neg (by omega)] at h;have:=ybt D cs l hc.2.2.2.2.2.1 h;rw [hc.2.2.2.1,List.length_nil];omega
theorem ybt (D : Nat) : ∀ (cs : List Pl) (l : Int), ut l cs -> yt cs < B32 ^ D -> waa cs <= D
 | [],_,_,_=>by rw [waa]; omega
 | c :: r,l,hc,h=>by
   unfold ut at hc;rw [yt] at h;rw [waa];have h1:=Pl.nr_dm D c hc.2.1 (by omega);have h2:=ybt D r l hc.2.2 (by omega);omega
end
structure Fit (p : Pl) (E D : Nat) : Prop where
 can:p.Can
 ex:p.ex E
 nr:p.nr < B32 ^ D
namespace Fit
variable {p q:Pl} {E D F G:Nat}
theorem sz (h:Fit p E D):p.sz<=(E+2) ^ 4:=Pl.ex_sz E 4 p h.can h.ex h.can.lv_nonneg.2
theorem dm (h:Fit p E D):p.dm<=D:=Pl.nr_dm D p h.can h.nr
theorem mono (h:Fit p E D) (hE:E<=F) (hD:D<=G):Fit p F G:=⟨h.can,Pl.ex_mono hE p h.ex,Nat.lt_of_lt_of_le h.nr (Nat.pow_le_pow_right (by decide) hD)⟩
theorem exps (h:Fit p E D):∀ x ∈ p.terms Mo.one,x.2.le E:=Pl.terms_ex E p Mo.one h.can h.ex (by unfold Mo.le Mo.one; simp) (fun i h0 h4=>by unfold Mo.one Mo.get; split <;> (try split) <;> (try split) <;> rfl)
theorem nrm (h:Fit p E D):jg (p.terms Mo.one)=p.nr:=Pl.terms_nr p _ h.can
theorem kid {l:Int} {n:Bool} {d:List Nat} {cs:List Pl} (h:Fit (.mk l n d cs) E D) (hl:0 < l) {c:Pl} (hc:c ∈ cs):Fit c E D:=by
 obtain ⟨h1,h2,h3⟩:=h;obtain ⟨-,hk⟩:=Pl.can_kids h1 (by omega);rw [Pl.ex] at h2;rw [Pl.nr,if_neg (by omega)] at h3;have:=wbj hc;exact ⟨(hk.mem c hc).2,xat (h2.resolve_left (by omega)).2 c hc,by omega⟩
theorem len {l:Int} {n:Bool} {d:List Nat} {cs:List Pl} (h:Fit (.mk l n d cs) E D) (hl:0 < l):cs.length<=E+1:=by
 have h2:=h.ex;rw [Pl.ex] at h2;exact (h2.resolve_left (by omega)).1
theorem const {z:Int} (h:z.natAbs < B32 ^ D):Fit (Pl.const z) E D:=⟨uae z,by unfold Pl.const; rw [Pl.ex]; exact .inl (Int.le_refl _),by rw [Pl.const_nr]; exact h⟩
theorem zero:Fit Pl.zero E D:=⟨Pl.zero_can,by unfold Pl.zero; rw [Pl.ex]; exact .inl (Int.le_refl _),by unfold Pl.zero; rw [Pl.nr,if_pos (Int.le_refl _)]; exact Nat.pow_pos (by decide)⟩
theorem add (h:Fit p E D) (k:Fit q F G):Fit (p.add q) (max E F) (max D G+1):=by
 refine ⟨Pl.add_can p q,Pl.ofS_ex fun x hx=>?_,?_⟩
 · rcases List.mem_append.1 hx with hx | hx
   · exact (h.exps x hx).mono (by omega)
   · exact (k.exps x hx).mono (by omega)
 · have h1:=Pl.ofS_nr (p.terms Mo.one ++ q.terms Mo.one);rw [yaf,h.nrm,k.nrm] at h1;have h2:B32 ^ D<=B32 ^ max D G:=Nat.pow_le_pow_right (by decide) (by omega);have h3:B32 ^ G<=B32 ^ max D G:=Nat.pow_le_pow_right (by decide) (by omega);have h4:=h.nr;have h5:=k.nr;unfold Pl.add;rw [Nat.pow_succ];have h6:B32 ^ max D G * 2<=B32 ^ max D G * B32:=Nat.mul_le_mul_left _ (by decide);omega
theorem mul (h:Fit p E D) (k:Fit q F G):Fit (p.mul q) (E+F) (D+G):=by
 refine ⟨Pl.mul_can p q,Pl.ofS_ex fun x hx=>?_,?_⟩
 · obtain ⟨y,hy,z,hz,rfl⟩:=ua5 hx;exact Mo.mul_le (h.exps y hy) (k.exps z hz)
 · have h1:=Pl.ofS_nr (xan (p.terms Mo.one) (q.terms Mo.one));rw [qbi,h.nrm,k.nrm] at h1;unfold Pl.mul;rw [Nat.pow_add];refine Nat.lt_of_le_of_lt h1 (Nat.mul_lt_mul_of_lt_of_le h.nr (Nat.le_of_lt k.nr) (Nat.pow_pos (by decide)))
end Fit
end Go.Proofs.YtcfcjabgkfehlaaGreat

/- Polynomials in four variables, plain: how sums and products lie level by level. No program in sight. -/
namespace Go.Proofs.YtcfcjabgkfehlaaGreat
theorem Pl.mul_zero {p q:Pl} (hp:p.Can) (hq:q.Can) (h:∀ ρ,p.val ρ * q.val ρ=0):p=Pl.zero\/q=Pl.zero:=by
 obtain ⟨E,hE⟩:=Mo.le_sup (yl (p.terms Mo.one) ++ yl (q.terms Mo.one));have key:∀ r:Pl,r.Can->(∀ x ∈ yl (r.terms Mo.one),x.2.le E)->r ≠ Pl.zero->∀ B,jg (yl (r.terms Mo.one))+1<=B->r.val (kro (E+1) B) ≠ 0:=by
  intro r hr hle hne B hB h0;rw [<- Pl.terms_sval,<- zau _ (xah r.terms_one_nonneg),ubg] at h0;refine gbt (xac _) (fun x hx=>(yac hx).1) E hle B hB (fun e=>hne ?_) (by exact_mod_cast h0);rw [<- Pl.nf_of_can hr];unfold Pl.nf Pl.ofS;rw [e]
  rfl
 by_cases h1:p=Pl.zero
 · exact .inl h1
 by_cases h2:q=Pl.zero
 · exact .inr h2
 exfalso
 have h3:=h (kro (E+1) (jg (yl (p.terms Mo.one))+jg (yl (q.terms Mo.one))+1));rcases Rat.mul_eq_zero.1 h3 with h4 | h4
 · exact key p hp (fun x hx=>hE x (List.mem_append_left _ hx)) h1 _ (by omega) h4
 · exact key q hq (fun x hx=>hE x (List.mem_append_right _ hx)) h2 _ (by omega) h4
theorem Pl.mul_eq_zero {p q:Pl} (hp:p.Can) (hq:q.Can) (h:p.mul q=Pl.zero):p=Pl.zero\/q=Pl.zero:=
 Pl.mul_zero hp hq fun ρ=>by rw [<- Pl.mul_val,h,Pl.zero_val]
theorem Pl.ofS_lv {l:Sp} {n:Nat} (hn4:n<=4) (hnn:∀ x ∈ l,x.2.nonneg) (h:∀ x ∈ l,∀ i:Nat,n < i->i<=4->x.2.get i=0):(Pl.ofS l).lv<=n:=by
 have hz:∀ i:Nat,0 < i->i<=4->Mo.one.get i=0:=fun i h1 h2=>by
  rcases (show i=1\/i=2\/i=3\/i=4 by omega) with rfl | rfl | rfl | rfl <;> rfl
 have ha:wa2 n Mo.one (yl l):=fun x hx i h1 h2=>by
  obtain ⟨-,y,hy,e⟩:=yac hx;rw [<- e,h y hy i h1 h2,hz i (by omega) h2]
 have hnn':∀ x ∈ yl l,x.2.nonneg:=fun x hx=>(yac hx).1
 obtain ⟨h1,h2⟩:=qbu n hn4 (yl l) Mo.one (xac l) hnn' ha (fun i hi hin=>hz i hi (by omega));have h3:=ga6 n hn4 (yl l) Mo.one (xac l) hnn' ha (fun i hi hin=>hz i hi (by omega));have h4:bld n (yl l)=Pl.ofS l:=Pl.can_eq h1 (Pl.ofS_can l) fun k=>by
  rw [h3,Pl.ofS_coef,yan]
 rw [<- h4];exact h2
theorem Pl.exp_above {p:Pl} (hp:p.Can) {n:Nat} (h:p.lv<=n):∀ x ∈ p.terms Mo.one,∀ i:Nat,n < i->i<=4->x.2.get i=0:=fun x hx i h1 h2=>by
 rw [Pl.terms_above p Mo.one n hp h x hx i h1 h2];rcases (show i=1\/i=2\/i=3\/i=4 by omega) with rfl | rfl | rfl | rfl <;> rfl
theorem Mo.get_mul (m n:Mo) (i:Int):(m.mul n).get i=m.get i+n.get i:=by
 unfold Mo.mul Mo.get
 split <;> (try split) <;> (try split) <;> rfl
theorem Pl.mul_lv {p q:Pl} (hp:p.Can) (hq:q.Can) {n:Int} (h1:p.lv<=n) (h2:q.lv<=n) (hn:n<=4):(p.mul q).lv<=n:=by
 have h0:=hp.lv_nonneg.1;obtain ⟨k,rfl⟩:∃ k:Nat,n=k:=⟨n.toNat,by omega⟩;refine Pl.ofS_lv (by omega) (xa3 p.terms_one_nonneg q.terms_one_nonneg) fun x hx i hi hi4=>?_
 obtain ⟨y,hy,z,hz,rfl⟩:=ua5 hx;rw [Mo.get_mul,Pl.exp_above hp h1 y hy i hi hi4,Pl.exp_above hq h2 z hz i hi hi4]
 rfl
theorem Pl.add_lv {p q:Pl} (hp:p.Can) (hq:q.Can) {n:Int} (h1:p.lv<=n) (h2:q.lv<=n) (hn:n<=4):(p.add q).lv<=n:=by
 have h0:=hp.lv_nonneg.1;obtain ⟨k,rfl⟩:∃ k:Nat,n=k:=⟨n.toNat,by omega⟩;refine Pl.ofS_lv (by omega) (fun x hx=>(List.mem_append.1 hx).elim (p.terms_one_nonneg x) (q.terms_one_nonneg x)) fun x hx i hi hi4=>?_
 rcases List.mem_append.1 hx with hx | hx
 · exact Pl.exp_above hp h1 x hx i hi hi4
 · exact Pl.exp_above hq h2 x hx i hi hi4
theorem Pl.mul_comm (p q:Pl):p.mul q=q.mul p:=Pl.val_uniq (Pl.mul_can _ _) (Pl.mul_can _ _) fun ρ=>by rw [Pl.mul_val,Pl.mul_val]; grind
theorem Pl.mul_zero_l (p:Pl):Pl.zero.mul p=Pl.zero:=Pl.zero_of_val (Pl.mul_can _ _) fun ρ=>by rw [Pl.mul_val,Pl.zero_val]; grind
theorem Pl.mul_zero_r (p:Pl):p.mul Pl.zero=Pl.zero:=by rw [Pl.mul_comm,Pl.mul_zero_l]
theorem Pl.const_mul (a b:Int):(Pl.const a).mul (Pl.const b)=Pl.const (a * b):=Pl.val_uniq (Pl.mul_can _ _) (uae _) fun ρ=>by
 rw [Pl.mul_val,Pl.const_val,Pl.const_val,Pl.const_val]; push_cast; rfl
theorem xav {p:Pl} (h:p.Can) (hl:p.lv=0):p=Pl.const p.z:=by
 obtain ⟨l,n,d,cs⟩:=p
 change l=0 at hl
 subst hl;unfold Pl.Can at h;rcases h with ⟨-,rfl,hd,hn⟩ | h
 · show _=Pl.const (sgn n (val d));unfold Pl.const;rw [jr,<- hd]
   congr 1
   cases n
   · simp [sgn]
   · have h1:d ≠ []:=fun e=>by have:=hn e; cases this
     have h2:val d ≠ 0:=fun e=>h1 (by rw [hd,e,jk])
     simp only [sgn];simp;omega
 · omega
theorem ubd (ρ:Int->Rat) (l:Int) (f:Pl->Pl) (r:Rat) (cs:List Pl) (h:∀ c ∈ cs,(f c).val ρ=c.val ρ * r):ug ρ l (cs.map f)=ug ρ l cs * r:=by
 induction cs with
 | nil=>simp [ug]
 | cons x cs ih =>
   simp only [List.map_cons,ug];rw [h x (by simp),ih fun c hc=>h c (by simp [hc])]
   grind
theorem Pl.mk_val (ρ:Int->Rat) {l:Int} (n:Bool) (d:List Nat) (cs:List Pl) (h0:0 < l) (h4:l<=4):(Pl.mk l n d cs).val ρ=ug ρ l cs:=by
 rw [Pl.val,if_neg (by omega),if_neg (by omega)]
theorem ub6 {l:Int} {cs:List Pl} (h0:0 < l) (h4:l<=4) (h2:2<=cs.length) (hk:ut l cs) (hz:cs.getLast? ≠ some Pl.zero):(Pl.mk l false [] cs).Can:=by
 unfold Pl.Can;exact .inr ⟨by omega,h4,rfl,rfl,h2,hk,hz⟩
theorem Pl.mul_up {l:Int} {n:Bool} {d:List Nat} {cs:List Pl} {q:Pl} (hp:(Pl.mk l n d cs).Can) (hq:q.Can) (hl:q.lv < l) (hz:q ≠ Pl.zero):(Pl.mk l n d cs).mul q=.mk l false [] (cs.map fun c=>c.mul q):=by
 have hl0:0 < l:=by have:=hq.lv_nonneg.1; omega
 obtain ⟨rfl,rfl,h2,hk,hlast⟩:=hp.kids hl0;have hl4:l<=4:=hp.lv_nonneg.2;refine Pl.val_uniq (Pl.mul_can _ _) (ub6 hl0 hl4 (by rw [List.length_map]; exact h2) (xam fun c hc=>?_) ?_) fun ρ=>?_
 · obtain ⟨c',hc',rfl⟩:=List.mem_map.1 hc;have h3:=hk.mem c' hc';have:=Pl.mul_lv (n:=l - 1) h3.2 hq (by omega) (by omega) (by omega);exact ⟨by omega,Pl.mul_can _ _⟩
 · rw [List.getLast?_map];intro e;obtain ⟨c,hc,he⟩:=Option.map_eq_some_iff.1 e;rcases Pl.mul_eq_zero (hk.mem c (List.mem_of_getLast? hc)).2 hq he with h | h
   · rw [h] at hc; exact hlast hc
   · exact hz h
 · rw [Pl.mul_val,Pl.mk_val ρ _ _ _ hl0 hl4,Pl.mk_val ρ _ _ _ hl0 hl4,ubd ρ l _ (q.val ρ) cs fun c _=>Pl.mul_val ρ c q]
theorem Pl.mul_up_ {p q:Pl} (hp:p.Can) (hq:q.Can) (hl:q.lv < p.lv) (hz:q ≠ Pl.zero):p.mul q=.mk p.lv false [] (p.cs.map fun c=>c.mul q):=by
 obtain ⟨l,n,d,cs⟩:=p;exact Pl.mul_up hp hq hl hz
def qp : List Pl -> List Pl
 | []=>[]
 | c :: r=>if c.isZ=true/\qp r=[] then [] else c :: qp r
def vac (l:Int) (cs:List Pl):Pl:=
 match qp cs with
 | []=>Pl.zero
 | [c]=>c
 | c :: d :: r=>.mk l false [] (c :: d :: r)
theorem gbo {a:List Pl} {x:Pl} (h:x.isZ=true):qp (a ++ [x])=qp a:=by
 induction a with
 | nil=>simp [qp,h]
 | cons y a ih=>rw [List.cons_append,qp,qp,ih]
theorem yb3 {a:List Pl} {x:Pl} (h:x.isZ=false):qp (a ++ [x])=a ++ [x]:=by
 induction a with
 | nil=>simp [qp,h]
 | cons y a ih=>rw [List.cons_append,qp,ih,if_neg (by simp)]
theorem ka5 {l:Int} {cs:List Pl} {n:Nat} (hn:n<=cs.length) (h:qp cs=cs.take n):vac l cs=if n=0 then Pl.zero else if h1:n=1/\0 < cs.length then cs[0]'h1.2 else .mk l false [] (cs.take n):=by
 unfold vac;rw [h]
 match n,cs,hn with
 | 0,cs,_=>simp
 | 1,x :: cs,_=>simp
 | n+2,x :: y :: cs,_=>simp
theorem ja7 {cs:List Pl} {c:Pl} (h:c ∈ qp cs):c ∈ cs:=by
 induction cs with
 | nil=>exact h
 | cons x cs ih =>
   rw [qp] at h
   split at h
   · cases h
   · rcases List.mem_cons.1 h with rfl | h
     · exact List.mem_cons_self ..
     · exact List.mem_cons_of_mem _ (ih h)
theorem wbo {cs:List Pl} (hc:∀ c ∈ cs,c.Can):(qp cs).getLast? ≠ some Pl.zero:=by
 induction cs with
 | nil=>simp [qp]
 | cons x cs ih =>
   rw [qp]
   split
   · simp
   · rename_i h;intro e
     by_cases h1:qp cs=[]
     · rw [h1] at e;have e1:x=Pl.zero:=by simpa using e
       exact h ⟨(Pl.zero_isZ (hc x (by simp))).2 e1,h1⟩
     · obtain ⟨y,r,hr⟩:=List.exists_cons_of_ne_nil h1;rw [hr,List.getLast?_cons_cons,<- hr] at e;exact ih (fun c hcm=>hc c (by simp [hcm])) e
theorem ubv (ρ:Int->Rat) (l:Int) {cs:List Pl} (hc:∀ c ∈ cs,c.Can):ug ρ l (qp cs)=ug ρ l cs:=by
 induction cs with
 | nil=>rfl
 | cons x cs ih =>
   have h1:=ih fun c hcm=>hc c (by simp [hcm])
   rw [qp]
   split
   · rename_i h;rw [ug,ug,<- h1,h.2,(Pl.zero_isZ (hc x (by simp))).1 h.1,Pl.zero_val,ug]
     grind
   · rw [ug,ug,h1]
theorem uay {l:Int} {cs:List Pl} (h0:0 < l) (h4:l<=4) (hk:ut l cs):(vac l cs).Can/\(vac l cs).lv<=l/\∀ ρ,(vac l cs).val ρ=ug ρ l cs:=by
 have hc:∀ c ∈ cs,c.Can:=fun c hcm=>(hk.mem c hcm).2
 have hlast:=wbo hc;have hval:=fun ρ=>ubv ρ l hc
 have hmem:∀ c ∈ qp cs,c.lv < l/\c.Can:=fun c hcm=>hk.mem c (ja7 hcm)
 unfold vac
 split
 · rename_i e;rw [e] at hval;exact ⟨Pl.zero_can,by show (0:Int)<=l; omega,fun ρ=>by rw [<- hval ρ,Pl.zero_val,ug]⟩
 · rename_i c e;rw [e] at hval hmem;have h1:=hmem c (by simp);exact ⟨h1.2,by omega,fun ρ=>by rw [<- hval ρ,ug,ug]; grind⟩
 · rename_i c d r e;rw [e] at hval hmem hlast;exact ⟨ub6 h0 h4 (by simp) (xam hmem) hlast,Int.le_refl _,fun ρ=>by rw [<- hval ρ,Pl.mk_val ρ _ _ _ h0 h4]⟩
end Go.Proofs.YtcfcjabgkfehlaaGreat

/- Plain: what recpoly.degree and recpoly.at compute: the polynomial at a fraction a / b in place of one variable, times a power of b. -/
namespace Go.Proofs.YtcfcjabgkfehlaaGreat
mutual
def Pl.dgL (l : Int) : Pl -> Int
 | .mk lv _ _ cs=>if lv < l then 0 else if lv=l then cs.length - 1 else qaa l 0 cs
def qaa (l : Int) : Int -> List Pl -> Int
 | a,[]=>a
 | a,c :: r=>qaa l (max a (c.dgL l)) r
end
theorem ybk (l a:Int) (x y:List Pl):qaa l a (x ++ y)=qaa l (qaa l a x) y:=by
 induction x generalizing a with
 | nil=>rfl
 | cons t x ih=>simp only [List.cons_append,qaa]; exact ih _
theorem qbx (l a:Int) (cs:List Pl) (k:Nat) (hk:k < cs.length):qaa l a (cs.take (k+1))=max (qaa l a (cs.take k)) (cs[k].dgL l):=by
 rw [List.take_succ_eq_append_getElem hk,ybk]; rfl
theorem xa6 (l : Int) : ∀ (cs : List Pl) (a : Int), a <= qaa l a cs
 | [],a=>Int.le_refl _
 | c :: r,a=>by rw [qaa]; have:=xa6 l r (max a (c.dgL l)); omega
theorem qau (l : Int) : ∀ (cs : List Pl) (a : Int) (c : Pl), c ∈ cs -> c.dgL l <= qaa l a cs
 | d :: r,a,c,h=>by
   rw [qaa];rcases List.mem_cons.1 h with rfl | h
   · have:=xa6 l r (max a (c.dgL l)); omega
   · exact qau l r _ c h
theorem zbk (l : Int) (n : Int) : ∀ (cs : List Pl) (a : Int), a <= n -> (∀ c ∈ cs, c.dgL l <= n) -> qaa l a cs <= n
 | [],a,h,_=>h
 | c :: r,a,h,hc=>by
   rw [qaa];exact zbk l n r _ (by have:=hc c (by simp); omega) fun x hx=>hc x (by simp [hx])
theorem Pl.dgL_bd {l : Int} (hl : 1 <= l) {E : Nat} : ∀ p : Pl, p.Can -> p.ex E -> 0 <= p.dgL l /\ p.dgL l <= E
 | .mk lv n d cs,h,he=>by
   rw [Pl.dgL]
   by_cases h1:lv < l
   · rw [if_pos h1]; omega
   · obtain ⟨-,-,h2,hk,-⟩:=h.kids (by omega);rw [Pl.ex] at he;obtain ⟨he1,he2⟩:=he.resolve_left (by omega);rw [if_neg h1]
     by_cases h3:lv=l
     · rw [if_pos h3]; omega
     · rw [if_neg h3];exact ⟨xa6 l cs 0,zbk l E cs 0 (by omega) fun c hc=>(Pl.dgL_bd hl c (hk.mem c hc).2 (xat he2 c hc)).2⟩
def horP (a b : Int) : List Pl -> Pl
 | []=>Pl.zero
 | [c]=>c
 | c :: d :: r=>((horP a b (d :: r)).mul (Pl.const a)).add (c.mul (Pl.const (b ^ (r.length+1))))
theorem vb7 {a b:Int} (c:Pl) {cs:List Pl} (h:cs ≠ []):horP a b (c :: cs)=((horP a b cs).mul (Pl.const a)).add (c.mul (Pl.const (b ^ cs.length))):=by
 cases cs with
 | nil=>exact absurd rfl h
 | cons d r=>rfl
theorem kb7 {a b:Int} (cs:List Pl) (k:Nat) (hk:k+1 < cs.length):horP a b (cs.drop k)=((horP a b (cs.drop (k+1))).mul (Pl.const a)).add (cs[k].mul (Pl.const (b ^ (cs.length - 1 - k)))):=by
 rw [List.drop_eq_getElem_cons (by omega:k < cs.length),vb7 _ (by rw [Ne,List.drop_eq_nil_iff]; omega),List.length_drop];rw [show cs.length - (k+1)=cs.length - 1 - k by omega]
theorem jb7 {a b:Int} (cs:List Pl) (k:Nat) (hk:k+1=cs.length):horP a b (cs.drop k)=cs[k]:=by
 rw [List.drop_eq_getElem_cons (by omega:k < cs.length),List.drop_eq_nil_of_le (by omega)]
 rfl
theorem qam {a b : Int} : ∀ cs : List Pl, (∀ c ∈ cs, c.Can) -> (horP a b cs).Can
 | [],_=>Pl.zero_can
 | [c],h=>h c (by simp)
 | _ :: _ :: _,_=>Pl.add_can _ _
theorem wbt {a b : Int} {n : Int} (h0 : 0 <= n) (h4 : n <= 4) : ∀ cs : List Pl, (∀ c ∈ cs, c.Can /\ c.lv <= n) -> (horP a b cs).lv <= n
 | [],_=>h0
 | [c],h=>(h c (by simp)).2
 | c :: d :: r,h=>by
   rw [horP]
   exact Pl.add_lv (Pl.mul_can _ _) (Pl.mul_can _ _) (Pl.mul_lv (qam _ fun x hx => (h x (List.mem_cons_of_mem _ hx)).1) (uae _) (wbt h0 h4 (d :: r) fun x hx => h x (List.mem_cons_of_mem _ hx)) h0 h4)
    (Pl.mul_lv (h c (by simp)).1 (uae _) (h c (by simp)).2 h0 h4) h4
theorem kbl {a b : Int} {ρ : Int -> Rat} {l : Int} (hρ : ρ l * (b : Rat) = (a : Rat)) : ∀ cs : List Pl, cs ≠ [] -> (horP a b cs).val ρ = (b : Rat) ^ (cs.length - 1) * ug ρ l cs
 | [c],_=>by rw [horP,ug,ug]; simp; grind
 | c :: d :: r,_=>by
   have e:ug ρ l (c :: d :: r)=c.val ρ+ρ l * ug ρ l (d :: r):=by rw [ug]
   have e2:(((b ^ (r.length+1):Int)):Rat)=(b:Rat) ^ r.length * b:=by push_cast; rw [Rat.pow_succ]
   rw [horP,Pl.add_val,Pl.mul_val,Pl.mul_val,Pl.const_val,Pl.const_val,kbl hρ (d :: r) (by simp),e,e2,<- hρ];simp only [List.length_cons,Nat.add_sub_cancel];rw [Rat.pow_succ]
   grind
theorem Pl.fit_of {p:Pl} {E:Nat} (h:p.Can) (he:p.ex E):Fit p E p.nr:=⟨h,he,Nat.lt_pow_self (by decide)⟩
theorem Pl.mul_const_ex {p:Pl} {E:Nat} (h:p.Can) (he:p.ex E) (z:Int):(p.mul (Pl.const z)).ex E:=
 ((Pl.fit_of h he).mul (Fit.const (D:=z.natAbs) (E:=0) (Nat.lt_pow_self (by decide)))).ex
theorem Pl.mul_const_nr {p:Pl} (h:p.Can) (z:Int):(p.mul (Pl.const z)).nr<=p.nr * z.natAbs:=by
 have h1:=Pl.ofS_nr (xan (p.terms Mo.one) ((Pl.const z).terms Mo.one));rw [qbi,Pl.terms_nr p _ h,Pl.terms_nr _ _ (uae z),Pl.const_nr] at h1;exact h1
theorem Pl.add_ex {p q:Pl} {E:Nat} (h:p.Can) (k:q.Can) (he:p.ex E) (ke:q.ex E):(p.add q).ex E:=by
 have:=((Pl.fit_of h he).add (Pl.fit_of k ke)).ex
 rwa [Nat.max_self] at this
theorem Pl.add_nrL {p q:Pl} (h:p.Can) (k:q.Can):(p.add q).nr<=p.nr+q.nr:=by
 have h1:=Pl.ofS_nr (p.terms Mo.one ++ q.terms Mo.one);rw [yaf,Pl.terms_nr p _ h,Pl.terms_nr q _ k] at h1;exact h1
theorem zbc {a b : Int} {E : Nat} : ∀ cs : List Pl, (∀ c ∈ cs, c.Can /\ c.ex E) -> (horP a b cs).ex E
 | [],_=>(Fit.zero (D:=0)).ex
 | [c],h=>(h c (by simp)).2
 | c :: d :: r,h=>by
   rw [horP];have hd:∀ x ∈ d :: r,x.Can/\x.ex E:=fun x hx=>h x (List.mem_cons_of_mem _ hx)
   exact Pl.add_ex (Pl.mul_can _ _) (Pl.mul_can _ _) (Pl.mul_const_ex (qam _ fun x hx=>(hd x hx).1) (zbc _ hd) _) (Pl.mul_const_ex (h c (by simp)).1 (h c (by simp)).2 _)
theorem ual {b:Int} {M:Nat} (h:b.natAbs<=M) (n:Nat):(b ^ n).natAbs<=M ^ n:=by
 rw [Int.natAbs_pow];exact Nat.pow_le_pow_left h n
theorem wbb {a b : Int} {M : Nat} (ha : a.natAbs <= M) (hb : b.natAbs <= M) : ∀ cs : List Pl, (∀ c ∈ cs, c.Can) -> (horP a b cs).nr <= yt cs * M ^ (cs.length - 1)
 | [],_=>by rw [horP]; have:Pl.zero.nr=0:=by { unfold Pl.zero; rw [Pl.nr,if_pos (Int.le_refl _)]; rfl }; omega
 | [c],_=>by rw [horP,yt,yt]; simp
 | c :: d :: r,h=>by
   have hd:∀ x ∈ d :: r,x.Can:=fun x hx=>h x (List.mem_cons_of_mem _ hx)
   have h1:=wbb ha hb (d :: r) hd;have h2:=Pl.mul_const_nr (qam (a:=a) (b:=b) _ hd) a;have h3:=Pl.mul_const_nr (h c (by simp)) (b ^ (r.length+1));have h4:=Pl.add_nrL (Pl.mul_can (horP a b (d :: r)) (Pl.const a)) (Pl.mul_can c (Pl.const (b ^ (r.length+1))));have h5:=ual hb (r.length+1);rw [horP,yt];simp only [List.length_cons,Nat.add_sub_cancel] at h1 ⊢;have h6:(horP a b (d :: r)).nr * a.natAbs<=yt (d :: r) * M ^ r.length * M:=Nat.mul_le_mul h1 ha;have h7:c.nr * (b ^ (r.length+1)).natAbs<=c.nr * M ^ (r.length+1):=Nat.mul_le_mul_left _ h5;rw [Nat.mul_assoc,show M ^ r.length * M=M ^ (r.length+1) from (Nat.pow_succ ..).symm] at h6;rw [Nat.add_mul];omega
mutual
def Pl.atL (l a b : Int) (n : Nat) : Pl -> Pl
 | .mk lv ng ds cs=>if lv < l then (Pl.mk lv ng ds cs).mul (Pl.const (b ^ n)) else if lv=l then (horP a b cs).mul (Pl.const (b ^ (n - (cs.length - 1)))) else vac lv (ub0 l a b n cs)
def ub0 (l a b : Int) (n : Nat) : List Pl -> List Pl
 | []=>[]
 | c :: r=>c.atL l a b n :: ub0 l a b n r
end
theorem vap (l a b : Int) (n : Nat) : ∀ cs : List Pl, ub0 l a b n cs = cs.map (Pl.atL l a b n)
 | []=>rfl
 | c :: r=>by rw [ub0,vap l a b n r]; rfl
theorem Pl.atL_all {l a b : Int} {n : Nat} (hl : 1 <= l) : ∀ p : Pl, p.Can -> (p.atL l a b n).Can /\ (p.atL l a b n).lv <= p.lv
 | .mk lv ng ds cs,h=>by
   have h4:=h.lv_nonneg;simp only [Pl.lv] at h4 ⊢;rw [Pl.atL]
   by_cases h1:lv < l
   · rw [if_pos h1];exact ⟨Pl.mul_can _ _,Pl.mul_lv h (uae _) (Int.le_refl _) h4.1 h4.2⟩
   · obtain ⟨-,-,h2,hk,-⟩:=h.kids (by omega);rw [if_neg h1]
     by_cases h3:lv=l
     · rw [if_pos h3];refine ⟨Pl.mul_can _ _,Pl.mul_lv (qam _ fun c hc=>(hk.mem c hc).2) (uae _) (wbt h4.1 h4.2 _ fun c hc=>⟨(hk.mem c hc).2,?_⟩) h4.1 h4.2⟩;have:=(hk.mem c hc).1;omega
     · rw [if_neg h3,vap];have hk2:ut lv (cs.map (Pl.atL l a b n)):=xam fun x hx=>by
        obtain ⟨c,hc,rfl⟩:=List.mem_map.1 hx;have h5:=hk.mem c hc;have h6:=Pl.atL_all (a:=a) (b:=b) (n:=n) hl c h5.2;exact ⟨by omega,h6.1⟩
       have:=uay (by omega) h4.2 hk2;exact ⟨this.1,this.2.1⟩
theorem Pl.atL_can {l a b:Int} {n:Nat} (hl:1<=l) {p:Pl} (h:p.Can):(p.atL l a b n).Can:=(Pl.atL_all hl p h).1
theorem Pl.atL_val {l a b : Int} {n : Nat} {ρ : Int -> Rat} (hl : 1 <= l) (hρ : ρ l * (b : Rat) = (a : Rat)) : ∀ p : Pl, p.Can -> p.dgL l <= n -> (p.atL l a b n).val ρ = (b : Rat) ^ n * p.val ρ
 | .mk lv ng ds cs,h,hd=>by
   have h4:=h.lv_nonneg;simp only [Pl.lv] at h4;rw [Pl.atL];rw [Pl.dgL] at hd
   by_cases h1:lv < l
   · rw [if_pos h1,Pl.mul_val,Pl.const_val]
     push_cast
     grind
   · obtain ⟨-,-,h2,hk,-⟩:=h.kids (by omega);rw [if_neg h1] at hd ⊢
     by_cases h3:lv=l
     · rw [if_pos h3] at hd ⊢;subst h3;rw [Pl.mul_val,Pl.const_val,kbl hρ cs (by rintro rfl; simp at h2),Pl.mk_val ρ _ _ _ (by omega) h4.2];have e:(b:Rat) ^ n=(b:Rat) ^ (cs.length - 1) * (b:Rat) ^ (n - (cs.length - 1)):=by
        rw [<- kaw]
        congr 1
        omega
       rw [e]
       push_cast
       grind
     · rw [if_neg h3] at hd ⊢;rw [vap];have hk2:ut lv (cs.map (Pl.atL l a b n)):=xam fun x hx=>by
        obtain ⟨c,hc,rfl⟩:=List.mem_map.1 hx;have h5:=hk.mem c hc;have h6:=Pl.atL_all (a:=a) (b:=b) (n:=n) hl c h5.2;exact ⟨by omega,h6.1⟩
       rw [(uay (by omega) h4.2 hk2).2.2 ρ,Pl.mk_val ρ _ _ _ (by omega) h4.2];rw [ubd ρ lv (Pl.atL l a b n) ((b:Rat) ^ n) cs fun c hc=>by
        rw [Pl.atL_val hl hρ c (hk.mem c hc).2 (Int.le_trans (qau l cs 0 c hc) hd)]
        grind]
       grind
theorem xcb {l:Int} {cs:List Pl} {E:Nat} (h:∀ c ∈ cs,c.ex E) (hl:cs.length<=E+1):(vac l cs).ex E:=by
 have hm:∀ c ∈ qp cs,c.ex E:=fun c hc=>h c (ja7 hc)
 have hs:(qp cs).length<=E+1:=by
  have:∀ cs:List Pl,(qp cs).length<=cs.length:=fun cs=>by
   induction cs with
   | nil=>exact Nat.le_refl _
   | cons c r ih =>
     rw [qp]
     split
     · exact Nat.zero_le _
     · simpa using ih
  exact Nat.le_trans (this cs) hl
 unfold vac
 split
 · exact (Fit.zero (D:=0)).ex
 · rename_i c e;exact hm c (by rw [e]; simp)
 · rename_i c d r e;rw [Pl.ex];rw [e] at hs hm;exact .inr ⟨hs,xbt hm⟩
theorem zbd : ∀ cs : List Pl, yt (qp cs) <= yt cs
 | []=>Nat.le_refl _
 | c :: r=>by
   have:=zbd r;rw [qp]
   split
   · rw [yt]; omega
   · rw [yt,yt]; omega
theorem ycb {l:Int} {cs:List Pl} (hl:0 < l):(vac l cs).nr<=yt cs:=by
 have h:=zbd cs;unfold vac
 split
 · have:Pl.zero.nr=0:=by { unfold Pl.zero; rw [Pl.nr,if_pos (Int.le_refl _)]; rfl }
   omega
 · rename_i c e;rw [e,yt,yt] at h;omega
 · rename_i c d r e;rw [e] at h;rw [Pl.nr,if_neg (by omega)];exact h
theorem Pl.atL_ex {l a b : Int} {n E : Nat} (hl : 1 <= l) : ∀ p : Pl, p.Can -> p.ex E -> (p.atL l a b n).ex E
 | .mk lv ng ds cs,h,he=>by
   rw [Pl.atL]
   by_cases h1:lv < l
   · rw [if_pos h1];exact Pl.mul_const_ex h he _
   · obtain ⟨-,-,h2,hk,-⟩:=h.kids (by omega);rw [Pl.ex] at he;obtain ⟨he1,he2⟩:=he.resolve_left (by omega);have hx:∀ c ∈ cs,c.Can/\c.ex E:=fun c hc=>⟨(hk.mem c hc).2,xat he2 c hc⟩
     rw [if_neg h1]
     by_cases h3:lv=l
     · rw [if_pos h3];exact Pl.mul_const_ex (qam _ fun c hc=>(hx c hc).1) (zbc _ hx) _
     · rw [if_neg h3,vap];refine xcb (fun x hx'=>?_) (by simpa using he1);obtain ⟨c,hc,rfl⟩:=List.mem_map.1 hx';exact Pl.atL_ex hl c (hx c hc).1 (hx c hc).2
theorem ga3 {f : Pl -> Pl} {K : Nat} : ∀ cs : List Pl, (∀ c ∈ cs, (f c).nr <= c.nr * K) -> yt (cs.map f) <= yt cs * K
 | [],_=>by simp [yt]
 | c :: r,h=>by
   have h1:=ga3 (f:=f) (K:=K) r fun x hx=>h x (by simp [hx])
   have h2:=h c (by simp);rw [List.map_cons,yt,yt,Nat.add_mul];omega
theorem Pl.atL_nr {l a b : Int} {n M : Nat} (hl : 1 <= l) (ha : a.natAbs <= M) (hb : b.natAbs <= M) : ∀ p : Pl, p.Can -> p.dgL l <= n -> (p.atL l a b n).nr <= p.nr * M ^ n
 | .mk lv ng ds cs,h,hd=>by
   rw [Pl.atL];rw [Pl.dgL] at hd
   by_cases h1:lv < l
   · rw [if_pos h1];exact Nat.le_trans (Pl.mul_const_nr h _) (Nat.mul_le_mul_left _ (ual hb n))
   · obtain ⟨-,-,h2,hk,-⟩:=h.kids (by omega);rw [if_neg h1] at hd ⊢;rw [show (Pl.mk lv ng ds cs).nr=yt cs by rw [Pl.nr,if_neg (by omega)]]
     by_cases h3:lv=l
     · rw [if_pos h3] at hd ⊢;have e:M ^ n=M ^ (cs.length - 1) * M ^ (n - (cs.length - 1)):=by
        rw [<- Nat.pow_add]
        congr 1
        omega
       rw [e,<- Nat.mul_assoc];exact Nat.le_trans (Pl.mul_const_nr (qam _ fun c hc=>(hk.mem c hc).2) _) (Nat.mul_le_mul (wbb ha hb cs fun c hc=>(hk.mem c hc).2) (ual hb _))
     · rw [if_neg h3] at hd ⊢;rw [vap];refine Nat.le_trans (ycb (by omega)) (ga3 cs fun c hc=>?_);exact Pl.atL_nr hl ha hb c (hk.mem c hc).2 (Int.le_trans (qau l cs 0 c hc) hd)
theorem vau {A:Nat} (n:Nat):(B32 ^ A) ^ n=B32 ^ (A * n):=(Nat.pow_mul ..).symm
theorem Fit.atL {p:Pl} {E D A:Nat} (h:Fit p E D) {l a b:Int} {n:Nat} (hl:1<=l) (ha:a.natAbs < B32 ^ A) (hb:b.natAbs < B32 ^ A) (hn:p.dgL l<=n):Fit (p.atL l a b n) E (D+A * n):=by
 refine ⟨Pl.atL_can hl h.can,Pl.atL_ex hl p h.can h.ex,?_⟩;have h1:=Pl.atL_nr (n:=n) hl (Nat.le_of_lt ha) (Nat.le_of_lt hb) p h.can hn;rw [vau] at h1;rw [Nat.pow_add];exact Nat.lt_of_le_of_lt h1 (Nat.mul_lt_mul_of_pos_right h.nr (Nat.pow_pos (by decide)))
theorem Fit.horP {cs:List Pl} {E D A:Nat} (h:∀ c ∈ cs,c.Can/\c.ex E) (hn:yt cs < B32 ^ D) {a b:Int} (ha:a.natAbs < B32 ^ A) (hb:b.natAbs < B32 ^ A):Fit (horP a b cs) E (D+A * (cs.length - 1)):=by
 refine ⟨qam _ fun c hc=>(h c hc).1,zbc _ h,?_⟩;have h1:=wbb (Nat.le_of_lt ha) (Nat.le_of_lt hb) cs fun c hc=>(h c hc).1
 rw [vau] at h1;rw [Nat.pow_add];exact Nat.lt_of_le_of_lt h1 (Nat.mul_lt_mul_of_pos_right hn (Nat.pow_pos (by decide)))
def Pl.atQ (l a b:Int) (p:Pl):Pl:=p.atL l a b (p.dgL l).toNat
theorem Pl.atQ_can {l a b:Int} (hl:1<=l) {p:Pl} (h:p.Can):(p.atQ l a b).Can:=Pl.atL_can hl h
theorem Pl.atQ_val {l a b:Int} {ρ:Int->Rat} (hl:1<=l) (hρ:ρ l * (b:Rat)=(a:Rat)) {p:Pl} (h:p.Can):(p.atQ l a b).val ρ=(b:Rat) ^ (p.dgL l).toNat * p.val ρ:=
 Pl.atL_val hl hρ p h (Int.self_le_toNat _)
theorem Fit.atQ {p:Pl} {E D A:Nat} (h:Fit p E D) {l a b:Int} (hl:1<=l) (ha:a.natAbs < B32 ^ A) (hb:b.natAbs < B32 ^ A):Fit (p.atQ l a b) E (D+A * E):=
 (h.atL hl ha hb (Int.self_le_toNat _)).mono (Nat.le_refl _) (Nat.add_le_add_left (Nat.mul_le_mul_left _ (by have:=Pl.dgL_bd hl p h.can h.ex; omega)) _)
end Go.Proofs.YtcfcjabgkfehlaaGreat
