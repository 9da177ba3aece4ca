/- Polynomials in four variables, plain: a canonical polynomial is known by its values; sums and products. No program in sight. -/
import Derived.Test.YtaedbimbbeploaaGreatDoorPNorm
set_option linter.unusedSimpArgs false
set_option linter.unusedVariables false

namespace Go.Proofs.YtaedbimbbeploaaGreatDoor
theorem gas (x:Rat) (m n:Nat):x ^ (m+n)=x ^ m * x ^ n:=by
 induction n with
 | zero=>simp
 | succ n ih=>rw [<- Nat.add_assoc,Rat.pow_succ,ih,Rat.pow_succ]; grind
theorem ycf (x:Rat) (m n:Nat):x ^ (m * n)=(x ^ m) ^ n:=by
 induction n with
 | zero=>simp
 | succ n ih=>rw [Nat.mul_succ,gas,ih,Rat.pow_succ]
def Mo.num (E:Nat) (m:Mo):Nat:=m.a.toNat+E * (m.b.toNat+E * (m.c.toNat+E * m.d.toNat))
theorem vao {E x x' y y':Nat} (hx:x < E) (h:y < y'):x+E * y < x'+E * y':=by
 have h1:E * (y+1)<=E * y':=Nat.mul_le_mul_left E h;rw [Nat.mul_add] at h1;omega
theorem Mo.num_lt {E:Nat} {m n:Mo} (hm:m.nonneg) (hn:n.nonneg) (hE:m.a < E/\m.b < E/\m.c < E/\m.d < E) (h:m.lt n):m.num E < n.num E:=by
 unfold Mo.lt at h;unfold Mo.nonneg at hm hn;unfold Mo.num;rcases h with h | ⟨h1,h | ⟨h2,h | ⟨h3,h⟩⟩⟩
 · exact vao (by omega) (vao (by omega) (vao (by omega) (by omega)))
 · rw [h1]; exact vao (by omega) (vao (by omega) (by omega))
 · rw [h1,h2]; exact vao (by omega) (by omega)
 · rw [h1,h2,h3]; omega
def xar (E B : Nat) : Sp -> Int
 | []=>0
 | (c,m) :: r=>c * (B:Int) ^ m.num E+xar E B r
def kro (E B:Nat) (i:Int):Rat:=(B:Rat) ^ (E ^ (i - 1).toNat)
theorem Mo.val_kro (E B:Nat) (m:Mo):m.val (kro E B)=(B:Rat) ^ m.num E:=by
 unfold Mo.val kro Mo.num;simp only [<- ycf,<- gas]
 congr 1
 simp only [show ((1:Int) - 1).toNat=0 from rfl,show ((2:Int) - 1).toNat=1 from rfl,show ((3:Int) - 1).toNat=2 from rfl,show ((4:Int) - 1).toNat=3 from rfl,Nat.pow_zero,Nat.pow_one]
 grind
theorem ybk (E B:Nat) (l:Sp):yl (kro E B) l=(xar E B l:Rat):=by
 induction l with
 | nil=>simp [yl,xar]
 | cons x l ih =>
   obtain ⟨c,m⟩:=x;simp only [yl,xar,ih,Mo.val_kro]
   push_cast
   rfl
theorem wct (E B K:Nat) (hB:0 < B) (l:Sp) (h:∀ x ∈ l,x.2.num E<=K):(xar E B l).natAbs<=qf l * B ^ K:=by
 induction l with
 | nil=>simp [xar]
 | cons x l ih =>
   obtain ⟨c,m⟩:=x;have h1:=ih fun x hx=>h x (List.mem_cons_of_mem _ hx)
   have h2:B ^ m.num E<=B ^ K:=Nat.pow_le_pow_right hB (h (c,m) (List.mem_cons_self ..));simp only [xar,qf];have h3:(c * (B:Int) ^ m.num E).natAbs=c.natAbs * B ^ m.num E:=by
    rw [Int.natAbs_mul,Int.natAbs_pow,Int.natAbs_natCast]
   have h4:c.natAbs * B ^ m.num E<=c.natAbs * B ^ K:=Nat.mul_le_mul_left _ h2;have h5:=Int.natAbs_add_le (c * (B:Int) ^ m.num E) (xar E B l);rw [Nat.add_mul];omega
theorem gai (c:Int) (m:Mo) (l:Sp):qf ((c,m) :: l)=c.natAbs+qf l:=rfl
theorem xbx {l:Sp} (h:kaa l) (hn:∀ x ∈ l,x.2.nonneg) (E:Nat) (hE:∀ x ∈ l,x.2.le E) (B:Nat) (hB:qf l+1<=B) (hne:l ≠ []):xar (E+1) B l ≠ 0:=by
 intro h2;cases l with
 | nil=>exact hne rfl
 | cons x r =>
   obtain ⟨c,m⟩:=x;simp only [xar] at h2;have hc:=h.1;rw [gai] at hB;have hnum:∀ x ∈ r,x.2.num (E+1) < m.num (E+1):=fun x hx=>by
    refine Mo.num_lt (hn x (List.mem_cons_of_mem _ hx)) (hn _ (List.mem_cons_self ..)) ?_ (h.2.1 x hx);have:=hE x (List.mem_cons_of_mem _ hx);unfold Mo.le at this;omega
   have h3:(c * (B:Int) ^ m.num (E+1)).natAbs=c.natAbs * B ^ m.num (E+1):=by
    rw [Int.natAbs_mul,Int.natAbs_pow,Int.natAbs_natCast]
   have h4:(xar (E+1) B r).natAbs=(c * (B:Int) ^ m.num (E+1)).natAbs:=by omega
   have hc1:1<=c.natAbs:=by omega
   cases r with
   | nil =>
     simp only [xar,Int.natAbs_zero] at h4;rw [h3] at h4;have:0 < B ^ m.num (E+1):=Nat.pow_pos (by omega);have:=Nat.mul_le_mul_right (B ^ m.num (E+1)) hc1;omega
   | cons y r' =>
     have hy:=hnum y (List.mem_cons_self ..);obtain ⟨K,hK⟩:∃ K,m.num (E+1)=K+1:=⟨m.num (E+1) - 1,by omega⟩;have h5:=wct (E+1) B K (by omega) (y :: r') (fun x hx=>by have:=hnum x hx; omega);rw [h4,h3,hK,Nat.pow_succ] at h5;have hp:0 < B ^ K:=Nat.pow_pos (by omega);generalize B ^ K=P at *;generalize qf (y :: r')=S at *;have h6:1 * (P * B)<=c.natAbs * (P * B):=Nat.mul_le_mul_right _ hc1;have h7:P * (S+2)<=P * B:=Nat.mul_le_mul_left _ (by omega);have h8:P * (S+2)=S * P+2 * P:=by grind
     omega
theorem jbz {l:Sp} (h:kaa l) (hn:∀ x ∈ l,x.2.nonneg) (E:Nat) (hE:∀ x ∈ l,x.2.le E) (hz:∀ ρ,yl ρ l=0):l=[]:=by
 cases l with
 | nil=>rfl
 | cons x r =>
   have h1:=hz (kro (E+1) (qf (x :: r)+1));rw [ybk] at h1;exact absurd (by exact_mod_cast h1) (xbx h hn E hE _ (Nat.le_refl _) (by simp))
theorem Mo.le_sup (l:Sp):∃ E:Nat,∀ x ∈ l,x.2.le E:=by
 induction l with
 | nil=>exact ⟨0,by simp⟩
 | cons x r ih =>
   obtain ⟨E,h⟩:=ih;refine ⟨E+x.2.a.toNat+x.2.b.toNat+x.2.c.toNat+x.2.d.toNat,fun y hy=>?_⟩;rcases List.mem_cons.1 hy with rfl | hy
   · unfold Mo.le; omega
   · exact (h y hy).mono (by omega)
theorem za0 {l l':Sp} (hn:∀ x ∈ l,x.2.nonneg) (hn':∀ x ∈ l',x.2.nonneg) (h:∀ ρ,yl ρ l=yl ρ l') (k:Mo):qc l k=qc l' k:=by
 have hnn:∀ x ∈ l ++ jao l',x.2.nonneg:=fun x hx=>by
  rcases List.mem_append.1 hx with hx | hx
  · exact hn x hx
  · unfold jao at hx;obtain ⟨y,hy,rfl⟩:=List.mem_map.1 hx;exact hn' y hy
 obtain ⟨E,hE⟩:=Mo.le_sup (jc (l ++ jao l'));have h1:jc (l ++ jao l')=[]:=jbz (ww _) (fun x hx=>(jr hx).1) E hE (fun ρ=>by
  rw [yaq ρ (vad hnn),gah,zbk,h ρ]
  grind)
 have h2:=vad hnn k;rw [h1,zan,wbe] at h2;simp only [qc] at h2;omega
theorem Pl.val_uniq {p q:Pl} (hp:p.Can) (hq:q.Can) (h:∀ ρ,p.val ρ=q.val ρ):p=q:=by
 refine Pl.can_eq hp hq (za0 p.terms_one_nonneg q.terms_one_nonneg fun ρ=>?_);rw [Pl.terms_val ρ p _ Mo.one_nonneg,Pl.terms_val ρ q _ Mo.one_nonneg,h ρ]
theorem Pl.ofS_val (ρ:Int->Rat) {l:Sp} (hn:∀ x ∈ l,x.2.nonneg):(Pl.ofS l).val ρ=yl ρ l:=by
 have h1:=yaq ρ (l:=(Pl.ofS l).terms Mo.one) (l':=l) (fun k=>by
  rw [Pl.ofS_coef]
  split
  · rfl
  · rename_i hk
    exact (xad fun x hx e=>hk (by rw [<- e]; exact hn x hx)).symm)
 rw [Pl.terms_val ρ _ _ Mo.one_nonneg,Mo.val_one] at h1
 grind
theorem Pl.terms_sval (ρ:Int->Rat) (p:Pl):yl ρ (p.terms Mo.one)=p.val ρ:=by
 rw [Pl.terms_val ρ p _ Mo.one_nonneg,Mo.val_one]; grind
def Mo.mul (m n:Mo):Mo:=⟨m.a+n.a,m.b+n.b,m.c+n.c,m.d+n.d⟩
theorem Mo.mul_nonneg {m n:Mo} (h:m.nonneg) (k:n.nonneg):(m.mul n).nonneg:=by unfold Mo.nonneg Mo.mul at *; simp only at *; omega
theorem Mo.mul_le {m n:Mo} {E F:Nat} (h:m.le E) (k:n.le F):(m.mul n).le ((E+F:Nat):Int):=by unfold Mo.le Mo.mul at *; simp only; omega
theorem Mo.val_mul (ρ:Int->Rat) {m n:Mo} (h:m.nonneg) (k:n.nonneg):(m.mul n).val ρ=m.val ρ * n.val ρ:=by
 unfold Mo.nonneg at h k;unfold Mo.val Mo.mul;rw [Int.toNat_add h.1 k.1,Int.toNat_add h.2.1 k.2.1,Int.toNat_add h.2.2.1 k.2.2.1,Int.toNat_add h.2.2.2 k.2.2.2];simp only [gas]
 grind
def stm (c:Int) (m:Mo) (l:Sp):Sp:=l.map fun x=>(c * x.1,m.mul x.2)
def gam : Sp -> Sp -> Sp
 | [],_=>[]
 | (c,m) :: r,l=>stm c m l ++ gam r l
theorem qcq {c:Int} {m:Mo} {l:Sp} {x:Int × Mo} (h:x ∈ stm c m l):∃ y ∈ l,x=(c * y.1,m.mul y.2):=by
 unfold stm at h;obtain ⟨y,hy,rfl⟩:=List.mem_map.1 h;exact ⟨y,hy,rfl⟩
theorem ua6 {k l:Sp} {x:Int × Mo} (h:x ∈ gam k l):∃ y ∈ k,∃ z ∈ l,x=(y.1 * z.1,y.2.mul z.2):=by
 induction k with
 | nil=>simp [gam] at h
 | cons u k ih =>
   obtain ⟨c,m⟩:=u;rw [gam] at h;rcases List.mem_append.1 h with h | h
   · obtain ⟨z,hz,rfl⟩:=qcq h;exact ⟨(c,m),List.mem_cons_self ..,z,hz,rfl⟩
   · obtain ⟨y,hy,z,hz,rfl⟩:=ih h;exact ⟨y,List.mem_cons_of_mem _ hy,z,hz,rfl⟩
theorem ycq (ρ:Int->Rat) (c:Int) {m:Mo} (hm:m.nonneg) {l:Sp} (hl:∀ x ∈ l,x.2.nonneg):yl ρ (stm c m l)=(c:Rat) * m.val ρ * yl ρ l:=by
 induction l with
 | nil=>simp [stm,yl]
 | cons x l ih =>
   obtain ⟨d,n⟩:=x;have h1:=ih fun x hx=>hl x (List.mem_cons_of_mem _ hx)
   have h2:=hl (d,n) (List.mem_cons_self ..);unfold stm at h1 ⊢;simp only [List.map_cons,yl,h1,Mo.val_mul ρ hm h2]
   push_cast
   grind
theorem kce (ρ:Int->Rat) {k l:Sp} (hk:∀ x ∈ k,x.2.nonneg) (hl:∀ x ∈ l,x.2.nonneg):yl ρ (gam k l)=yl ρ k * yl ρ l:=by
 induction k with
 | nil=>simp [gam,yl]
 | cons x k ih =>
   obtain ⟨c,m⟩:=x;rw [gam,gah,ycq ρ c (hk _ (List.mem_cons_self ..)) hl,ih fun x hx=>hk x (List.mem_cons_of_mem _ hx)];simp only [yl]
   grind
theorem xcq (c:Int) (m:Mo) (l:Sp):qf (stm c m l)=c.natAbs * qf l:=by
 induction l with
 | nil=>simp [stm,qf]
 | cons x l ih =>
   obtain ⟨d,n⟩:=x;unfold stm at ih ⊢;simp only [List.map_cons,qf,ih,Int.natAbs_mul,Nat.mul_add]
theorem wbl (k l:Sp):qf (gam k l)=qf k * qf l:=by
 induction k with
 | nil=>simp [gam,qf]
 | cons x k ih =>
   obtain ⟨c,m⟩:=x;rw [gam,wah,xcq,ih,gai,Nat.add_mul]
theorem wa3 {k l:Sp} (hk:∀ x ∈ k,x.2.nonneg) (hl:∀ x ∈ l,x.2.nonneg):∀ x ∈ gam k l,x.2.nonneg:=fun x hx=>by
 obtain ⟨y,hy,z,hz,rfl⟩:=ua6 hx;exact Mo.mul_nonneg (hk y hy) (hl z hz)
def Pl.add (p q:Pl):Pl:=Pl.ofS (p.terms Mo.one ++ q.terms Mo.one)
def Pl.mul (p q:Pl):Pl:=Pl.ofS (gam (p.terms Mo.one) (q.terms Mo.one))
theorem Pl.add_can (p q:Pl):(p.add q).Can:=Pl.ofS_can _
theorem Pl.mul_can (p q:Pl):(p.mul q).Can:=Pl.ofS_can _
theorem Pl.add_val (ρ:Int->Rat) (p q:Pl):(p.add q).val ρ=p.val ρ+q.val ρ:=by
 unfold Pl.add;rw [Pl.ofS_val ρ (fun x hx=>(List.mem_append.1 hx).elim (p.terms_one_nonneg x) (q.terms_one_nonneg x)),gah,Pl.terms_sval,Pl.terms_sval]
theorem Pl.mul_val (ρ:Int->Rat) (p q:Pl):(p.mul q).val ρ=p.val ρ * q.val ρ:=by
 unfold Pl.mul;rw [Pl.ofS_val ρ (wa3 p.terms_one_nonneg q.terms_one_nonneg),kce ρ p.terms_one_nonneg q.terms_one_nonneg,Pl.terms_sval,Pl.terms_sval]
theorem Pl.const_val (ρ:Int->Rat) (z:Int):(Pl.const z).val ρ=(z:Rat):=by
 have:=Pl.terms_sval ρ (Pl.const z);rw [Pl.const_terms] at this;simp only [yl,Mo.val_one] at this
 grind
theorem Pl.zero_val (ρ:Int->Rat):Pl.zero.val ρ=0:=by simp [Pl.zero,Pl.val,sgn,val]
theorem Pl.zero_of_val {p:Pl} (hp:p.Can) (h:∀ ρ,p.val ρ=0):p=Pl.zero:=Pl.val_uniq hp Pl.zero_can fun ρ=>by rw [h,Pl.zero_val]
mutual
def Pl.ex (E : Nat) : Pl -> Prop
 | .mk l _ _ cs=>l<=0\/(cs.length<=E+1/\yat E cs)
def yat (E : Nat) : List Pl -> Prop
 | []=>True
 | c :: r=>c.ex E/\yat E r
end
mutual
def Pl.nr : Pl -> Nat
 | .mk l n d cs=>if l<=0 then (sgn n (val d)).natAbs else xab cs
def xab : List Pl -> Nat
 | []=>0
 | c :: r=>c.nr+xab r
end
theorem ja7 {E:Nat} {cs:List Pl} (h:yat E cs):∀ c ∈ cs,c.ex E:=by
 induction cs with
 | nil=>simp
 | cons y r ih=>rw [yat] at h; simpa using ⟨h.1,ih h.2⟩
theorem gbw {E:Nat} {cs:List Pl} (h:∀ c ∈ cs,c.ex E):yat E cs:=by
 induction cs with
 | nil=>trivial
 | cons y r ih=>rw [yat]; exact ⟨h y (by simp),ih fun c hc=>h c (by simp [hc])⟩
theorem ubn {cs:List Pl} {c:Pl} (h:c ∈ cs):c.nr<=xab cs:=by
 induction cs with
 | nil=>cases h
 | cons y r ih =>
   rw [xab];rcases List.mem_cons.1 h with rfl | h
   · omega
   · have:=ih h; omega
theorem ga4 (a b:List Pl):xab (a ++ b)=xab a+xab b:=by
 induction a with
 | nil=>simp [xab]
 | cons x a ih=>rw [List.cons_append,xab,xab,ih]; omega
mutual
theorem Pl.ex_mono {E F : Nat} (hEF : E <= F) : ∀ p : Pl, p.ex E -> p.ex F
 | .mk l _ _ cs,h=>by rw [Pl.ex] at h ⊢; rcases h with h | h; exact .inl h; exact .inr ⟨by omega,gbf hEF cs h.2⟩
theorem gbf {E F : Nat} (hEF : E <= F) : ∀ cs : List Pl, yat E cs -> yat F cs
 | [],_=>trivial
 | c :: r,h=>by rw [yat] at h ⊢; exact ⟨Pl.ex_mono hEF c h.1,gbf hEF r h.2⟩
end
theorem Pl.can_kids {l:Int} {n:Bool} {d:List Nat} {cs:List Pl} (h:(Pl.mk l n d cs).Can) (hl:¬ l<=0):l<=4/\zt l cs:=⟨h.lv_nonneg.2,(h.kids (by omega)).2.2.2.1⟩
theorem Mo.get_put_ne (m:Mo) (i e j:Int) (hj:0 < j) (hj4:j<=4) (hi:0 < i) (hi4:i<=4) (h:j ≠ i):(m.put i e).get j=m.get j:=by
 have:=Mo.get_put m i.toNat e (by omega) (by omega) j.toNat (by omega) (by omega);rw [show ((i.toNat:Nat):Int)=i by omega,show ((j.toNat:Nat):Int)=j by omega,if_neg (by omega)] at this;exact this
mutual
theorem Pl.terms_ex (E : Nat) : ∀ (p : Pl) (m : Mo), p.Can -> p.ex E -> m.le E -> (∀ i : Int, 0 < i -> i <= p.lv -> m.get i = 0) -> ∀ x ∈ p.terms m, x.2.le E
 | .mk l n d cs,m,hc,h,hm,h0,x,hx=>by
   rw [Pl.terms] at hx
   by_cases h1:l<=0
   · rw [if_pos h1] at hx;rw [List.mem_singleton.1 hx];exact hm
   · rw [if_neg h1] at hx;obtain ⟨hl4,hk⟩:=Pl.can_kids hc h1;rw [if_neg (by omega)] at hx;rw [Pl.ex] at h;have h:=h.resolve_left h1;have hz:=h0 l (by omega) (Int.le_refl _);rw [hz] at hx;exact qa9 E cs m l 0 hk h.2 hm (by omega) hl4 (by omega) (by omega) (fun i hi hil=>h0 i hi (by show i<=l; omega)) x hx
theorem qa9 (E : Nat) : ∀ (cs : List Pl) (m : Mo) (l e : Int), zt l cs -> yat E cs -> m.le E -> 0 < l -> l <= 4 -> 0 <= e -> e + cs.length <= E + 1 -> (∀ i : Int, 0 < i -> i < l -> m.get i = 0) -> ∀ x ∈ yc m l e cs, x.2.le E
 | [],m,l,e,_,_,_,_,_,_,_,_,x,hx=>by rw [yc] at hx; cases hx
 | c :: r,m,l,e,hc,h,hm,hl0,hl4,he,hle,h0,x,hx=>by
   rw [yc] at hx;rw [yat] at h;rw [List.length_cons] at hle;unfold zt at hc;rcases List.mem_append.1 hx with hx | hx
   · exact Pl.terms_ex E c _ hc.2.1 h.1 (hm.put l e (by omega)) (fun i hi hil=>by rw [Mo.get_put_ne m l e i hi (by omega) hl0 hl4 (by omega)]; exact h0 i hi (by omega)) x hx
   · exact qa9 E r m l (e+1) hc.2.2 h.2 hm hl0 hl4 (by omega) (by omega) h0 x hx
end
mutual
theorem Pl.terms_nr : ∀ (p : Pl) (m : Mo), p.Can -> qf (p.terms m) = p.nr
 | .mk l n d cs,m,hc=>by
   rw [Pl.terms,Pl.nr]
   by_cases h1:l<=0
   · rw [if_pos h1,if_pos h1]; simp [qf]
   · rw [if_neg h1,if_neg h1];obtain ⟨hl4,hk⟩:=Pl.can_kids hc h1;rw [if_neg (by omega)];exact ya9 cs m l _ hk
theorem ya9 : ∀ (cs : List Pl) (m : Mo) (l e : Int), zt l cs -> qf (yc m l e cs) = xab cs
 | [],m,l,e,_=>rfl
 | c :: r,m,l,e,hc=>by
   unfold zt at hc;rw [yc,wah,xab,Pl.terms_nr c _ hc.2.1,ya9 r m l (e+1) hc.2.2]
end
theorem Pl.const_nr (z:Int):(Pl.const z).nr=z.natAbs:=by rw [Pl.const,Pl.nr,if_pos (Int.le_refl _),zi,ual]
theorem ubz (f:Int × Mo->Int) (k:Nat) (l:Sp):xab ((List.range k).map fun i=>Pl.const (qf (l.filter fun x=>decide (f x=Int.ofNat i))))<=qf l:=by
 have h1:∀ k,xab ((List.range k).map fun i=>Pl.const (qf (l.filter fun x=>decide (f x=Int.ofNat i))))=qf (l.filter fun x=>decide (0<=f x/\f x < k)):=by
  intro k
  induction k with
  | zero =>
    rw [show (l.filter fun x=>decide (0<=f x/\f x < ((0:Nat):Int)))=[] from List.filter_eq_nil_iff.2 fun x _=>by simp]
    rfl
  | succ k ih =>
    rw [List.range_succ,List.map_append,ga4,ih];simp only [List.map_cons,List.map_nil,xab,Pl.const_nr,Int.natAbs_natCast,Nat.add_zero];clear ih
    induction l with
    | nil=>rfl
    | cons x l ih =>
      obtain ⟨c,m⟩:=x;simp only [List.filter_cons,decide_eq_true_eq]
      by_cases h1:f (c,m)=Int.ofNat k
      · have h2:¬ (0<=f (c,m)/\f (c,m) < (k:Int)):=by rw [h1]; simp
        have h3:0<=f (c,m)/\f (c,m) < ((k+1:Nat):Int):=by rw [h1]; simp; omega
        rw [if_neg h2,if_pos h1,if_pos h3,gai,gai];omega
      · rw [if_neg h1];have h4:f (c,m) ≠ (k:Int):=h1
        by_cases h2:0<=f (c,m)/\f (c,m) < (k:Int)
        · have h3:0<=f (c,m)/\f (c,m) < ((k+1:Nat):Int):=by omega
          rw [if_pos h2,if_pos h3,gai,gai];omega
        · have h3:¬ (0<=f (c,m)/\f (c,m) < ((k+1:Nat):Int)):=by omega
          rw [if_neg h2,if_neg h3];exact ih
 rw [h1];exact zbt _ l
theorem wcr {α:Type} (f g:α->Pl) (l:List α) (h:∀ x ∈ l,(f x).nr<=(g x).nr):xab (l.map f)<=xab (l.map g):=by
 induction l with
 | nil=>simp [xab]
 | cons x l ih =>
   simp only [List.map_cons,xab];have h1:=h x (by simp);have h2:=ih fun y hy=>h y (by simp [hy])
   omega
theorem qcy (n:Nat):∀ l:Sp,(bld n l).nr<=qf l:=by
 induction n with
 | zero =>
   intro l;cases l with
   | nil=>simp [bld,Pl.zero,Pl.nr,sgn,val]
   | cons x r=>obtain ⟨c,m⟩:=x; rw [bld,Pl.const_nr,gai]; omega
 | succ n ih =>
   intro l;cases l with
   | nil=>simp [bld,Pl.zero,Pl.nr,sgn,val]
   | cons x r =>
     obtain ⟨c,m⟩:=x;rw [bld]
     split
     · exact ih _
     · rw [Pl.nr,if_neg (by omega)];refine Nat.le_trans (wcr _ (fun (i:Nat)=>Pl.const (qf (((c,m) :: r).filter fun x=>decide (x.2.get (n+1:Nat)=Int.ofNat i)))) _ fun i _=>?_) (ubz (fun x=>x.2.get (n+1:Nat)) _ _);rw [Pl.const_nr,Int.natAbs_natCast];exact ih _
theorem jcy (E n:Nat):∀ l:Sp,(∀ x ∈ l,x.2.le E)->(bld n l).ex E:=by
 induction n with
 | zero =>
   intro l _;cases l with
   | nil=>simp [bld,Pl.zero,Pl.ex]
   | cons x r=>obtain ⟨c,m⟩:=x; simp [bld,Pl.const,Pl.ex]
 | succ n ih =>
   intro l hl;cases l with
   | nil=>simp [bld,Pl.zero,Pl.ex]
   | cons x r =>
     obtain ⟨c,m⟩:=x;rw [bld]
     split
     · exact ih _ hl
     · rw [Pl.ex];have hg:m.get ((n+1:Nat):Int)<=E:=(hl (c,m) (by simp)).get ((n+1:Nat):Int);refine .inr ⟨by rw [List.length_map,List.length_range]; omega,gbw fun p hp=>?_⟩;obtain ⟨i,-,rfl⟩:=List.mem_map.1 hp;exact ih _ (fun x hx=>hl x (List.mem_filter.1 hx).1)
theorem Pl.ofS_ex {E:Nat} {l:Sp} (h:∀ x ∈ l,x.2.le E):(Pl.ofS l).ex E:=jcy E 4 _ fun x hx=>by
 obtain ⟨-,y,hy,e⟩:=jr hx;rw [<- e];exact h y hy
theorem Pl.ofS_nr (l:Sp):(Pl.ofS l).nr<=qf l:=Nat.le_trans (qcy 4 _) (wai l)
theorem Pl.ex_sz (E:Nat) (n:Nat):∀ p:Pl,p.Can->p.ex E->p.lv<=n->p.sz<=(E+2) ^ n:=by
 induction n with
 | zero =>
   intro p hc h hl;obtain ⟨l,ng,d,cs⟩:=p;unfold Pl.Can at hc
   change l<=0 at hl
   rcases hc with hc | hc
   · rw [hc.2.1,Pl.sz,qi]; simp
   · omega
 | succ n ih =>
   intro p hc h hl;obtain ⟨l,ng,d,cs⟩:=p
   change l<=((n+1:Nat):Int) at hl
   by_cases h1:l<=0
   · unfold Pl.Can at hc;rcases hc with hc | hc
     · rw [hc.2.1,Pl.sz,qi]; exact Nat.pow_pos (by omega)
     · omega
   · obtain ⟨-,hk⟩:=Pl.can_kids hc h1;rw [Pl.ex] at h;have h:=h.resolve_left h1;have key:∀ ks:List Pl,(∀ c ∈ ks,c.sz<=(E+2) ^ n)->qi ks<=ks.length * (E+2) ^ n:=by
      intro ks
      induction ks with
      | nil=>simp [qi]
      | cons y r ihr =>
        intro hh;have h1:=hh y (by simp);have h2:=ihr fun z hz=>hh z (by simp [hz])
        rw [qi,List.length_cons,Nat.add_mul];omega
     have h2:=key cs fun c hcm=>ih c (hk.mem c hcm).2 (ja7 h.2 c hcm) (by have:=(hk.mem c hcm).1; omega)
     have h3:cs.length * (E+2) ^ n<=(E+1) * (E+2) ^ n:=Nat.mul_le_mul_right _ h.1;have h4:(E+2) ^ (n+1)=(E+1) * (E+2) ^ n+(E+2) ^ n:=by rw [Nat.pow_succ,Nat.mul_comm,<- Nat.succ_mul]
     have h5:0 < (E+2) ^ n:=Nat.pow_pos (by omega);rw [Pl.sz];omega
mutual
theorem Pl.nr_dm (D : Nat) : ∀ p : Pl, p.Can -> p.nr < B32 ^ D -> p.dm <= D
 | .mk l n d cs,hc,h=>by
   unfold Pl.Can at hc;rw [Pl.nr] at h;rw [Pl.dm];rcases hc with hc | hc
   · rw [if_pos (by omega),qp] at h;rw [hc.2.1,jad,hc.2.2.1];have:=ji h;omega
   · rw [if_neg (by omega)] at h;have:=ubw D cs l hc.2.2.2.2.2.1 h;rw [hc.2.2.2.1,List.length_nil];omega
theorem ubw (D : Nat) : ∀ (cs : List Pl) (l : Int), zt l cs -> xab cs < B32 ^ D -> jad cs <= D
 | [],_,_,_=>by rw [jad]; omega
 | c :: r,l,hc,h=>by
   unfold zt at hc;rw [xab] at h;rw [jad];have h1:=Pl.nr_dm D c hc.2.1 (by omega);have h2:=ubw D r l hc.2.2 (by omega);omega
end
structure Fit (p : Pl) (E D : Nat) : Prop where
 can:p.Can
 ex:p.ex E
 nr:p.nr < B32 ^ D
namespace Fit
variable {p q:Pl} {E D F G:Nat}
theorem sz (h:Fit p E D):p.sz<=(E+2) ^ 4:=Pl.ex_sz E 4 p h.can h.ex h.can.lv_nonneg.2
theorem dm (h:Fit p E D):p.dm<=D:=Pl.nr_dm D p h.can h.nr
theorem mono (h:Fit p E D) (hE:E<=F) (hD:D<=G):Fit p F G:=⟨h.can,Pl.ex_mono hE p h.ex,Nat.lt_of_lt_of_le h.nr (Nat.pow_le_pow_right (by decide) hD)⟩
theorem exps (h:Fit p E D):∀ x ∈ p.terms Mo.one,x.2.le E:=Pl.terms_ex E p Mo.one h.can h.ex (by unfold Mo.le Mo.one; simp) (fun i h0 h4=>by unfold Mo.one Mo.get; split <;> (try split) <;> (try split) <;> rfl)
theorem nrm (h:Fit p E D):qf (p.terms Mo.one)=p.nr:=Pl.terms_nr p _ h.can
theorem kid {l:Int} {n:Bool} {d:List Nat} {cs:List Pl} (h:Fit (.mk l n d cs) E D) (hl:0 < l) {c:Pl} (hc:c ∈ cs):Fit c E D:=by
 obtain ⟨h1,h2,h3⟩:=h;obtain ⟨-,hk⟩:=Pl.can_kids h1 (by omega);rw [Pl.ex] at h2;rw [Pl.nr,if_neg (by omega)] at h3;have:=ubn hc;exact ⟨(hk.mem c hc).2,ja7 (h2.resolve_left (by omega)).2 c hc,by omega⟩
theorem len {l:Int} {n:Bool} {d:List Nat} {cs:List Pl} (h:Fit (.mk l n d cs) E D) (hl:0 < l):cs.length<=E+1:=by
 have h2:=h.ex;rw [Pl.ex] at h2;exact (h2.resolve_left (by omega)).1
theorem const {z:Int} (h:z.natAbs < B32 ^ D):Fit (Pl.const z) E D:=⟨kad z,by unfold Pl.const; rw [Pl.ex]; exact .inl (Int.le_refl _),by rw [Pl.const_nr]; exact h⟩
theorem zero:Fit Pl.zero E D:=⟨Pl.zero_can,by unfold Pl.zero; rw [Pl.ex]; exact .inl (Int.le_refl _),by unfold Pl.zero; rw [Pl.nr,if_pos (Int.le_refl _)]; exact Nat.pow_pos (by decide)⟩
theorem add (h:Fit p E D) (k:Fit q F G):Fit (p.add q) (max E F) (max D G+1):=by
 refine ⟨Pl.add_can p q,Pl.ofS_ex fun x hx=>?_,?_⟩
 · rcases List.mem_append.1 hx with hx | hx
   · exact (h.exps x hx).mono (by omega)
   · exact (k.exps x hx).mono (by omega)
 · have h1:=Pl.ofS_nr (p.terms Mo.one ++ q.terms Mo.one);rw [wah,h.nrm,k.nrm] at h1;have h2:B32 ^ D<=B32 ^ max D G:=Nat.pow_le_pow_right (by decide) (by omega);have h3:B32 ^ G<=B32 ^ max D G:=Nat.pow_le_pow_right (by decide) (by omega);have h4:=h.nr;have h5:=k.nr;unfold Pl.add;rw [Nat.pow_succ];have h6:B32 ^ max D G * 2<=B32 ^ max D G * B32:=Nat.mul_le_mul_left _ (by decide);omega
theorem mul (h:Fit p E D) (k:Fit q F G):Fit (p.mul q) (E+F) (D+G):=by
 refine ⟨Pl.mul_can p q,Pl.ofS_ex fun x hx=>?_,?_⟩
 · obtain ⟨y,hy,z,hz,rfl⟩:=ua6 hx;exact Mo.mul_le (h.exps y hy) (k.exps z hz)
 · have h1:=Pl.ofS_nr (gam (p.terms Mo.one) (q.terms Mo.one));rw [wbl,h.nrm,k.nrm] at h1;unfold Pl.mul;rw [Nat.pow_add];refine Nat.lt_of_le_of_lt h1 (Nat.mul_lt_mul_of_lt_of_le h.nr (Nat.le_of_lt k.nr) (Nat.pow_pos (by decide)))
end Fit
end Go.Proofs.YtaedbimbbeploaaGreatDoor
