/- Polynomials in four variables, plain: a canonical polynomial is known by its values; sums and products. No program in sight. -/
import Derived.Test.YtaedbimbbeploaaGreatMz33
set_option linter.unusedSimpArgs false
set_option linter.unusedVariables false

namespace Go.Proofs.YtaedbimbbeploaaGreat
theorem wa1 (x:Rat) (m n:Nat):x ^ (m+n)=x ^ m * x ^ n:=by
 induction n with
 | zero=>simp
 | succ n ih=>rw [<- Nat.add_assoc,Rat.pow_succ,ih,Rat.pow_succ]; grind
theorem jb6 (x:Rat) (m n:Nat):x ^ (m * n)=(x ^ m) ^ n:=by
 induction n with
 | zero=>simp
 | succ n ih=>rw [Nat.mul_succ,wa1,ih,Rat.pow_succ]
def Mo.num (E:Nat) (m:Mo):Nat:=m.a.toNat+E * (m.b.toNat+E * (m.c.toNat+E * m.d.toNat))
theorem vam {E x x' y y':Nat} (hx:x < E) (h:y < y'):x+E * y < x'+E * y':=by
 have h1:E * (y+1)<=E * y':=Nat.mul_le_mul_left E h;rw [Nat.mul_add] at h1;omega
theorem Mo.num_lt {E:Nat} {m n:Mo} (hm:m.nonneg) (hn:n.nonneg) (hE:m.a < E/\m.b < E/\m.c < E/\m.d < E) (h:m.lt n):m.num E < n.num E:=by
 unfold Mo.lt at h;unfold Mo.nonneg at hm hn;unfold Mo.num;rcases h with h | ⟨h1,h | ⟨h2,h | ⟨h3,h⟩⟩⟩
 · exact vam (by omega) (vam (by omega) (vam (by omega) (by omega)))
 · rw [h1]; exact vam (by omega) (vam (by omega) (by omega))
 · rw [h1,h2]; exact vam (by omega) (by omega)
 · rw [h1,h2,h3]; omega
def qao (E B : Nat) : Sp -> Int
 | []=>0
 | (c,m) :: r=>c * (B:Int) ^ m.num E+qao E B r
def kro (E B:Nat) (i:Int):Rat:=(B:Rat) ^ (E ^ (i - 1).toNat)
theorem Mo.val_kro (E B:Nat) (m:Mo):m.val (kro E B)=(B:Rat) ^ m.num E:=by
 unfold Mo.val kro Mo.num;simp only [<- jb6,<- wa1]
 congr 1
 simp only [show ((1:Int) - 1).toNat=0 from rfl,show ((2:Int) - 1).toNat=1 from rfl,show ((3:Int) - 1).toNat=2 from rfl,show ((4:Int) - 1).toNat=3 from rfl,Nat.pow_zero,Nat.pow_one]
 grind
theorem kbc (E B:Nat) (l:Sp):qp (kro E B) l=(qao E B l:Rat):=by
 induction l with
 | nil=>simp [qp,qao]
 | cons x l ih =>
   obtain ⟨c,m⟩:=x;simp only [qp,qao,ih,Mo.val_kro]
   push_cast
   rfl
theorem gci (E B K:Nat) (hB:0 < B) (l:Sp) (h:∀ x ∈ l,x.2.num E<=K):(qao E B l).natAbs<=zg l * B ^ K:=by
 induction l with
 | nil=>simp [qao]
 | cons x l ih =>
   obtain ⟨c,m⟩:=x;have h1:=ih fun x hx=>h x (List.mem_cons_of_mem _ hx)
   have h2:B ^ m.num E<=B ^ K:=Nat.pow_le_pow_right hB (h (c,m) (List.mem_cons_self ..));simp only [qao,zg];have h3:(c * (B:Int) ^ m.num E).natAbs=c.natAbs * B ^ m.num E:=by
    rw [Int.natAbs_mul,Int.natAbs_pow,Int.natAbs_natCast]
   have h4:c.natAbs * B ^ m.num E<=c.natAbs * B ^ K:=Nat.mul_le_mul_left _ h2;have h5:=Int.natAbs_add_le (c * (B:Int) ^ m.num E) (qao E B l);rw [Nat.add_mul];omega
theorem gag (c:Int) (m:Mo) (l:Sp):zg ((c,m) :: l)=c.natAbs+zg l:=rfl
theorem qbo {l:Sp} (h:vac l) (hn:∀ x ∈ l,x.2.nonneg) (E:Nat) (hE:∀ x ∈ l,x.2.le E) (B:Nat) (hB:zg l+1<=B) (hne:l ≠ []):qao (E+1) B l ≠ 0:=by
 intro h2;cases l with
 | nil=>exact hne rfl
 | cons x r =>
   obtain ⟨c,m⟩:=x;simp only [qao] at h2;have hc:=h.1;rw [gag] at hB;have hnum:∀ x ∈ r,x.2.num (E+1) < m.num (E+1):=fun x hx=>by
    refine Mo.num_lt (hn x (List.mem_cons_of_mem _ hx)) (hn _ (List.mem_cons_self ..)) ?_ (h.2.1 x hx);have:=hE x (List.mem_cons_of_mem _ hx);unfold Mo.le at this;omega
   have h3:(c * (B:Int) ^ m.num (E+1)).natAbs=c.natAbs * B ^ m.num (E+1):=by
    rw [Int.natAbs_mul,Int.natAbs_pow,Int.natAbs_natCast]
   have h4:(qao (E+1) B r).natAbs=(c * (B:Int) ^ m.num (E+1)).natAbs:=by omega
   have hc1:1<=c.natAbs:=by omega
   cases r with
   | nil =>
     simp only [qao,Int.natAbs_zero] at h4;rw [h3] at h4;have:0 < B ^ m.num (E+1):=Nat.pow_pos (by omega);have:=Nat.mul_le_mul_right (B ^ m.num (E+1)) hc1;omega
   | cons y r' =>
     have hy:=hnum y (List.mem_cons_self ..);obtain ⟨K,hK⟩:∃ K,m.num (E+1)=K+1:=⟨m.num (E+1) - 1,by omega⟩;have h5:=gci (E+1) B K (by omega) (y :: r') (fun x hx=>by have:=hnum x hx; omega);rw [h4,h3,hK,Nat.pow_succ] at h5;have hp:0 < B ^ K:=Nat.pow_pos (by omega);generalize B ^ K=P at *;generalize zg (y :: r')=S at *;have h6:1 * (P * B)<=c.natAbs * (P * B):=Nat.mul_le_mul_right _ hc1;have h7:P * (S+2)<=P * B:=Nat.mul_le_mul_left _ (by omega);have h8:P * (S+2)=S * P+2 * P:=by grind
     omega
theorem zbq {l:Sp} (h:vac l) (hn:∀ x ∈ l,x.2.nonneg) (E:Nat) (hE:∀ x ∈ l,x.2.le E) (hz:∀ ρ,qp ρ l=0):l=[]:=by
 cases l with
 | nil=>rfl
 | cons x r =>
   have h1:=hz (kro (E+1) (zg (x :: r)+1));rw [kbc] at h1;exact absurd (by exact_mod_cast h1) (qbo h hn E hE _ (Nat.le_refl _) (by simp))
theorem Mo.le_sup (l:Sp):∃ E:Nat,∀ x ∈ l,x.2.le E:=by
 induction l with
 | nil=>exact ⟨0,by simp⟩
 | cons x r ih =>
   obtain ⟨E,h⟩:=ih;refine ⟨E+x.2.a.toNat+x.2.b.toNat+x.2.c.toNat+x.2.d.toNat,fun y hy=>?_⟩;rcases List.mem_cons.1 hy with rfl | hy
   · unfold Mo.le; omega
   · exact (h y hy).mono (by omega)
theorem zbe {l l':Sp} (hn:∀ x ∈ l,x.2.nonneg) (hn':∀ x ∈ l',x.2.nonneg) (h:∀ ρ,qp ρ l=qp ρ l') (k:Mo):jc l k=jc l' k:=by
 have hnn:∀ x ∈ l ++ xam l',x.2.nonneg:=fun x hx=>by
  rcases List.mem_append.1 hx with hx | hx
  · exact hn x hx
  · unfold xam at hx;obtain ⟨y,hy,rfl⟩:=List.mem_map.1 hx;exact hn' y hy
 obtain ⟨E,hE⟩:=Mo.le_sup (uj (l ++ xam l'));have h1:uj (l ++ xam l')=[]:=zbq (waa _) (fun x hx=>(gaa hx).1) E hE (fun ρ=>by
  rw [xar ρ (kaf hnn),xan,jbc,h ρ]
  grind)
 have h2:=kaf hnn k;rw [h1,yal,wa8] at h2;simp only [jc] at h2;omega
theorem Pl.val_uniq {p q:Pl} (hp:p.Can) (hq:q.Can) (h:∀ ρ,p.val ρ=q.val ρ):p=q:=by
 refine Pl.can_eq hp hq (zbe p.terms_one_nonneg q.terms_one_nonneg fun ρ=>?_);rw [Pl.terms_val ρ p _ Mo.one_nonneg,Pl.terms_val ρ q _ Mo.one_nonneg,h ρ]
theorem Pl.ofS_val (ρ:Int->Rat) {l:Sp} (hn:∀ x ∈ l,x.2.nonneg):(Pl.ofS l).val ρ=qp ρ l:=by
 have h1:=xar ρ (l:=(Pl.ofS l).terms Mo.one) (l':=l) (fun k=>by
  rw [Pl.ofS_coef]
  split
  · rfl
  · rename_i hk
    exact (uac fun x hx e=>hk (by rw [<- e]; exact hn x hx)).symm)
 rw [Pl.terms_val ρ _ _ Mo.one_nonneg,Mo.val_one] at h1
 grind
theorem Pl.terms_sval (ρ:Int->Rat) (p:Pl):qp ρ (p.terms Mo.one)=p.val ρ:=by
 rw [Pl.terms_val ρ p _ Mo.one_nonneg,Mo.val_one]; grind
def Mo.mul (m n:Mo):Mo:=⟨m.a+n.a,m.b+n.b,m.c+n.c,m.d+n.d⟩
theorem Mo.mul_nonneg {m n:Mo} (h:m.nonneg) (k:n.nonneg):(m.mul n).nonneg:=by unfold Mo.nonneg Mo.mul at *; simp only at *; omega
theorem Mo.mul_le {m n:Mo} {E F:Nat} (h:m.le E) (k:n.le F):(m.mul n).le ((E+F:Nat):Int):=by unfold Mo.le Mo.mul at *; simp only; omega
theorem Mo.val_mul (ρ:Int->Rat) {m n:Mo} (h:m.nonneg) (k:n.nonneg):(m.mul n).val ρ=m.val ρ * n.val ρ:=by
 unfold Mo.nonneg at h k;unfold Mo.val Mo.mul;rw [Int.toNat_add h.1 k.1,Int.toNat_add h.2.1 k.2.1,Int.toNat_add h.2.2.1 k.2.2.1,Int.toNat_add h.2.2.2 k.2.2.2];simp only [wa1]
 grind
def stm (c:Int) (m:Mo) (l:Sp):Sp:=l.map fun x=>(c * x.1,m.mul x.2)
def qam : Sp -> Sp -> Sp
 | [],_=>[]
 | (c,m) :: r,l=>stm c m l ++ qam r l
theorem zcf {c:Int} {m:Mo} {l:Sp} {x:Int × Mo} (h:x ∈ stm c m l):∃ y ∈ l,x=(c * y.1,m.mul y.2):=by
 unfold stm at h;obtain ⟨y,hy,rfl⟩:=List.mem_map.1 h;exact ⟨y,hy,rfl⟩
theorem ja1 {k l:Sp} {x:Int × Mo} (h:x ∈ qam k l):∃ y ∈ k,∃ z ∈ l,x=(y.1 * z.1,y.2.mul z.2):=by
 induction k with
 | nil=>simp [qam] at h
 | cons u k ih =>
   obtain ⟨c,m⟩:=u;rw [qam] at h;rcases List.mem_append.1 h with h | h
   · obtain ⟨z,hz,rfl⟩:=zcf h;exact ⟨(c,m),List.mem_cons_self ..,z,hz,rfl⟩
   · obtain ⟨y,hy,z,hz,rfl⟩:=ih h;exact ⟨y,List.mem_cons_of_mem _ hy,z,hz,rfl⟩
theorem gce (ρ:Int->Rat) (c:Int) {m:Mo} (hm:m.nonneg) {l:Sp} (hl:∀ x ∈ l,x.2.nonneg):qp ρ (stm c m l)=(c:Rat) * m.val ρ * qp ρ l:=by
 induction l with
 | nil=>simp [stm,qp]
 | cons x l ih =>
   obtain ⟨d,n⟩:=x;have h1:=ih fun x hx=>hl x (List.mem_cons_of_mem _ hx)
   have h2:=hl (d,n) (List.mem_cons_self ..);unfold stm at h1 ⊢;simp only [List.map_cons,qp,h1,Mo.val_mul ρ hm h2]
   push_cast
   grind
theorem kb5 (ρ:Int->Rat) {k l:Sp} (hk:∀ x ∈ k,x.2.nonneg) (hl:∀ x ∈ l,x.2.nonneg):qp ρ (qam k l)=qp ρ k * qp ρ l:=by
 induction k with
 | nil=>simp [qam,qp]
 | cons x k ih =>
   obtain ⟨c,m⟩:=x;rw [qam,xan,gce ρ c (hk _ (List.mem_cons_self ..)) hl,ih fun x hx=>hk x (List.mem_cons_of_mem _ hx)];simp only [qp]
   grind
theorem wce (c:Int) (m:Mo) (l:Sp):zg (stm c m l)=c.natAbs * zg l:=by
 induction l with
 | nil=>simp [stm,zg]
 | cons x l ih =>
   obtain ⟨d,n⟩:=x;unfold stm at ih ⊢;simp only [List.map_cons,zg,ih,Int.natAbs_mul,Nat.mul_add]
theorem vb5 (k l:Sp):zg (qam k l)=zg k * zg l:=by
 induction k with
 | nil=>simp [qam,zg]
 | cons x k ih =>
   obtain ⟨c,m⟩:=x;rw [qam,qaj,wce,ih,gag,Nat.add_mul]
theorem yaz {k l:Sp} (hk:∀ x ∈ k,x.2.nonneg) (hl:∀ x ∈ l,x.2.nonneg):∀ x ∈ qam k l,x.2.nonneg:=fun x hx=>by
 obtain ⟨y,hy,z,hz,rfl⟩:=ja1 hx;exact Mo.mul_nonneg (hk y hy) (hl z hz)
def Pl.add (p q:Pl):Pl:=Pl.ofS (p.terms Mo.one ++ q.terms Mo.one)
def Pl.mul (p q:Pl):Pl:=Pl.ofS (qam (p.terms Mo.one) (q.terms Mo.one))
theorem Pl.add_can (p q:Pl):(p.add q).Can:=Pl.ofS_can _
theorem Pl.mul_can (p q:Pl):(p.mul q).Can:=Pl.ofS_can _
theorem Pl.mul_val (ρ:Int->Rat) (p q:Pl):(p.mul q).val ρ=p.val ρ * q.val ρ:=by
 unfold Pl.mul;rw [Pl.ofS_val ρ (yaz p.terms_one_nonneg q.terms_one_nonneg),kb5 ρ p.terms_one_nonneg q.terms_one_nonneg,Pl.terms_sval,Pl.terms_sval]
theorem Pl.const_val (ρ:Int->Rat) (z:Int):(Pl.const z).val ρ=(z:Rat):=by
 have:=Pl.terms_sval ρ (Pl.const z);rw [Pl.const_terms] at this;simp only [qp,Mo.val_one] at this
 grind
theorem Pl.zero_val (ρ:Int->Rat):Pl.zero.val ρ=0:=by simp [Pl.zero,Pl.val,sgn,val]
theorem Pl.zero_of_val {p:Pl} (hp:p.Can) (h:∀ ρ,p.val ρ=0):p=Pl.zero:=Pl.val_uniq hp Pl.zero_can fun ρ=>by rw [h,Pl.zero_val]
mutual
def Pl.ex (E : Nat) : Pl -> Prop
 | .mk l _ _ cs=>l<=0\/(cs.length<=E+1/\qaq E cs)
def qaq (E : Nat) : List Pl -> Prop
 | []=>True
 | c :: r=>c.ex E/\qaq E r
end
mutual
def Pl.nr : Pl -> Nat
 | .mk l n d cs=>if l<=0 then (sgn n (val d)).natAbs else wad cs
def wad : List Pl -> Nat
 | []=>0
 | c :: r=>c.nr+wad r
end
theorem vbf {E:Nat} {cs:List Pl} (h:qaq E cs):∀ c ∈ cs,c.ex E:=by
 induction cs with
 | nil=>simp
 | cons y r ih=>rw [qaq] at h; simpa using ⟨h.1,ih h.2⟩
theorem xcg {E:Nat} {cs:List Pl} (h:∀ c ∈ cs,c.ex E):qaq E cs:=by
 induction cs with
 | nil=>trivial
 | cons y r ih=>rw [qaq]; exact ⟨h y (by simp),ih fun c hc=>h c (by simp [hc])⟩
theorem vb7 {cs:List Pl} {c:Pl} (h:c ∈ cs):c.nr<=wad cs:=by
 induction cs with
 | nil=>cases h
 | cons y r ih =>
   rw [wad];rcases List.mem_cons.1 h with rfl | h
   · omega
   · have:=ih h; omega
theorem wbk (a b:List Pl):wad (a ++ b)=wad a+wad b:=by
 induction a with
 | nil=>simp [wad]
 | cons x a ih=>rw [List.cons_append,wad,wad,ih]; omega
mutual
theorem Pl.ex_mono {E F : Nat} (hEF : E <= F) : ∀ p : Pl, p.ex E -> p.ex F
 | .mk l _ _ cs,h=>by rw [Pl.ex] at h ⊢; rcases h with h | h; exact .inl h; exact .inr ⟨by omega,ka9 hEF cs h.2⟩
theorem ka9 {E F : Nat} (hEF : E <= F) : ∀ cs : List Pl, qaq E cs -> qaq F cs
 | [],_=>trivial
 | c :: r,h=>by rw [qaq] at h ⊢; exact ⟨Pl.ex_mono hEF c h.1,ka9 hEF r h.2⟩
end
theorem Pl.can_kids {l:Int} {n:Bool} {d:List Nat} {cs:List Pl} (h:(Pl.mk l n d cs).Can) (hl:¬ l<=0):l<=4/\ku l cs:=⟨h.lv_nonneg.2,(h.kids (by omega)).2.2.2.1⟩
theorem Mo.get_put_ne (m:Mo) (i e j:Int) (hj:0 < j) (hj4:j<=4) (hi:0 < i) (hi4:i<=4) (h:j ≠ i):(m.put i e).get j=m.get j:=by
 have:=Mo.get_put m i.toNat e (by omega) (by omega) j.toNat (by omega) (by omega);rw [show ((i.toNat:Nat):Int)=i by omega,show ((j.toNat:Nat):Int)=j by omega,if_neg (by omega)] at this;exact this
mutual
theorem Pl.terms_ex (E : Nat) : ∀ (p : Pl) (m : Mo), p.Can -> p.ex E -> m.le E -> (∀ i : Int, 0 < i -> i <= p.lv -> m.get i = 0) -> ∀ x ∈ p.terms m, x.2.le E
 | .mk l n d cs,m,hc,h,hm,h0,x,hx=>by
   rw [Pl.terms] at hx
   by_cases h1:l<=0
   · rw [if_pos h1] at hx;rw [List.mem_singleton.1 hx];exact hm
   · rw [if_neg h1] at hx;obtain ⟨hl4,hk⟩:=Pl.can_kids hc h1;rw [if_neg (by omega)] at hx;rw [Pl.ex] at h;have h:=h.resolve_left h1;have hz:=h0 l (by omega) (Int.le_refl _);rw [hz] at hx;exact ua3 E cs m l 0 hk h.2 hm (by omega) hl4 (by omega) (by omega) (fun i hi hil=>h0 i hi (by show i<=l; omega)) x hx
theorem ua3 (E : Nat) : ∀ (cs : List Pl) (m : Mo) (l e : Int), ku l cs -> qaq E cs -> m.le E -> 0 < l -> l <= 4 -> 0 <= e -> e + cs.length <= E + 1 -> (∀ i : Int, 0 < i -> i < l -> m.get i = 0) -> ∀ x ∈ yc m l e cs, x.2.le E
 | [],m,l,e,_,_,_,_,_,_,_,_,x,hx=>by rw [yc] at hx; cases hx
 | c :: r,m,l,e,hc,h,hm,hl0,hl4,he,hle,h0,x,hx=>by
   rw [yc] at hx;rw [qaq] at h;rw [List.length_cons] at hle;unfold ku at hc;rcases List.mem_append.1 hx with hx | hx
   · exact Pl.terms_ex E c _ hc.2.1 h.1 (hm.put l e (by omega)) (fun i hi hil=>by rw [Mo.get_put_ne m l e i hi (by omega) hl0 hl4 (by omega)]; exact h0 i hi (by omega)) x hx
   · exact ua3 E r m l (e+1) hc.2.2 h.2 hm hl0 hl4 (by omega) (by omega) h0 x hx
end
mutual
theorem Pl.terms_nr : ∀ (p : Pl) (m : Mo), p.Can -> zg (p.terms m) = p.nr
 | .mk l n d cs,m,hc=>by
   rw [Pl.terms,Pl.nr]
   by_cases h1:l<=0
   · rw [if_pos h1,if_pos h1]; simp [zg]
   · rw [if_neg h1,if_neg h1];obtain ⟨hl4,hk⟩:=Pl.can_kids hc h1;rw [if_neg (by omega)];exact ka3 cs m l _ hk
theorem ka3 : ∀ (cs : List Pl) (m : Mo) (l e : Int), ku l cs -> zg (yc m l e cs) = wad cs
 | [],m,l,e,_=>rfl
 | c :: r,m,l,e,hc=>by
   unfold ku at hc;rw [yc,qaj,wad,Pl.terms_nr c _ hc.2.1,ka3 r m l (e+1) hc.2.2]
end
theorem Pl.const_nr (z:Int):(Pl.const z).nr=z.natAbs:=by rw [Pl.const,Pl.nr,if_pos (Int.le_refl _),je,jam]
theorem jbq (f:Int × Mo->Int) (k:Nat) (l:Sp):wad ((List.range k).map fun i=>Pl.const (zg (l.filter fun x=>decide (f x=Int.ofNat i))))<=zg l:=by
 have h1:∀ k,wad ((List.range k).map fun i=>Pl.const (zg (l.filter fun x=>decide (f x=Int.ofNat i))))=zg (l.filter fun x=>decide (0<=f x/\f x < k)):=by
  intro k
  induction k with
  | zero =>
    rw [show (l.filter fun x=>decide (0<=f x/\f x < ((0:Nat):Int)))=[] from List.filter_eq_nil_iff.2 fun x _=>by simp]
    rfl
  | succ k ih =>
    rw [List.range_succ,List.map_append,wbk,ih];simp only [List.map_cons,List.map_nil,wad,Pl.const_nr,Int.natAbs_natCast,Nat.add_zero];clear ih
    induction l with
    | nil=>rfl
    | cons x l ih =>
      obtain ⟨c,m⟩:=x;simp only [List.filter_cons,decide_eq_true_eq]
      by_cases h1:f (c,m)=Int.ofNat k
      · have h2:¬ (0<=f (c,m)/\f (c,m) < (k:Int)):=by rw [h1]; simp
        have h3:0<=f (c,m)/\f (c,m) < ((k+1:Nat):Int):=by rw [h1]; simp; omega
        rw [if_neg h2,if_pos h1,if_pos h3,gag,gag];omega
      · rw [if_neg h1];have h4:f (c,m) ≠ (k:Int):=h1
        by_cases h2:0<=f (c,m)/\f (c,m) < (k:Int)
        · have h3:0<=f (c,m)/\f (c,m) < ((k+1:Nat):Int):=by omega
          rw [if_pos h2,if_pos h3,gag,gag];omega
        · have h3:¬ (0<=f (c,m)/\f (c,m) < ((k+1:Nat):Int)):=by omega
          rw [if_neg h2,if_neg h3];exact ih
 rw [h1];exact qbk _ l
theorem ycg {α:Type} (f g:α->Pl) (l:List α) (h:∀ x ∈ l,(f x).nr<=(g x).nr):wad (l.map f)<=wad (l.map g):=by
 induction l with
 | nil=>simp [wad]
 | cons x l ih =>
   simp only [List.map_cons,wad];have h1:=h x (by simp);have h2:=ih fun y hy=>h y (by simp [hy])
   omega
theorem uco (n:Nat):∀ l:Sp,(bld n l).nr<=zg l:=by
 induction n with
 | zero =>
   intro l;cases l with
   | nil=>simp [bld,Pl.zero,Pl.nr,sgn,val]
   | cons x r=>obtain ⟨c,m⟩:=x; rw [bld,Pl.const_nr,gag]; omega
 | succ n ih =>
   intro l;cases l with
   | nil=>simp [bld,Pl.zero,Pl.nr,sgn,val]
   | cons x r =>
     obtain ⟨c,m⟩:=x;rw [bld]
     split
     · exact ih _
     · rw [Pl.nr,if_neg (by omega)];refine Nat.le_trans (ycg _ (fun (i:Nat)=>Pl.const (zg (((c,m) :: r).filter fun x=>decide (x.2.get (n+1:Nat)=Int.ofNat i)))) _ fun i _=>?_) (jbq (fun x=>x.2.get (n+1:Nat)) _ _);rw [Pl.const_nr,Int.natAbs_natCast];exact ih _
theorem gco (E n:Nat):∀ l:Sp,(∀ x ∈ l,x.2.le E)->(bld n l).ex E:=by
 induction n with
 | zero =>
   intro l _;cases l with
   | nil=>simp [bld,Pl.zero,Pl.ex]
   | cons x r=>obtain ⟨c,m⟩:=x; simp [bld,Pl.const,Pl.ex]
 | succ n ih =>
   intro l hl;cases l with
   | nil=>simp [bld,Pl.zero,Pl.ex]
   | cons x r =>
     obtain ⟨c,m⟩:=x;rw [bld]
     split
     · exact ih _ hl
     · rw [Pl.ex];have hg:m.get ((n+1:Nat):Int)<=E:=(hl (c,m) (by simp)).get ((n+1:Nat):Int);refine .inr ⟨by rw [List.length_map,List.length_range]; omega,xcg fun p hp=>?_⟩;obtain ⟨i,-,rfl⟩:=List.mem_map.1 hp;exact ih _ (fun x hx=>hl x (List.mem_filter.1 hx).1)
theorem Pl.ofS_ex {E:Nat} {l:Sp} (h:∀ x ∈ l,x.2.le E):(Pl.ofS l).ex E:=gco E 4 _ fun x hx=>by
 obtain ⟨-,y,hy,e⟩:=gaa hx;rw [<- e];exact h y hy
theorem Pl.ofS_nr (l:Sp):(Pl.ofS l).nr<=zg l:=Nat.le_trans (uco 4 _) (ga8 l)
theorem Pl.ex_sz (E:Nat) (n:Nat):∀ p:Pl,p.Can->p.ex E->p.lv<=n->p.sz<=(E+2) ^ n:=by
 induction n with
 | zero =>
   intro p hc h hl;obtain ⟨l,ng,d,cs⟩:=p;unfold Pl.Can at hc
   change l<=0 at hl
   rcases hc with hc | hc
   · rw [hc.2.1,Pl.sz,ji]; simp
   · omega
 | succ n ih =>
   intro p hc h hl;obtain ⟨l,ng,d,cs⟩:=p
   change l<=((n+1:Nat):Int) at hl
   by_cases h1:l<=0
   · unfold Pl.Can at hc;rcases hc with hc | hc
     · rw [hc.2.1,Pl.sz,ji]; exact Nat.pow_pos (by omega)
     · omega
   · obtain ⟨-,hk⟩:=Pl.can_kids hc h1;rw [Pl.ex] at h;have h:=h.resolve_left h1;have key:∀ ks:List Pl,(∀ c ∈ ks,c.sz<=(E+2) ^ n)->ji ks<=ks.length * (E+2) ^ n:=by
      intro ks
      induction ks with
      | nil=>simp [ji]
      | cons y r ihr =>
        intro hh;have h1:=hh y (by simp);have h2:=ihr fun z hz=>hh z (by simp [hz])
        rw [ji,List.length_cons,Nat.add_mul];omega
     have h2:=key cs fun c hcm=>ih c (hk.mem c hcm).2 (vbf h.2 c hcm) (by have:=(hk.mem c hcm).1; omega)
     have h3:cs.length * (E+2) ^ n<=(E+1) * (E+2) ^ n:=Nat.mul_le_mul_right _ h.1;have h4:(E+2) ^ (n+1)=(E+1) * (E+2) ^ n+(E+2) ^ n:=by rw [Nat.pow_succ,Nat.mul_comm,<- Nat.succ_mul]
     have h5:0 < (E+2) ^ n:=Nat.pow_pos (by omega);rw [Pl.sz];omega
mutual
theorem Pl.nr_dm (D : Nat) : ∀ p : Pl, p.Can -> p.nr < B32 ^ D -> p.dm <= D
 | .mk l n d cs,hc,h=>by
   unfold Pl.Can at hc;rw [Pl.nr] at h;rw [Pl.dm];rcases hc with hc | hc
   · rw [if_pos (by omega),zn] at h;rw [hc.2.1,uz,hc.2.2.1];have:=yh h;omega
   · rw [if_neg (by omega)] at h;have:=wbn D cs l hc.2.2.2.2.2.1 h;rw [hc.2.2.2.1,List.length_nil];omega
theorem wbn (D : Nat) : ∀ (cs : List Pl) (l : Int), ku l cs -> wad cs < B32 ^ D -> uz cs <= D
 | [],_,_,_=>by rw [uz]; omega
 | c :: r,l,hc,h=>by
   unfold ku at hc;rw [wad] at h;rw [uz];have h1:=Pl.nr_dm D c hc.2.1 (by omega);have h2:=wbn D r l hc.2.2 (by omega);omega
end
structure Fit (p : Pl) (E D : Nat) : Prop where
 can:p.Can
 ex:p.ex E
 nr:p.nr < B32 ^ D
namespace Fit
variable {p q:Pl} {E D F G:Nat}
theorem sz (h:Fit p E D):p.sz<=(E+2) ^ 4:=Pl.ex_sz E 4 p h.can h.ex h.can.lv_nonneg.2
theorem dm (h:Fit p E D):p.dm<=D:=Pl.nr_dm D p h.can h.nr
theorem mono (h:Fit p E D) (hE:E<=F) (hD:D<=G):Fit p F G:=⟨h.can,Pl.ex_mono hE p h.ex,Nat.lt_of_lt_of_le h.nr (Nat.pow_le_pow_right (by decide) hD)⟩
theorem exps (h:Fit p E D):∀ x ∈ p.terms Mo.one,x.2.le E:=Pl.terms_ex E p Mo.one h.can h.ex (by unfold Mo.le Mo.one; simp) (fun i h0 h4=>by unfold Mo.one Mo.get; split <;> (try split) <;> (try split) <;> rfl)
theorem nrm (h:Fit p E D):zg (p.terms Mo.one)=p.nr:=Pl.terms_nr p _ h.can
theorem kid {l:Int} {n:Bool} {d:List Nat} {cs:List Pl} (h:Fit (.mk l n d cs) E D) (hl:0 < l) {c:Pl} (hc:c ∈ cs):Fit c E D:=by
 obtain ⟨h1,h2,h3⟩:=h;obtain ⟨-,hk⟩:=Pl.can_kids h1 (by omega);rw [Pl.ex] at h2;rw [Pl.nr,if_neg (by omega)] at h3;have:=vb7 hc;exact ⟨(hk.mem c hc).2,vbf (h2.resolve_left (by omega)).2 c hc,by omega⟩
theorem len {l:Int} {n:Bool} {d:List Nat} {cs:List Pl} (h:Fit (.mk l n d cs) E D) (hl:0 < l):cs.length<=E+1:=by
 have h2:=h.ex;rw [Pl.ex] at h2;exact (h2.resolve_left (by omega)).1
theorem const {z:Int} (h:z.natAbs < B32 ^ D):Fit (Pl.const z) E D:=⟨waw z,by unfold Pl.const; rw [Pl.ex]; exact .inl (Int.le_refl _),by rw [Pl.const_nr]; exact h⟩
theorem zero:Fit Pl.zero E D:=⟨Pl.zero_can,by unfold Pl.zero; rw [Pl.ex]; exact .inl (Int.le_refl _),by unfold Pl.zero; rw [Pl.nr,if_pos (Int.le_refl _)]; exact Nat.pow_pos (by decide)⟩
theorem add (h:Fit p E D) (k:Fit q F G):Fit (p.add q) (max E F) (max D G+1):=by
 refine ⟨Pl.add_can p q,Pl.ofS_ex fun x hx=>?_,?_⟩
 · rcases List.mem_append.1 hx with hx | hx
   · exact (h.exps x hx).mono (by omega)
   · exact (k.exps x hx).mono (by omega)
 · have h1:=Pl.ofS_nr (p.terms Mo.one ++ q.terms Mo.one);rw [qaj,h.nrm,k.nrm] at h1;have h2:B32 ^ D<=B32 ^ max D G:=Nat.pow_le_pow_right (by decide) (by omega);have h3:B32 ^ G<=B32 ^ max D G:=Nat.pow_le_pow_right (by decide) (by omega);have h4:=h.nr;have h5:=k.nr;unfold Pl.add;rw [Nat.pow_succ];have h6:B32 ^ max D G * 2<=B32 ^ max D G * B32:=Nat.mul_le_mul_left _ (by decide);omega
theorem mul (h:Fit p E D) (k:Fit q F G):Fit (p.mul q) (E+F) (D+G):=by
 refine ⟨Pl.mul_can p q,Pl.ofS_ex fun x hx=>?_,?_⟩
 · obtain ⟨y,hy,z,hz,rfl⟩:=ja1 hx;exact Mo.mul_le (h.exps y hy) (k.exps z hz)
 · have h1:=Pl.ofS_nr (qam (p.terms Mo.one) (q.terms Mo.one));rw [vb5,h.nrm,k.nrm] at h1;unfold Pl.mul;rw [Nat.pow_add];refine Nat.lt_of_le_of_lt h1 (Nat.mul_lt_mul_of_lt_of_le h.nr (Nat.le_of_lt k.nr) (Nat.pow_pos (by decide)))
end Fit
end Go.Proofs.YtaedbimbbeploaaGreat

/- Polynomials in four variables, plain: how sums and products lie level by level. No program in sight. -/
namespace Go.Proofs.YtaedbimbbeploaaGreat
theorem Pl.mul_zero {p q:Pl} (hp:p.Can) (hq:q.Can) (h:∀ ρ,p.val ρ * q.val ρ=0):p=Pl.zero\/q=Pl.zero:=by
 obtain ⟨E,hE⟩:=Mo.le_sup (uj (p.terms Mo.one) ++ uj (q.terms Mo.one));have key:∀ r:Pl,r.Can->(∀ x ∈ uj (r.terms Mo.one),x.2.le E)->r ≠ Pl.zero->∀ B,zg (uj (r.terms Mo.one))+1<=B->r.val (kro (E+1) B) ≠ 0:=by
  intro r hr hle hne B hB h0;rw [<- Pl.terms_sval,<- xar _ (kaf r.terms_one_nonneg),kbc] at h0;refine qbo (waa _) (fun x hx=>(gaa hx).1) E hle B hB (fun e=>hne ?_) (by exact_mod_cast h0);rw [<- Pl.nf_of_can hr];unfold Pl.nf Pl.ofS;rw [e]
  rfl
 by_cases h1:p=Pl.zero
 · exact .inl h1
 by_cases h2:q=Pl.zero
 · exact .inr h2
 exfalso
 have h3:=h (kro (E+1) (zg (uj (p.terms Mo.one))+zg (uj (q.terms Mo.one))+1));rcases Rat.mul_eq_zero.1 h3 with h4 | h4
 · exact key p hp (fun x hx=>hE x (List.mem_append_left _ hx)) h1 _ (by omega) h4
 · exact key q hq (fun x hx=>hE x (List.mem_append_right _ hx)) h2 _ (by omega) h4
theorem Pl.mul_eq_zero {p q:Pl} (hp:p.Can) (hq:q.Can) (h:p.mul q=Pl.zero):p=Pl.zero\/q=Pl.zero:=
 Pl.mul_zero hp hq fun ρ=>by rw [<- Pl.mul_val,h,Pl.zero_val]
theorem Pl.ofS_lv {l:Sp} {n:Nat} (hn4:n<=4) (hnn:∀ x ∈ l,x.2.nonneg) (h:∀ x ∈ l,∀ i:Nat,n < i->i<=4->x.2.get i=0):(Pl.ofS l).lv<=n:=by
 have hz:∀ i:Nat,0 < i->i<=4->Mo.one.get i=0:=fun i h1 h2=>by
  rcases (show i=1\/i=2\/i=3\/i=4 by omega) with rfl | rfl | rfl | rfl <;> rfl
 have ha:uay n Mo.one (uj l):=fun x hx i h1 h2=>by
  obtain ⟨-,y,hy,e⟩:=gaa hx;rw [<- e,h y hy i h1 h2,hz i (by omega) h2]
 have hnn':∀ x ∈ uj l,x.2.nonneg:=fun x hx=>(gaa hx).1
 obtain ⟨h1,h2⟩:=gbo n hn4 (uj l) Mo.one (waa l) hnn' ha (fun i hi hin=>hz i hi (by omega));have h3:=ua2 n hn4 (uj l) Mo.one (waa l) hnn' ha (fun i hi hin=>hz i hi (by omega));have h4:bld n (uj l)=Pl.ofS l:=Pl.can_eq h1 (Pl.ofS_can l) fun k=>by
  rw [h3,Pl.ofS_coef,uak]
 rw [<- h4];exact h2
theorem Pl.exp_above {p:Pl} (hp:p.Can) {n:Nat} (h:p.lv<=n):∀ x ∈ p.terms Mo.one,∀ i:Nat,n < i->i<=4->x.2.get i=0:=fun x hx i h1 h2=>by
 rw [Pl.terms_above p Mo.one n hp h x hx i h1 h2];rcases (show i=1\/i=2\/i=3\/i=4 by omega) with rfl | rfl | rfl | rfl <;> rfl
theorem Mo.get_mul (m n:Mo) (i:Int):(m.mul n).get i=m.get i+n.get i:=by
 unfold Mo.mul Mo.get
 split <;> (try split) <;> (try split) <;> rfl
theorem Pl.mul_lv {p q:Pl} (hp:p.Can) (hq:q.Can) {n:Int} (h1:p.lv<=n) (h2:q.lv<=n) (hn:n<=4):(p.mul q).lv<=n:=by
 have h0:=hp.lv_nonneg.1;obtain ⟨k,rfl⟩:∃ k:Nat,n=k:=⟨n.toNat,by omega⟩;refine Pl.ofS_lv (by omega) (yaz p.terms_one_nonneg q.terms_one_nonneg) fun x hx i hi hi4=>?_
 obtain ⟨y,hy,z,hz,rfl⟩:=ja1 hx;rw [Mo.get_mul,Pl.exp_above hp h1 y hy i hi hi4,Pl.exp_above hq h2 z hz i hi hi4]
 rfl
theorem Pl.mul_comm (p q:Pl):p.mul q=q.mul p:=Pl.val_uniq (Pl.mul_can _ _) (Pl.mul_can _ _) fun ρ=>by rw [Pl.mul_val,Pl.mul_val]; grind
theorem Pl.mul_zero_l (p:Pl):Pl.zero.mul p=Pl.zero:=Pl.zero_of_val (Pl.mul_can _ _) fun ρ=>by rw [Pl.mul_val,Pl.zero_val]; grind
theorem Pl.mul_zero_r (p:Pl):p.mul Pl.zero=Pl.zero:=by rw [Pl.mul_comm,Pl.mul_zero_l]
theorem Pl.const_mul (a b:Int):(Pl.const a).mul (Pl.const b)=Pl.const (a * b):=Pl.val_uniq (Pl.mul_can _ _) (waw _) fun ρ=>by
 rw [Pl.mul_val,Pl.const_val,Pl.const_val,Pl.const_val]; push_cast; rfl
theorem wax {p:Pl} (h:p.Can) (hl:p.lv=0):p=Pl.const p.z:=by
 obtain ⟨l,n,d,cs⟩:=p
 change l=0 at hl
 subst hl;unfold Pl.Can at h;rcases h with ⟨-,rfl,hd,hn⟩ | h
 · show _=Pl.const (sgn n (val d));unfold Pl.const;rw [zn,<- hd]
   congr 1
   cases n
   · simp [sgn]
   · have h1:d ≠ []:=fun e=>by have:=hn e; cases this
     have h2:val d ≠ 0:=fun e=>h1 (by rw [hd,e,jm])
     simp only [sgn];simp;omega
 · omega
theorem qby (ρ:Int->Rat) (l:Int) (f:Pl->Pl) (r:Rat) (cs:List Pl) (h:∀ c ∈ cs,(f c).val ρ=c.val ρ * r):uo ρ l (cs.map f)=uo ρ l cs * r:=by
 induction cs with
 | nil=>simp [uo]
 | cons x cs ih =>
   simp only [List.map_cons,uo];rw [h x (by simp),ih fun c hc=>h c (by simp [hc])]
   grind
theorem Pl.mk_val (ρ:Int->Rat) {l:Int} (n:Bool) (d:List Nat) (cs:List Pl) (h0:0 < l) (h4:l<=4):(Pl.mk l n d cs).val ρ=uo ρ l cs:=by
 rw [Pl.val,if_neg (by omega),if_neg (by omega)]
theorem zco {l:Int} {cs:List Pl} (h0:0 < l) (h4:l<=4) (h2:2<=cs.length) (hk:ku l cs) (hz:cs.getLast? ≠ some Pl.zero):(Pl.mk l false [] cs).Can:=by
 unfold Pl.Can;exact .inr ⟨by omega,h4,rfl,rfl,h2,hk,hz⟩
theorem Pl.mul_up {l:Int} {n:Bool} {d:List Nat} {cs:List Pl} {q:Pl} (hp:(Pl.mk l n d cs).Can) (hq:q.Can) (hl:q.lv < l) (hz:q ≠ Pl.zero):(Pl.mk l n d cs).mul q=.mk l false [] (cs.map fun c=>c.mul q):=by
 have hl0:0 < l:=by have:=hq.lv_nonneg.1; omega
 obtain ⟨rfl,rfl,h2,hk,hlast⟩:=hp.kids hl0;have hl4:l<=4:=hp.lv_nonneg.2;refine Pl.val_uniq (Pl.mul_can _ _) (zco hl0 hl4 (by rw [List.length_map]; exact h2) (xa2 fun c hc=>?_) ?_) fun ρ=>?_
 · obtain ⟨c',hc',rfl⟩:=List.mem_map.1 hc;have h3:=hk.mem c' hc';have:=Pl.mul_lv (n:=l - 1) h3.2 hq (by omega) (by omega) (by omega);exact ⟨by omega,Pl.mul_can _ _⟩
 · rw [List.getLast?_map];intro e;obtain ⟨c,hc,he⟩:=Option.map_eq_some_iff.1 e;rcases Pl.mul_eq_zero (hk.mem c (List.mem_of_getLast? hc)).2 hq he with h | h
   · rw [h] at hc; exact hlast hc
   · exact hz h
 · rw [Pl.mul_val,Pl.mk_val ρ _ _ _ hl0 hl4,Pl.mk_val ρ _ _ _ hl0 hl4,qby ρ l _ (q.val ρ) cs fun c _=>Pl.mul_val ρ c q]
theorem Pl.mul_up_ {p q:Pl} (hp:p.Can) (hq:q.Can) (hl:q.lv < p.lv) (hz:q ≠ Pl.zero):p.mul q=.mk p.lv false [] (p.cs.map fun c=>c.mul q):=by
 obtain ⟨l,n,d,cs⟩:=p;exact Pl.mul_up hp hq hl hz
end Go.Proofs.YtaedbimbbeploaaGreat
