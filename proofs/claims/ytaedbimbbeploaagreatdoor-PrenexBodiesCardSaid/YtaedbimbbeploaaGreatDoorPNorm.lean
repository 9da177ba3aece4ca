/- The canonical form of a sum of terms, and of a recursive polynomial, plain, with its size. -/
import Derived.Test.YtaedbimbbeploaaGreatDoorMb6
set_option linter.unusedSimpArgs false
set_option linter.unusedVariables false

namespace Go.Proofs.YtaedbimbbeploaaGreatDoor
def zaj (c : Int) (m : Mo) : Sp -> Sp
 | []=>if c=0 then [] else [(c,m)]
 | (d,n) :: r=>if n.lt m then (if c=0 then (d,n) :: r else (c,m) :: (d,n) :: r) else if m=n then (if c+d=0 then r else (c+d,n) :: r) else (d,n) :: zaj c m r
theorem zb7 (c:Int) (m:Mo) (l:Sp) (k:Mo):qc (zaj c m l) k=(if m=k then c else 0)+qc l k:=by
 induction l with
 | nil =>
   unfold zaj
   by_cases h:c=0
   · rw [if_pos h,h]; simp [qc]
   · rw [if_neg h]; simp [qc]
 | cons x r ih =>
   obtain ⟨d,n⟩:=x;unfold zaj
   by_cases h1:n.lt m
   · rw [if_pos h1]
     by_cases h:c=0
     · rw [if_pos h,h]; simp
     · rw [if_neg h]; simp [qc]
   · rw [if_neg h1]
     by_cases h2:m=n
     · rw [if_pos h2]; subst h2
       by_cases h:c+d=0
       · rw [if_pos h]; simp only [qc]; split <;> omega
       · rw [if_neg h]; simp only [qc]; split <;> omega
     · rw [if_neg h2]; simp only [qc,ih]; omega
theorem wa6 {c:Int} {m:Mo} {l:Sp} {x:Int × Mo} (h:x ∈ zaj c m l):x.2=m\/∃ y ∈ l,y.2=x.2:=by
 induction l with
 | nil =>
   unfold zaj at h
   split at h
   · cases h
   · left; rw [List.mem_singleton.1 h]
 | cons y r ih =>
   obtain ⟨d,n⟩:=y;unfold zaj at h
   split at h
   · split at h
     · exact .inr ⟨x,h,rfl⟩
     · rcases List.mem_cons.1 h with rfl | h
       · exact .inl rfl
       · exact .inr ⟨x,h,rfl⟩
   · split at h
     · split at h
       · exact .inr ⟨x,List.mem_cons_of_mem _ h,rfl⟩
       · rcases List.mem_cons.1 h with rfl | h
         · exact .inr ⟨_,List.mem_cons_self,rfl⟩
         · exact .inr ⟨x,List.mem_cons_of_mem _ h,rfl⟩
     · rcases List.mem_cons.1 h with rfl | h
       · exact .inr ⟨_,List.mem_cons_self,rfl⟩
       · rcases ih h with h | ⟨y,hy,e⟩
         · exact .inl h
         · exact .inr ⟨y,List.mem_cons_of_mem _ hy,e⟩
theorem gce (c:Int) (m:Mo) (l:Sp) (h:kaa l):kaa (zaj c m l):=by
 induction l with
 | nil =>
   unfold zaj
   split
   · exact trivial
   · rename_i hc; exact ⟨hc,fun _ hx=>(by cases hx),trivial⟩
 | cons x r ih =>
   obtain ⟨d,n⟩:=x;obtain ⟨h1,h2,h3⟩:=h;unfold zaj
   split
   · rename_i hlt
     split
     · exact ⟨h1,h2,h3⟩
     · rename_i hc;refine ⟨hc,fun y hy=>?_,h1,h2,h3⟩;rcases List.mem_cons.1 hy with rfl | hy
       · exact hlt
       · exact Mo.lt_trans (h2 y hy) hlt
   · rename_i hlt
     split
     · rename_i he
       split
       · exact h3
       · rename_i hc; exact ⟨hc,h2,h3⟩
     · rename_i hne;refine ⟨h1,fun y hy=>?_,ih h3⟩;rcases wa6 hy with e | ⟨z,hz,e⟩
       · rw [e];rcases Mo.tri m n with h | h | h
         · exact h
         · exact absurd h hne
         · exact absurd h hlt
       · rw [<- e]; exact h2 z hz
def jc : Sp -> Sp
 | []=>[]
 | (c,m) :: r=>if m.nonneg then zaj c m (jc r) else jc r
theorem ww (l:Sp):kaa (jc l):=by
 induction l with
 | nil=>exact trivial
 | cons x r ih =>
   obtain ⟨c,m⟩:=x;unfold jc
   split
   · exact gce _ _ _ ih
   · exact ih
theorem uam (l:Sp) (k:Mo):qc (jc l) k=if k.nonneg then qc l k else 0:=by
 induction l with
 | nil=>simp [jc,qc]
 | cons x r ih =>
   obtain ⟨c,m⟩:=x;unfold jc
   by_cases hm:m.nonneg
   · rw [if_pos hm,zb7,ih]
     by_cases hk:k.nonneg
     · rw [if_pos hk,if_pos hk]; simp only [qc]
     · rw [if_neg hk,if_neg hk,if_neg (fun (e:m=k)=>hk (e ▸ hm))]; rfl
   · rw [if_neg hm,ih]
     by_cases hk:k.nonneg
     · rw [if_pos hk,if_pos hk]; simp only [qc]; rw [if_neg (fun (e:m=k)=>hm (e ▸ hk))]; omega
     · rw [if_neg hk,if_neg hk]
theorem jr {l:Sp} {x:Int × Mo} (h:x ∈ jc l):x.2.nonneg/\∃ y ∈ l,y.2=x.2:=by
 induction l with
 | nil=>cases h
 | cons y r ih =>
   obtain ⟨c,m⟩:=y;unfold jc at h
   split at h
   · rename_i hm;rcases wa6 h with e | ⟨z,hz,e⟩
     · exact ⟨by rw [e]; exact hm,_,List.mem_cons_self,e.symm⟩
     · suffices z.2.nonneg/\∃ y ∈ r,y.2=z.2 by
        obtain ⟨a,y,hy,e'⟩:=this;exact ⟨by rw [<- e]; exact a,y,List.mem_cons_of_mem _ hy,e'.trans e⟩
       clear ih h
       induction r generalizing z with
       | nil=>cases hz
       | cons y r ih =>
         obtain ⟨c',m'⟩:=y;unfold jc at hz
         split at hz
         · rename_i hm';rcases wa6 hz with e1 | ⟨z',hz',e1⟩
           · exact ⟨by rw [e1]; exact hm',_,List.mem_cons_self,e1.symm⟩
           · obtain ⟨a,y,hy,e'⟩:=ih z' hz' (e1.trans e);exact ⟨by rw [<- e1]; exact a,y,List.mem_cons_of_mem _ hy,e'.trans e1⟩
         · obtain ⟨a,y,hy,e'⟩:=ih z hz e;exact ⟨a,y,List.mem_cons_of_mem _ hy,e'⟩
   · obtain ⟨a,y,hy,e⟩:=ih h;exact ⟨a,y,List.mem_cons_of_mem _ hy,e⟩
theorem vad {l:Sp} (h:∀ x ∈ l,x.2.nonneg) (k:Mo):qc (jc l) k=qc l k:=by
 rw [uam]
 by_cases hk:k.nonneg
 · rw [if_pos hk]
 · rw [if_neg hk,xad fun x hx (e:x.2=k)=>hk (e ▸ h x hx)]
theorem vas {l:Sp} (h:kaa l) (hn:∀ x ∈ l,x.2.nonneg):jc l=l:=kaa.uniq _ _ (ww l) h (vad hn)
theorem qav {l l':Sp} (h:∀ k,k.nonneg->qc l k=qc l' k):jc l=jc l':=kaa.uniq _ _ (ww l) (ww l') fun k=>by
 rw [uam,uam]
 by_cases hk:k.nonneg
 · rw [if_pos hk,if_pos hk,h k hk]
 · rw [if_neg hk,if_neg hk]
theorem gbl {l l':Sp} (hc:kaa l') (hn:∀ x ∈ l',x.2.nonneg) (h:∀ k,k.nonneg->qc l' k=qc l k):l'=jc l:=by
 rw [<- vas hc hn]; exact qav h
def qf : Sp -> Nat
 | []=>0
 | (c,_) :: r=>c.natAbs+qf r
theorem wah (l r:Sp):qf (l ++ r)=qf l+qf r:=by
 induction l with
 | nil=>simp [qf]
 | cons x l ih=>obtain ⟨c,m⟩:=x; simp only [List.cons_append,qf,ih]; omega
theorem vce (c:Int) (m:Mo) (l:Sp):qf (zaj c m l)<=c.natAbs+qf l:=by
 induction l with
 | nil=>unfold zaj; split <;> simp [qf]
 | cons x r ih =>
   obtain ⟨d,n⟩:=x;unfold zaj
   split
   · split <;> simp only [qf] <;> omega
   · split
     · split <;> simp only [qf] <;> omega
     · simp only [qf]; omega
theorem wai (l:Sp):qf (jc l)<=qf l:=by
 induction l with
 | nil=>exact Nat.le_refl _
 | cons x r ih =>
   obtain ⟨c,m⟩:=x;unfold jc;have:=vce c m (jc r)
   split <;> simp only [qf] <;> omega
theorem uce (c:Int) (m:Mo) (l:Sp):(zaj c m l).length<=l.length+1:=by
 induction l with
 | nil=>unfold zaj; split <;> simp
 | cons x r ih =>
   obtain ⟨d,n⟩:=x;unfold zaj
   split
   · split <;> simp
   · split
     · split <;> simp <;> omega
     · simp; omega
theorem xaq (l:Sp):(jc l).length<=l.length:=by
 induction l with
 | nil=>exact Nat.le_refl _
 | cons x r ih =>
   obtain ⟨c,m⟩:=x;unfold jc;have:=uce c m (jc r)
   split <;> simp only [List.length_cons] <;> omega
theorem kas {l:Sp} {x:Int × Mo} (h:x ∈ l):x.1.natAbs<=qf l:=by
 induction l with
 | nil=>cases h
 | cons y r ih =>
   obtain ⟨c,m⟩:=y;rcases List.mem_cons.1 h with rfl | h
   · simp only [qf]; omega
   · have:=ih h; simp only [qf]; omega
theorem zbt (f:Int × Mo->Bool) (l:Sp):qf (l.filter f)<=qf l:=by
 induction l with
 | nil=>exact Nat.le_refl _
 | cons x r ih =>
   obtain ⟨c,m⟩:=x;rw [List.filter_cons]
   split <;> simp only [qf] <;> omega
def Pl.ofS (l:Sp):Pl:=bld 4 (jc l)
def Pl.nf (p:Pl):Pl:=Pl.ofS (p.terms Mo.one)
theorem Pl.ofS_can (l:Sp):(Pl.ofS l).Can:=(vbd (ww l) (fun _ hx=>(jr hx).1)).1
theorem Pl.ofS_coef (l:Sp) (k:Mo):qc ((Pl.ofS l).terms Mo.one) k=if k.nonneg then qc l k else 0:=
 ((vbd (ww l) (fun _ hx=>(jr hx).1)).2 k).trans (uam l k)
theorem Mo.put_nonneg {m:Mo} {i e:Int} (h:m.nonneg) (he:0<=e):(m.put i e).nonneg:=by
 unfold Mo.nonneg at *; unfold Mo.put; split <;> (try split) <;> (try split) <;> simp_all
theorem Mo.one_nonneg:Mo.one.nonneg:=by unfold Mo.nonneg Mo.one; simp
theorem Mo.get_nonneg {m:Mo} (h:m.nonneg) (i:Int):0<=m.get i:=by
 unfold Mo.nonneg at h; unfold Mo.get; split <;> (try split) <;> (try split) <;> omega
mutual
theorem Pl.terms_nonneg : ∀ (p : Pl) (m : Mo), m.nonneg -> ∀ x ∈ p.terms m, x.2.nonneg
 | .mk l n d cs,m,hm,x,hx=>by
   rw [Pl.terms] at hx
   split at hx
   · rw [List.mem_singleton.1 hx]; exact hm
   · split at hx
     · cases hx
     · exact jaw cs m l (m.get l) hm (Mo.get_nonneg hm l) x hx
theorem jaw : ∀ (cs : List Pl) (m : Mo) (l e : Int), m.nonneg -> 0 <= e -> ∀ x ∈ yc m l e cs, x.2.nonneg
 | [],m,l,e,hm,he,x,hx=>by rw [yc] at hx; cases hx
 | c :: r,m,l,e,hm,he,x,hx=>by
   rw [yc] at hx;rcases List.mem_append.1 hx with hx | hx
   · exact Pl.terms_nonneg c _ (Mo.put_nonneg hm he) x hx
   · exact jaw r m l (e+1) hm (by omega) x hx
end
theorem Pl.terms_one_nonneg (p:Pl):∀ x ∈ p.terms Mo.one,x.2.nonneg:=Pl.terms_nonneg p _ Mo.one_nonneg
theorem Pl.nf_can (p:Pl):p.nf.Can:=Pl.ofS_can _
theorem Pl.nf_coef (p:Pl) (k:Mo):qc (p.nf.terms Mo.one) k=qc (p.terms Mo.one) k:=
 ((vbd (ww _) (fun _ hx=>(jr hx).1)).2 k).trans (vad p.terms_one_nonneg k)
theorem Pl.nf_of_can {p:Pl} (h:p.Can):p.nf=p:=Pl.can_eq p.nf_can h p.nf_coef
theorem Pl.nf_val (ρ:Int->Rat) (p:Pl):p.nf.val ρ=p.val ρ:=Pl.val_coef ρ p.nf_coef
mutual
def Pl.sz : Pl -> Nat
 | .mk _ _ _ cs=>qi cs+1
def qi : List Pl -> Nat
 | []=>0
 | c :: r=>c.sz+qi r
end
mutual
def Pl.dm : Pl -> Nat
 | .mk _ _ d cs=>max d.length (jad cs)
def jad : List Pl -> Nat
 | []=>0
 | c :: r=>max c.dm (jad r)
end
theorem gal {cs:List Pl} {c:Pl} (h:c ∈ cs):c.sz<=qi cs:=by
 induction cs with
 | nil=>cases h
 | cons x r ih =>
   rcases List.mem_cons.1 h with rfl | h
   · unfold qi; omega
   · have:=ih h; unfold qi; omega
theorem Pl.sz_kid {p c:Pl} (h:c ∈ p.cs):c.sz < p.sz:=by
 cases p with
 | mk l n d cs =>
   have h1:c.sz<=qi cs:=gal (cs:=cs) h;have h2:(Pl.mk l n d cs).sz=qi cs+1:=by rw [Pl.sz]
   omega
theorem waf (cs:List Pl):cs.length<=qi cs:=by
 induction cs with
 | nil=>exact Nat.le_refl _
 | cons x r ih=>cases x; unfold qi Pl.sz; simp only [List.length_cons]; omega
theorem Pl.sz_len (p:Pl):p.cs.length < p.sz:=by
 cases p with
 | mk l n d cs =>
   have h1:=waf cs;have h2:(Pl.mk l n d cs).sz=qi cs+1:=by rw [Pl.sz]
   have h3:(Pl.mk l n d cs).cs=cs:=rfl;rw [h3]; omega
theorem ua4 (a b:List Pl):qi (a ++ b)=qi a+qi b:=by
 induction a with
 | nil=>simp [qi]
 | cons x r ih=>simp only [List.cons_append,qi,ih]; omega
theorem zb9 (l:List Pl) (k:Nat) (h:k < l.length):qi (l.drop k)=l[k].sz+qi (l.drop (k+1)):=by
 rw [List.drop_eq_getElem_cons h]; simp only [qi]
theorem xat {cs:List Pl} {c:Pl} (h:c ∈ cs):c.dm<=jad cs:=by
 induction cs with
 | nil=>cases h
 | cons x r ih =>
   rcases List.mem_cons.1 h with rfl | h
   · unfold jad; omega
   · have:=ih h; unfold jad; omega
theorem Pl.dm_ds (p:Pl):p.ds.length<=p.dm:=by
 cases p with
 | mk l n d cs =>
   have h2:(Pl.mk l n d cs).dm=max d.length (jad cs):=by rw [Pl.dm]
   have h3:(Pl.mk l n d cs).ds=d:=rfl;rw [h3]; omega
mutual
theorem Pl.terms_len : ∀ (p : Pl) (m : Mo), (p.terms m).length <= p.sz
 | .mk l n d cs,m=>by
   rw [Pl.terms,Pl.sz]
   split
   · simp
   · split
     · simp
     · have:=yai cs m l (m.get l); omega
theorem yai : ∀ (cs : List Pl) (m : Mo) (l e : Int), (yc m l e cs).length <= qi cs
 | [],m,l,e=>by rw [yc]; simp
 | c :: r,m,l,e=>by
   rw [yc,List.length_append,qi];have:=Pl.terms_len c (m.put l e);have:=yai r m l (e+1);omega
end
theorem Mo.put_le {m:Mo} {l e E:Int} (h:m.a<=E/\m.b<=E/\m.c<=E/\m.d<=E) (he:e<=E):(m.put l e).a<=E/\(m.put l e).b<=E/\(m.put l e).c<=E/\(m.put l e).d<=E:=by
 unfold Mo.put; split <;> (try split) <;> (try split) <;> simp_all
def Mo.le (m:Mo) (E:Int):Prop:=m.a<=E/\m.b<=E/\m.c<=E/\m.d<=E
theorem Mo.le.get {m:Mo} {E:Int} (h:m.le E) (i:Int):m.get i<=E:=by
 unfold Mo.le at h; unfold Mo.get; split <;> (try split) <;> (try split) <;> omega
theorem Mo.le.put {m:Mo} {E:Int} (h:m.le E) (l e:Int) (he:e<=E):(m.put l e).le E:=Mo.put_le h he
theorem Mo.le.mono {m:Mo} {E E':Int} (h:m.le E) (he:E<=E'):m.le E':=by unfold Mo.le at *; omega
theorem Mo.one_le:Mo.one.le 0:=by unfold Mo.le Mo.one; simp
mutual
theorem Pl.terms_le : ∀ (p : Pl) (m : Mo) (E : Int), m.le E -> ∀ x ∈ p.terms m, x.2.le (E + p.sz)
 | .mk l n d cs,m,E,hm,x,hx=>by
   rw [Pl.terms] at hx
   split at hx
   · rw [List.mem_singleton.1 hx]; exact hm.mono (by omega)
   · split at hx
     · cases hx
     · have:=xa9 cs m l (m.get l) E hm (hm.get l) x hx;refine this.mono ?_;rw [Pl.sz]; omega
theorem xa9 : ∀ (cs : List Pl) (m : Mo) (l e E : Int), m.le E -> e <= E -> ∀ x ∈ yc m l e cs, x.2.le (E + qi cs)
 | [],m,l,e,E,hm,he,x,hx=>by rw [yc] at hx; cases hx
 | c :: r,m,l,e,E,hm,he,x,hx=>by
   rw [yc] at hx;rcases List.mem_append.1 hx with hx | hx
   · refine (Pl.terms_le c _ E (hm.put l e he) x hx).mono ?_;rw [qi]; omega
   · refine (xa9 r m l (e+1) (E+1) (hm.mono (by omega)) (by omega) x hx).mono ?_;have:1<=c.sz:=by cases c; rw [Pl.sz]; omega
     rw [qi]; omega
end
mutual
theorem Pl.terms_nrm : ∀ (p : Pl) (m : Mo) (L : Nat), p.dm <= L -> p.dig -> qf (p.terms m) <= p.sz * B32 ^ L
 | .mk l n d cs,m,L,hL,hd=>by
   rw [Pl.dm] at hL;rw [Pl.dig] at hd;rw [Pl.terms,Pl.sz,Nat.add_mul,Nat.one_mul]
   split
   · simp only [qf,qp];have h1:=vak hd.1;have h2:B32 ^ d.length<=B32 ^ L:=Nat.pow_le_pow_right uaf (by omega);omega
   · split
     · simp [qf]
     · have:=va4 cs m l (m.get l) L (by omega) hd.2; omega
theorem va4 : ∀ (cs : List Pl) (m : Mo) (l e : Int) (L : Nat), jad cs <= L -> jar cs -> qf (yc m l e cs) <= qi cs * B32 ^ L
 | [],m,l,e,L,hL,hd=>by rw [yc]; simp [qf]
 | c :: r,m,l,e,L,hL,hd=>by
   rw [jad] at hL;rw [jar] at hd;rw [yc,wah,qi,Nat.add_mul];have:=Pl.terms_nrm c (m.put l e) L (by omega) hd.1;have:=va4 r m l (e+1) L (by omega) hd.2;omega
end
theorem xcy (E:Nat) (n:Nat):∀ l:Sp,(∀ x ∈ l,x.2.le E)->(bld n l).sz<=(E+2) ^ n:=by
 induction n with
 | zero =>
   intro l _;cases l with
   | nil=>simp [bld,Pl.zero,Pl.sz,qi]
   | cons x r=>obtain ⟨c,m⟩:=x; simp [bld,Pl.const,Pl.sz,qi]
 | succ n ih =>
   intro l hl;have hpos:1<=(E+2) ^ n:=Nat.pow_pos (by omega);cases l with
   | nil=>simp only [bld,Pl.zero,Pl.sz,qi]; exact Nat.pow_pos (by omega)
   | cons x r =>
     obtain ⟨c,m⟩:=x;rw [bld]
     split
     · have:=ih _ hl;rw [Nat.pow_succ];exact Nat.le_trans this (Nat.le_mul_of_pos_right _ (by omega))
     · have hg:m.get ((n+1:Nat):Int)<=E:=(hl (c,m) (by simp)).get ((n+1:Nat):Int);have key:∀ k,qi ((List.range k).map fun (i:Nat)=>bld n (((c,m) :: r).filter fun x=>decide (x.2.get (n+1:Nat)=Int.ofNat i)))<=k * (E+2) ^ n:=by
        intro k
        induction k with
        | zero=>simp [qi]
        | succ k ihk =>
          rw [List.range_succ,List.map_append,ua4,Nat.add_mul,Nat.one_mul];have:=ih (((c,m) :: r).filter fun x=>decide (x.2.get (n+1:Nat)=Int.ofNat k)) (fun x hx=>hl x (List.mem_filter.1 hx).1);simp only [List.map_cons,List.map_nil,qi];omega
       rw [Pl.sz,Nat.pow_succ];have h1:=key ((m.get (n+1:Nat)).toNat+1);have h2:((m.get (n+1:Nat)).toNat+1) * (E+2) ^ n<=(E+1) * (E+2) ^ n:=Nat.mul_le_mul_right _ (by omega);have h3:(E+2) ^ n * (E+2)=(E+1) * (E+2) ^ n+(E+2) ^ n:=by rw [Nat.mul_comm,<- Nat.succ_mul]
       omega
theorem kcy (L:Nat) (n:Nat):∀ l:Sp,(∀ x ∈ l,(dg x.1.natAbs).length<=L)->(bld n l).dm<=L:=by
 induction n with
 | zero =>
   intro l hl;cases l with
   | nil=>simp [bld,Pl.zero,Pl.dm,jad]
   | cons x r=>obtain ⟨c,m⟩:=x; have:=hl (c,m) (by simp); simpa [bld,Pl.const,Pl.dm,jad] using this
 | succ n ih =>
   intro l hl;cases l with
   | nil=>simp [bld,Pl.zero,Pl.dm,jad]
   | cons x r =>
     obtain ⟨c,m⟩:=x;rw [bld]
     split
     · exact ih _ hl
     · rw [Pl.dm];have key:∀ cs:List Pl,(∀ c ∈ cs,c.dm<=L)->jad cs<=L:=by
        intro cs
        induction cs with
        | nil=>intro _; simp [jad]
        | cons y r ihr=>intro h; rw [jad]; have:=h y (by simp); have:=ihr (fun z hz=>h z (by simp [hz])); omega
       have:=key _ (fun (p:Pl) (hp:p ∈ (List.range ((m.get (n+1:Nat)).toNat+1)).map fun (i:Nat)=>bld n (((c,m) :: r).filter fun x=>decide (x.2.get (n+1:Nat)=Int.ofNat i)))=>by
        obtain ⟨i,-,rfl⟩:=List.mem_map.1 hp
        exact ih _ (fun x hx=>hl x (List.mem_filter.1 hx).1))
       simp only [List.length_nil];omega
end Go.Proofs.YtaedbimbbeploaaGreatDoor
