/- The recursive form of a canonical sum is canonical. -/
import Derived.Test.YtheefiaoimbeiaaGreatDoorMt4
import Derived.Test.YtheefiaoimbeiaaGreatDoorMt2
set_option linter.unusedSimpArgs false
set_option linter.unusedVariables false

namespace Go.Proofs.YtheefiaoimbeiaaGreatDoor
theorem xae (z:Int):(Pl.const z).Can:=by
 unfold Pl.const Pl.Can
 left
 refine ⟨rfl,rfl,by rw [je],fun h=>?_⟩;have:z.natAbs=0:=by
  have h1:(dg z.natAbs).length=0:=by rw [h]; rfl
  exact yaw h1
 have hz:z=0:=by omega
 rw [hz]; rfl
theorem jah {l : Int} : ∀ {cs : List Pl}, (∀ c ∈ cs, c.lv < l /\ c.Can) -> ku l cs
 | [],_=>by unfold ku; trivial
 | c :: r,h=>by
   unfold ku;exact ⟨(h c (by simp)).1,(h c (by simp)).2,jah (fun x hx=>h x (by simp [hx]))⟩
theorem ybt (n:Nat) (hn:n<=4):∀ (l:Sp) (m:Mo),zao l->(∀ x ∈ l,x.2.nonneg)->wa9 n m l->(∀ i:Nat,0 < i->i<=n->m.get i=0)->(bld n l).Can/\(bld n l).lv<=n:=by
 induction n with
 | zero =>
   intro l m hl hnn ha hz;cases l with
   | nil=>rw [bld]; exact ⟨Pl.zero_can,by show (0:Int)<=_; omega⟩
   | cons x r=>obtain ⟨c,m'⟩:=x; rw [bld]; exact ⟨xae c,by show (0:Int)<=_; omega⟩
 | succ n ih =>
   intro l m hl hnn ha hz;cases l with
   | nil=>rw [bld]; exact ⟨Pl.zero_can,by show (0:Int)<=_; omega⟩
   | cons x r =>
     obtain ⟨c,m'⟩:=x;have htop:∀ y ∈ ((c,m') :: r:Sp),y.2.get (n+1:Nat)<=m'.get (n+1:Nat):=by
      intro y hy;rcases List.mem_cons.1 hy with rfl | hy'
      · exact Int.le_refl _
      · exact Mo.lt_get (by omega) (by omega) (hl.2.1 y hy') (fun i h1 h2=>(ha y hy i (by omega) h2).trans (ha (c,m') (by simp) i (by omega) h2).symm)
     have hlow:∀ y ∈ ((c,m') :: r:Sp),0<=y.2.get (n+1:Nat):=by
      intro y hy;have:=hnn y hy;unfold Mo.nonneg at this;unfold Mo.get
      split <;> (try split) <;> (try split) <;> omega
     rw [bld]
     by_cases h0:m'.get (n+1:Nat)=0
     · rw [if_pos h0];obtain ⟨h1,h2⟩:=ih (by omega) _ m hl hnn (fun y hy i h1 h2=>by
        by_cases hi:i=n+1
        · subst hi;rw [hz (n+1) (by omega) (by omega)];have h1:=htop y hy;have h2:=hlow y hy;omega
        · exact ha y hy i (by omega) h2) (fun i h1 h2=>hz i h1 (by omega))
       exact ⟨h1,by omega⟩
     · rw [if_neg h0];have hpos:0 < m'.get (n+1:Nat):=by have:=hlow (c,m') (by simp); simp only at this; omega
       have hpart:∀ i:Nat,zao (((c,m') :: r).filter fun x=>decide (x.2.get (n+1:Nat)=Int.ofNat i))/\(∀ x ∈ (((c,m') :: r).filter fun x=>decide (x.2.get (n+1:Nat)=Int.ofNat i)),x.2.nonneg)/\wa9 n (m.put (n+1:Nat) (i:Int)) (((c,m') :: r).filter fun x=>decide (x.2.get (n+1:Nat)=Int.ofNat i))/\(∀ j:Nat,0 < j->j<=n->(m.put (n+1:Nat) (i:Int)).get j=0):=by
        intro i;refine ⟨hl.filter _,fun x hx=>hnn x (List.mem_filter.1 hx).1,fun x hx j h1 h2=>?_,fun j h1 h2=>?_⟩
        · obtain ⟨hx1,hx2⟩:=List.mem_filter.1 hx;rw [Mo.get_put m (n+1) _ (by omega) (by omega) j (by omega) h2]
          by_cases hj:j=n+1
          · rw [if_pos hj,hj]; simpa using hx2
          · rw [if_neg hj]; exact ha x hx1 j (by omega) h2
        · rw [Mo.get_put m (n+1) _ (by omega) (by omega) j h1 (by omega),if_neg (by omega)];exact hz j h1 (by omega)
       refine ⟨?_,by show ((n+1:Nat):Int)<=_; omega⟩;unfold Pl.Can
       right
       refine ⟨by omega,by omega,rfl,rfl,by rw [List.length_map,List.length_range]; omega,jah (fun x hx=>?_),?_⟩
       · obtain ⟨i,-,rfl⟩:=List.mem_map.1 hx;obtain ⟨q1,q2,q3,q4⟩:=hpart i;obtain ⟨h1,h2⟩:=ih (by omega) _ _ q1 q2 q3 q4;exact ⟨by omega,h1⟩
       · rw [List.getLast?_map,List.getLast?_range];rw [if_neg (by omega)];simp only [Option.map_some,Nat.add_sub_cancel,ne_eq,Option.some.injEq];intro e;obtain ⟨q1,q2,q3,q4⟩:=hpart (m'.get (n+1:Nat)).toNat;have hco:=ka6 n (by omega) _ _ q1 q2 q3 q4 m';rw [e,Pl.zero_coef] at hco;have hhead:(((c,m') :: r).filter fun x=>decide (x.2.get (n+1:Nat)=Int.ofNat (m'.get (n+1:Nat)).toNat))=(c,m') :: (r.filter fun x=>decide (x.2.get (n+1:Nat)=Int.ofNat (m'.get (n+1:Nat)).toNat)):=by
          rw [List.filter_cons,if_pos];simp only [decide_eq_true_eq,Int.ofNat_eq_natCast];omega
         rw [hhead] at hco q1;rw [(vbv q1).1] at hco;exact hl.1 hco.symm
theorem ybc {l:Sp} (h:zao l) (hn:∀ x ∈ l,x.2.nonneg):(bld 4 l).Can/\∀ k,jd ((bld 4 l).terms Mo.one) k=jd l k:=by
 have hz:∀ i:Nat,0 < i->i<=4->Mo.one.get i=0:=fun i h1 h2=>by
  rcases (show i=1\/i=2\/i=3\/i=4 by omega) with rfl | rfl | rfl | rfl <;> rfl
 have ha:wa9 4 Mo.one l:=fun x _ i h1 h2=>by omega
 exact ⟨(ybt 4 (Nat.le_refl _) l _ h hn ha hz).1,ka6 4 (Nat.le_refl _) l _ h hn ha hz⟩
end Go.Proofs.YtheefiaoimbeiaaGreatDoor

/- What recpoly.isCanonical asks, plain. -/
namespace Go.Proofs.YtheefiaoimbeiaaGreatDoor
def Pl.isZ (p:Pl):Bool:=decide (p.lv=0) && decide (p.ds.length=0)
mutual
def Pl.isCan : Pl -> Bool
 | .mk l n d cs=>if l=0 then (if 0 < cs.length then false else (decide (d.length=0) && !n) || (decide (0 < d.length) && decide (d.getLast? ≠ some 0)))
   else if (l < 1\/4 < l)\/0 < d.length\/n=true\/cs.length < 2 then false
   else gak l cs && (match cs.getLast? with
    | some c=>!c.isZ
    | none=>true)
def gak (l : Int) : List Pl -> Bool
 | []=>true
 | c :: r=>decide (c.lv < l) && c.isCan && gak l r
end
mutual
def Pl.dig : Pl -> Prop
 | .mk _ _ d cs=>zg d/\xag cs
def xag : List Pl -> Prop
 | []=>True
 | c :: r=>c.dig/\xag r
end
theorem jbz {d:List Nat} (hd:zg d) (h0:0 < d.length):d=dg (val d) ↔ d.getLast? ≠ some 0:=by
 rw [xa9 hd];obtain ⟨k,hk⟩:∃ k,d.length=k+1:=⟨d.length - 1,by omega⟩;have hl:d.getLast?=some (d.getD k 0):=by
  rw [List.getLast?_eq_getElem?,List.getD_eq_getElem?_getD,hk,Nat.add_sub_cancel,List.getElem?_eq_getElem (by omega)]; rfl
 have ht:d=d.take (jad d d.length) ↔ jad d d.length=d.length:=by
  constructor
  · intro h;have:=congrArg List.length h;rw [List.length_take] at this;have:=xao d d.length;omega
  · intro h; rw [h,List.take_length]
 rw [ht,hl,hk,jad]
 by_cases h:d.getD k 0=0
 · rw [if_pos h,h];have:=xao d k
   constructor
   · intro e; omega
   · intro e; exact absurd rfl e
 · rw [if_neg h];simpa using h
theorem Pl.zero_isZ {p:Pl} (h:p.Can):p.isZ=true ↔ p=Pl.zero:=by
 cases p with
 | mk l n d cs =>
   unfold Pl.Can at h;unfold Pl.isZ Pl.zero;show (decide (l=0) && decide (d.length=0))=true ↔ _;rw [Bool.and_eq_true,decide_eq_true_eq,decide_eq_true_eq,List.length_eq_zero_iff,Pl.mk.injEq]
   constructor
   · rintro ⟨h1,h2⟩;rcases h with h | h
     · exact ⟨h1,h.2.2.2 h2,h2,h.2.1⟩
     · omega
   · rintro ⟨h1,-,h2,-⟩; exact ⟨h1,h2⟩
mutual
theorem Pl.isCan_iff : ∀ p : Pl, p.dig -> (p.isCan = true ↔ p.Can)
 | .mk l n d cs,hd=>by
   rw [Pl.dig] at hd;have hcs:=za4 cs;rw [Pl.isCan,Pl.Can]
   by_cases h0:l=0
   · rw [if_pos h0]
     by_cases hc:0 < cs.length
     · rw [if_pos hc]
       constructor
       · intro h; cases h
       · intro h;rcases h with ⟨-,h,-⟩ | h
         · subst h; cases hc
         · omega
     · rw [if_neg hc];have hce:cs=[]:=List.eq_nil_of_length_eq_zero (by omega);simp only [Bool.or_eq_true,Bool.and_eq_true,decide_eq_true_eq,Bool.not_eq_true',List.length_eq_zero_iff]
       by_cases hdl:0 < d.length
       · have hdn:d ≠ []:=by intro e; subst e; cases hdl
         have:=jbz hd.1 hdl
         constructor
         · rintro (⟨h,-⟩ | ⟨-,h⟩)
           · exact absurd h hdn
           · exact .inl ⟨h0,hce,this.2 h,fun e=>absurd e hdn⟩
         · rintro (h | h)
           · exact .inr ⟨hdl,this.1 h.2.2.1⟩
           · omega
       · have hdn:d=[]:=List.eq_nil_of_length_eq_zero (by omega)
         constructor
         · rintro (⟨-,h⟩ | ⟨h,-⟩)
           · exact .inl ⟨h0,hce,by rw [hdn]; simp [val,jm],fun _=>h⟩
           · omega
         · rintro (h | h)
           · exact .inl ⟨hdn,h.2.2.2 hdn⟩
           · omega
   · rw [if_neg h0]
     by_cases h1:(l < 1\/4 < l)\/0 < d.length\/n=true\/cs.length < 2
     · rw [if_pos h1]
       constructor
       · intro h; cases h
       · rintro (h | ⟨h2,h3,h4,h5,h6,-⟩)
         · exact absurd h.1 h0
         · subst h4 h5;simp at h1; omega
     · rw [if_neg h1];have h2:1<=l/\l<=4/\d.length=0/\n=false/\2<=cs.length:=by
        have hn:¬ n=true:=fun e=>h1 (.inr (.inr (.inl e)))
        refine ⟨?_,?_,?_,by simpa using hn,?_⟩ <;> omega
       have hl:cs.getLast?=some cs[cs.length - 1]:=by rw [List.getLast?_eq_getElem?,List.getElem?_eq_getElem (by omega)]
       rw [hl];simp only [Bool.and_eq_true,Bool.not_eq_true']
       constructor
       · rintro ⟨ha,hb⟩;have hk:=(hcs l hd.2).1 ha;refine .inr ⟨h2.1,h2.2.1,h2.2.2.2.1,List.eq_nil_of_length_eq_zero h2.2.2.1,h2.2.2.2.2,hk,?_⟩;intro e;have:=(Pl.zero_isZ (hk.mem _ (List.getElem_mem (by omega:cs.length - 1 < cs.length))).2).2 (Option.some.inj e);rw [this] at hb; cases hb
       · rintro (h | ⟨-,-,-,-,-,hk,hne⟩)
         · exact absurd h.1 h0
         · refine ⟨(hcs l hd.2).2 hk,?_⟩;rw [Bool.eq_false_iff];intro e;exact hne (congrArg some ((Pl.zero_isZ (hk.mem _ (List.getElem_mem (by omega:cs.length - 1 < cs.length))).2).1 e))
theorem za4 : ∀ (cs : List Pl) (l : Int), xag cs -> (gak l cs = true ↔ ku l cs)
 | [],l,_=>by rw [gak,ku]; simp
 | c :: r,l,hd=>by
   rw [xag] at hd;rw [gak,ku,Bool.and_eq_true,Bool.and_eq_true,Pl.isCan_iff c hd.1,za4 r l hd.2,decide_eq_true_eq,and_assoc]
end
theorem xav (l : Int) : ∀ cs : List Pl, gak l cs = cs.all fun c => decide (c.lv < l) && c.isCan
 | []=>rfl
 | c :: r=>by rw [gak,xav l r,List.all_cons]
theorem Pl.isCan_bad {l:Int} {n:Bool} {d:List Nat} {cs:List Pl} {c:Pl} (hl:l ≠ 0) (hc:c ∈ cs) (h:l<=c.lv\/c.isCan=false):(Pl.mk l n d cs).isCan=false:=by
 rw [Pl.isCan,if_neg hl]
 split
 · rfl
 · have:gak l cs=false:=by
    rw [xav,List.all_eq_false];refine ⟨c,hc,?_⟩;rcases h with h | h
    · simp; intro h2; omega
    · simp [h]
   rw [this]; rfl
theorem Pl.isCan_fin {l:Int} {n:Bool} {d:List Nat} {cs:List Pl} (hl:l ≠ 0) (hg:¬ ((l < 1\/4 < l)\/0 < d.length\/n=true\/cs.length < 2)) (h:∀ c ∈ cs,c.lv < l/\c.isCan=true) (hn:0 < cs.length):(Pl.mk l n d cs).isCan=!(cs[cs.length - 1]).isZ:=by
 rw [Pl.isCan,if_neg hl,if_neg hg];have h1:gak l cs=true:=by
  rw [xav,List.all_eq_true];intro c hc;simp [h c hc]
 rw [h1,List.getLast?_eq_getElem?,List.getElem?_eq_getElem (by omega)]
 rfl
end Go.Proofs.YtheefiaoimbeiaaGreatDoor

/- The canonical form of a sum of terms, and of a recursive polynomial, plain, with its size. -/
namespace Go.Proofs.YtheefiaoimbeiaaGreatDoor
def yan (c : Int) (m : Mo) : Sp -> Sp
 | []=>if c=0 then [] else [(c,m)]
 | (d,n) :: r=>if n.lt m then (if c=0 then (d,n) :: r else (c,m) :: (d,n) :: r) else if m=n then (if c+d=0 then r else (c+d,n) :: r) else (d,n) :: yan c m r
theorem yb3 (c:Int) (m:Mo) (l:Sp) (k:Mo):jd (yan c m l) k=(if m=k then c else 0)+jd l k:=by
 induction l with
 | nil =>
   unfold yan
   by_cases h:c=0
   · rw [if_pos h,h]; simp [jd]
   · rw [if_neg h]; simp [jd]
 | cons x r ih =>
   obtain ⟨d,n⟩:=x;unfold yan
   by_cases h1:n.lt m
   · rw [if_pos h1]
     by_cases h:c=0
     · rw [if_pos h,h]; simp
     · rw [if_neg h]; simp [jd]
   · rw [if_neg h1]
     by_cases h2:m=n
     · rw [if_pos h2]; subst h2
       by_cases h:c+d=0
       · rw [if_pos h]; simp only [jd]; split <;> omega
       · rw [if_neg h]; simp only [jd]; split <;> omega
     · rw [if_neg h2]; simp only [jd,ih]; omega
theorem va5 {c:Int} {m:Mo} {l:Sp} {x:Int × Mo} (h:x ∈ yan c m l):x.2=m\/∃ y ∈ l,y.2=x.2:=by
 induction l with
 | nil =>
   unfold yan at h
   split at h
   · cases h
   · left; rw [List.mem_singleton.1 h]
 | cons y r ih =>
   obtain ⟨d,n⟩:=y;unfold yan at h
   split at h
   · split at h
     · exact .inr ⟨x,h,rfl⟩
     · rcases List.mem_cons.1 h with rfl | h
       · exact .inl rfl
       · exact .inr ⟨x,h,rfl⟩
   · split at h
     · split at h
       · exact .inr ⟨x,List.mem_cons_of_mem _ h,rfl⟩
       · rcases List.mem_cons.1 h with rfl | h
         · exact .inr ⟨_,List.mem_cons_self,rfl⟩
         · exact .inr ⟨x,List.mem_cons_of_mem _ h,rfl⟩
     · rcases List.mem_cons.1 h with rfl | h
       · exact .inr ⟨_,List.mem_cons_self,rfl⟩
       · rcases ih h with h | ⟨y,hy,e⟩
         · exact .inl h
         · exact .inr ⟨y,List.mem_cons_of_mem _ hy,e⟩
theorem qcb (c:Int) (m:Mo) (l:Sp) (h:zao l):zao (yan c m l):=by
 induction l with
 | nil =>
   unfold yan
   split
   · exact trivial
   · rename_i hc; exact ⟨hc,fun _ hx=>(by cases hx),trivial⟩
 | cons x r ih =>
   obtain ⟨d,n⟩:=x;obtain ⟨h1,h2,h3⟩:=h;unfold yan
   split
   · rename_i hlt
     split
     · exact ⟨h1,h2,h3⟩
     · rename_i hc;refine ⟨hc,fun y hy=>?_,h1,h2,h3⟩;rcases List.mem_cons.1 hy with rfl | hy
       · exact hlt
       · exact Mo.lt_trans (h2 y hy) hlt
   · rename_i hlt
     split
     · rename_i he
       split
       · exact h3
       · rename_i hc; exact ⟨hc,h2,h3⟩
     · rename_i hne;refine ⟨h1,fun y hy=>?_,ih h3⟩;rcases va5 hy with e | ⟨z,hz,e⟩
       · rw [e];rcases Mo.tri m n with h | h | h
         · exact h
         · exact absurd h hne
         · exact absurd h hlt
       · rw [<- e]; exact h2 z hz
def gy : Sp -> Sp
 | []=>[]
 | (c,m) :: r=>if m.nonneg then yan c m (gy r) else gy r
theorem vaj (l:Sp):zao (gy l):=by
 induction l with
 | nil=>exact trivial
 | cons x r ih =>
   obtain ⟨c,m⟩:=x;unfold gy
   split
   · exact qcb _ _ _ ih
   · exact ih
theorem uaw (l:Sp) (k:Mo):jd (gy l) k=if k.nonneg then jd l k else 0:=by
 induction l with
 | nil=>simp [gy,jd]
 | cons x r ih =>
   obtain ⟨c,m⟩:=x;unfold gy
   by_cases hm:m.nonneg
   · rw [if_pos hm,yb3,ih]
     by_cases hk:k.nonneg
     · rw [if_pos hk,if_pos hk]; simp only [jd]
     · rw [if_neg hk,if_neg hk,if_neg (fun (e:m=k)=>hk (e ▸ hm))]; rfl
   · rw [if_neg hm,ih]
     by_cases hk:k.nonneg
     · rw [if_pos hk,if_pos hk]; simp only [jd]; rw [if_neg (fun (e:m=k)=>hm (e ▸ hk))]; omega
     · rw [if_neg hk,if_neg hk]
theorem yah {l:Sp} {x:Int × Mo} (h:x ∈ gy l):x.2.nonneg/\∃ y ∈ l,y.2=x.2:=by
 induction l with
 | nil=>cases h
 | cons y r ih =>
   obtain ⟨c,m⟩:=y;unfold gy at h
   split at h
   · rename_i hm;rcases va5 h with e | ⟨z,hz,e⟩
     · exact ⟨by rw [e]; exact hm,_,List.mem_cons_self,e.symm⟩
     · suffices z.2.nonneg/\∃ y ∈ r,y.2=z.2 by
        obtain ⟨a,y,hy,e'⟩:=this;exact ⟨by rw [<- e]; exact a,y,List.mem_cons_of_mem _ hy,e'.trans e⟩
       clear ih h
       induction r generalizing z with
       | nil=>cases hz
       | cons y r ih =>
         obtain ⟨c',m'⟩:=y;unfold gy at hz
         split at hz
         · rename_i hm';rcases va5 hz with e1 | ⟨z',hz',e1⟩
           · exact ⟨by rw [e1]; exact hm',_,List.mem_cons_self,e1.symm⟩
           · obtain ⟨a,y,hy,e'⟩:=ih z' hz' (e1.trans e);exact ⟨by rw [<- e1]; exact a,y,List.mem_cons_of_mem _ hy,e'.trans e1⟩
         · obtain ⟨a,y,hy,e'⟩:=ih z hz e;exact ⟨a,y,List.mem_cons_of_mem _ hy,e'⟩
   · obtain ⟨a,y,hy,e⟩:=ih h;exact ⟨a,y,List.mem_cons_of_mem _ hy,e⟩
theorem jal {l:Sp} (h:∀ x ∈ l,x.2.nonneg) (k:Mo):jd (gy l) k=jd l k:=by
 rw [uaw]
 by_cases hk:k.nonneg
 · rw [if_pos hk]
 · rw [if_neg hk,zae fun x hx (e:x.2=k)=>hk (e ▸ h x hx)]
def uo : Sp -> Nat
 | []=>0
 | (c,_) :: r=>c.natAbs+uo r
theorem yaq (l r:Sp):uo (l ++ r)=uo l+uo r:=by
 induction l with
 | nil=>simp [uo]
 | cons x l ih=>obtain ⟨c,m⟩:=x; simp only [List.cons_append,uo,ih]; omega
theorem xcb (c:Int) (m:Mo) (l:Sp):uo (yan c m l)<=c.natAbs+uo l:=by
 induction l with
 | nil=>unfold yan; split <;> simp [uo]
 | cons x r ih =>
   obtain ⟨d,n⟩:=x;unfold yan
   split
   · split <;> simp only [uo] <;> omega
   · split
     · split <;> simp only [uo] <;> omega
     · simp only [uo]; omega
theorem wb2 (l:Sp):uo (gy l)<=uo l:=by
 induction l with
 | nil=>exact Nat.le_refl _
 | cons x r ih =>
   obtain ⟨c,m⟩:=x;unfold gy;have:=xcb c m (gy r)
   split <;> simp only [uo] <;> omega
theorem kbo (f:Int × Mo->Bool) (l:Sp):uo (l.filter f)<=uo l:=by
 induction l with
 | nil=>exact Nat.le_refl _
 | cons x r ih =>
   obtain ⟨c,m⟩:=x;rw [List.filter_cons]
   split <;> simp only [uo] <;> omega
def Pl.ofS (l:Sp):Pl:=bld 4 (gy l)
def Pl.nf (p:Pl):Pl:=Pl.ofS (p.terms Mo.one)
theorem Pl.ofS_can (l:Sp):(Pl.ofS l).Can:=(ybc (vaj l) (fun _ hx=>(yah hx).1)).1
theorem Pl.ofS_coef (l:Sp) (k:Mo):jd ((Pl.ofS l).terms Mo.one) k=if k.nonneg then jd l k else 0:=
 ((ybc (vaj l) (fun _ hx=>(yah hx).1)).2 k).trans (uaw l k)
theorem Mo.put_nonneg {m:Mo} {i e:Int} (h:m.nonneg) (he:0<=e):(m.put i e).nonneg:=by
 unfold Mo.nonneg at *; unfold Mo.put; split <;> (try split) <;> (try split) <;> simp_all
theorem Mo.one_nonneg:Mo.one.nonneg:=by unfold Mo.nonneg Mo.one; simp
theorem Mo.get_nonneg {m:Mo} (h:m.nonneg) (i:Int):0<=m.get i:=by
 unfold Mo.nonneg at h; unfold Mo.get; split <;> (try split) <;> (try split) <;> omega
mutual
theorem Pl.terms_nonneg : ∀ (p : Pl) (m : Mo), m.nonneg -> ∀ x ∈ p.terms m, x.2.nonneg
 | .mk l n d cs,m,hm,x,hx=>by
   rw [Pl.terms] at hx
   split at hx
   · rw [List.mem_singleton.1 hx]; exact hm
   · split at hx
     · cases hx
     · exact wav cs m l (m.get l) hm (Mo.get_nonneg hm l) x hx
theorem wav : ∀ (cs : List Pl) (m : Mo) (l e : Int), m.nonneg -> 0 <= e -> ∀ x ∈ jo m l e cs, x.2.nonneg
 | [],m,l,e,hm,he,x,hx=>by rw [jo] at hx; cases hx
 | c :: r,m,l,e,hm,he,x,hx=>by
   rw [jo] at hx;rcases List.mem_append.1 hx with hx | hx
   · exact Pl.terms_nonneg c _ (Mo.put_nonneg hm he) x hx
   · exact wav r m l (e+1) hm (by omega) x hx
end
theorem Pl.terms_one_nonneg (p:Pl):∀ x ∈ p.terms Mo.one,x.2.nonneg:=Pl.terms_nonneg p _ Mo.one_nonneg
theorem Pl.nf_can (p:Pl):p.nf.Can:=Pl.ofS_can _
theorem Pl.nf_coef (p:Pl) (k:Mo):jd (p.nf.terms Mo.one) k=jd (p.terms Mo.one) k:=
 ((ybc (vaj _) (fun _ hx=>(yah hx).1)).2 k).trans (jal p.terms_one_nonneg k)
theorem Pl.nf_of_can {p:Pl} (h:p.Can):p.nf=p:=Pl.can_eq p.nf_can h p.nf_coef
mutual
def Pl.sz : Pl -> Nat
 | .mk _ _ _ cs=>wad cs+1
def wad : List Pl -> Nat
 | []=>0
 | c :: r=>c.sz+wad r
end
mutual
def Pl.dm : Pl -> Nat
 | .mk _ _ d cs=>max d.length (gao cs)
def gao : List Pl -> Nat
 | []=>0
 | c :: r=>max c.dm (gao r)
end
theorem vax {cs:List Pl} {c:Pl} (h:c ∈ cs):c.sz<=wad cs:=by
 induction cs with
 | nil=>cases h
 | cons x r ih =>
   rcases List.mem_cons.1 h with rfl | h
   · unfold wad; omega
   · have:=ih h; unfold wad; omega
theorem Pl.sz_kid {p c:Pl} (h:c ∈ p.cs):c.sz < p.sz:=by
 cases p with
 | mk l n d cs =>
   have h1:c.sz<=wad cs:=vax (cs:=cs) h;have h2:(Pl.mk l n d cs).sz=wad cs+1:=by rw [Pl.sz]
   omega
theorem jce (cs:List Pl):cs.length<=wad cs:=by
 induction cs with
 | nil=>exact Nat.le_refl _
 | cons x r ih=>cases x; unfold wad Pl.sz; simp only [List.length_cons]; omega
theorem uce {cs:List Pl} {c:Pl} (h:c ∈ cs):c.dm<=gao cs:=by
 induction cs with
 | nil=>cases h
 | cons x r ih =>
   rcases List.mem_cons.1 h with rfl | h
   · unfold gao; omega
   · have:=ih h; unfold gao; omega
theorem Pl.dm_ds (p:Pl):p.ds.length<=p.dm:=by
 cases p with
 | mk l n d cs =>
   have h2:(Pl.mk l n d cs).dm=max d.length (gao cs):=by rw [Pl.dm]
   have h3:(Pl.mk l n d cs).ds=d:=rfl;rw [h3]; omega
theorem Mo.put_le {m:Mo} {l e E:Int} (h:m.a<=E/\m.b<=E/\m.c<=E/\m.d<=E) (he:e<=E):(m.put l e).a<=E/\(m.put l e).b<=E/\(m.put l e).c<=E/\(m.put l e).d<=E:=by
 unfold Mo.put; split <;> (try split) <;> (try split) <;> simp_all
def Mo.le (m:Mo) (E:Int):Prop:=m.a<=E/\m.b<=E/\m.c<=E/\m.d<=E
theorem Mo.le.get {m:Mo} {E:Int} (h:m.le E) (i:Int):m.get i<=E:=by
 unfold Mo.le at h; unfold Mo.get; split <;> (try split) <;> (try split) <;> omega
theorem Mo.le.put {m:Mo} {E:Int} (h:m.le E) (l e:Int) (he:e<=E):(m.put l e).le E:=Mo.put_le h he
theorem Mo.le.mono {m:Mo} {E E':Int} (h:m.le E) (he:E<=E'):m.le E':=by unfold Mo.le at *; omega
end Go.Proofs.YtheefiaoimbeiaaGreatDoor

/- Polynomials in four variables, plain: a canonical polynomial is known by its values; sums and products. No program in sight. -/
namespace Go.Proofs.YtheefiaoimbeiaaGreatDoor
theorem xat (x:Rat) (m n:Nat):x ^ (m+n)=x ^ m * x ^ n:=by
 induction n with
 | zero=>simp
 | succ n ih=>rw [<- Nat.add_assoc,Rat.pow_succ,ih,Rat.pow_succ]; grind
theorem gcb (x:Rat) (m n:Nat):x ^ (m * n)=(x ^ m) ^ n:=by
 induction n with
 | zero=>simp
 | succ n ih=>rw [Nat.mul_succ,xat,ih,Rat.pow_succ]
def Mo.num (E:Nat) (m:Mo):Nat:=m.a.toNat+E * (m.b.toNat+E * (m.c.toNat+E * m.d.toNat))
theorem wao {E x x' y y':Nat} (hx:x < E) (h:y < y'):x+E * y < x'+E * y':=by
 have h1:E * (y+1)<=E * y':=Nat.mul_le_mul_left E h;rw [Nat.mul_add] at h1;omega
theorem Mo.num_lt {E:Nat} {m n:Mo} (hm:m.nonneg) (hn:n.nonneg) (hE:m.a < E/\m.b < E/\m.c < E/\m.d < E) (h:m.lt n):m.num E < n.num E:=by
 unfold Mo.lt at h;unfold Mo.nonneg at hm hn;unfold Mo.num;rcases h with h | ⟨h1,h | ⟨h2,h | ⟨h3,h⟩⟩⟩
 · exact wao (by omega) (wao (by omega) (wao (by omega) (by omega)))
 · rw [h1]; exact wao (by omega) (wao (by omega) (by omega))
 · rw [h1,h2]; exact wao (by omega) (by omega)
 · rw [h1,h2,h3]; omega
def ival (E B : Nat) : Sp -> Int
 | []=>0
 | (c,m) :: r=>c * (B:Int) ^ m.num E+ival E B r
def kro (E B:Nat) (i:Int):Rat:=(B:Rat) ^ (E ^ (i - 1).toNat)
theorem Mo.val_kro (E B:Nat) (m:Mo):m.val (kro E B)=(B:Rat) ^ m.num E:=by
 unfold Mo.val kro Mo.num;simp only [<- gcb,<- xat]
 congr 1
 simp only [show ((1:Int) - 1).toNat=0 from rfl,show ((2:Int) - 1).toNat=1 from rfl,show ((3:Int) - 1).toNat=2 from rfl,show ((4:Int) - 1).toNat=3 from rfl,Nat.pow_zero,Nat.pow_one]
 grind
theorem vbh (E B:Nat) (l:Sp):wu (kro E B) l=(ival E B l:Rat):=by
 induction l with
 | nil=>simp [wu,ival]
 | cons x l ih =>
   obtain ⟨c,m⟩:=x;simp only [wu,ival,ih,Mo.val_kro]
   push_cast
   rfl
theorem qcr (E B K:Nat) (hB:0 < B) (l:Sp) (h:∀ x ∈ l,x.2.num E<=K):(ival E B l).natAbs<=uo l * B ^ K:=by
 induction l with
 | nil=>simp [ival]
 | cons x l ih =>
   obtain ⟨c,m⟩:=x;have h1:=ih fun x hx=>h x (List.mem_cons_of_mem _ hx)
   have h2:B ^ m.num E<=B ^ K:=Nat.pow_le_pow_right hB (h (c,m) (List.mem_cons_self ..));simp only [ival,uo];have h3:(c * (B:Int) ^ m.num E).natAbs=c.natAbs * B ^ m.num E:=by
    rw [Int.natAbs_mul,Int.natAbs_pow,Int.natAbs_natCast]
   have h4:c.natAbs * B ^ m.num E<=c.natAbs * B ^ K:=Nat.mul_le_mul_left _ h2;have h5:=Int.natAbs_add_le (c * (B:Int) ^ m.num E) (ival E B l);rw [Nat.add_mul];omega
theorem kaj (c:Int) (m:Mo) (l:Sp):uo ((c,m) :: l)=c.natAbs+uo l:=rfl
theorem vbs {l:Sp} (h:zao l) (hn:∀ x ∈ l,x.2.nonneg) (E:Nat) (hE:∀ x ∈ l,x.2.le E) (B:Nat) (hB:uo l+1<=B) (hne:l ≠ []):ival (E+1) B l ≠ 0:=by
 intro h2;cases l with
 | nil=>exact hne rfl
 | cons x r =>
   obtain ⟨c,m⟩:=x;simp only [ival] at h2;have hc:=h.1;rw [kaj] at hB;have hnum:∀ x ∈ r,x.2.num (E+1) < m.num (E+1):=fun x hx=>by
    refine Mo.num_lt (hn x (List.mem_cons_of_mem _ hx)) (hn _ (List.mem_cons_self ..)) ?_ (h.2.1 x hx);have:=hE x (List.mem_cons_of_mem _ hx);unfold Mo.le at this;omega
   have h3:(c * (B:Int) ^ m.num (E+1)).natAbs=c.natAbs * B ^ m.num (E+1):=by
    rw [Int.natAbs_mul,Int.natAbs_pow,Int.natAbs_natCast]
   have h4:(ival (E+1) B r).natAbs=(c * (B:Int) ^ m.num (E+1)).natAbs:=by omega
   have hc1:1<=c.natAbs:=by omega
   cases r with
   | nil =>
     simp only [ival,Int.natAbs_zero] at h4;rw [h3] at h4;have:0 < B ^ m.num (E+1):=Nat.pow_pos (by omega);have:=Nat.mul_le_mul_right (B ^ m.num (E+1)) hc1;omega
   | cons y r' =>
     have hy:=hnum y (List.mem_cons_self ..);obtain ⟨K,hK⟩:∃ K,m.num (E+1)=K+1:=⟨m.num (E+1) - 1,by omega⟩;have h5:=qcr (E+1) B K (by omega) (y :: r') (fun x hx=>by have:=hnum x hx; omega);rw [h4,h3,hK,Nat.pow_succ] at h5;have hp:0 < B ^ K:=Nat.pow_pos (by omega);generalize B ^ K=P at *;generalize uo (y :: r')=S at *;have h6:1 * (P * B)<=c.natAbs * (P * B):=Nat.mul_le_mul_right _ hc1;have h7:P * (S+2)<=P * B:=Nat.mul_le_mul_left _ (by omega);have h8:P * (S+2)=S * P+2 * P:=by grind
     omega
theorem vbu {l:Sp} (h:zao l) (hn:∀ x ∈ l,x.2.nonneg) (E:Nat) (hE:∀ x ∈ l,x.2.le E) (hz:∀ ρ,wu ρ l=0):l=[]:=by
 cases l with
 | nil=>rfl
 | cons x r =>
   have h1:=hz (kro (E+1) (uo (x :: r)+1));rw [vbh] at h1;exact absurd (by exact_mod_cast h1) (vbs h hn E hE _ (Nat.le_refl _) (by simp))
theorem Mo.le_sup (l:Sp):∃ E:Nat,∀ x ∈ l,x.2.le E:=by
 induction l with
 | nil=>exact ⟨0,by simp⟩
 | cons x r ih =>
   obtain ⟨E,h⟩:=ih;refine ⟨E+x.2.a.toNat+x.2.b.toNat+x.2.c.toNat+x.2.d.toNat,fun y hy=>?_⟩;rcases List.mem_cons.1 hy with rfl | hy
   · unfold Mo.le; omega
   · exact (h y hy).mono (by omega)
theorem gbi {l l':Sp} (hn:∀ x ∈ l,x.2.nonneg) (hn':∀ x ∈ l',x.2.nonneg) (h:∀ ρ,wu ρ l=wu ρ l') (k:Mo):jd l k=jd l' k:=by
 have hnn:∀ x ∈ l ++ qao l',x.2.nonneg:=fun x hx=>by
  rcases List.mem_append.1 hx with hx | hx
  · exact hn x hx
  · unfold qao at hx;obtain ⟨y,hy,rfl⟩:=List.mem_map.1 hx;exact hn' y hy
 obtain ⟨E,hE⟩:=Mo.le_sup (gy (l ++ qao l'));have h1:gy (l ++ qao l')=[]:=vbu (vaj _) (fun x hx=>(yah hx).1) E hE (fun ρ=>by
  rw [kaz ρ (jal hnn),jai,kbh,h ρ]
  grind)
 have h2:=jal hnn k;rw [h1,qan,xbd] at h2;simp only [jd] at h2;omega
theorem Pl.val_uniq {p q:Pl} (hp:p.Can) (hq:q.Can) (h:∀ ρ,p.val ρ=q.val ρ):p=q:=by
 refine Pl.can_eq hp hq (gbi p.terms_one_nonneg q.terms_one_nonneg fun ρ=>?_);rw [Pl.terms_val ρ p _ Mo.one_nonneg,Pl.terms_val ρ q _ Mo.one_nonneg,h ρ]
theorem Pl.ofS_val (ρ:Int->Rat) {l:Sp} (hn:∀ x ∈ l,x.2.nonneg):(Pl.ofS l).val ρ=wu ρ l:=by
 have h1:=kaz ρ (l:=(Pl.ofS l).terms Mo.one) (l':=l) (fun k=>by
  rw [Pl.ofS_coef]
  split
  · rfl
  · rename_i hk
    exact (zae fun x hx e=>hk (by rw [<- e]; exact hn x hx)).symm)
 rw [Pl.terms_val ρ _ _ Mo.one_nonneg,Mo.val_one] at h1
 grind
theorem Pl.terms_sval (ρ:Int->Rat) (p:Pl):wu ρ (p.terms Mo.one)=p.val ρ:=by
 rw [Pl.terms_val ρ p _ Mo.one_nonneg,Mo.val_one]; grind
def Mo.mul (m n:Mo):Mo:=⟨m.a+n.a,m.b+n.b,m.c+n.c,m.d+n.d⟩
theorem Mo.mul_nonneg {m n:Mo} (h:m.nonneg) (k:n.nonneg):(m.mul n).nonneg:=by unfold Mo.nonneg Mo.mul at *; simp only at *; omega
theorem Mo.mul_le {m n:Mo} {E F:Nat} (h:m.le E) (k:n.le F):(m.mul n).le ((E+F:Nat):Int):=by unfold Mo.le Mo.mul at *; simp only; omega
theorem Mo.val_mul (ρ:Int->Rat) {m n:Mo} (h:m.nonneg) (k:n.nonneg):(m.mul n).val ρ=m.val ρ * n.val ρ:=by
 unfold Mo.nonneg at h k;unfold Mo.val Mo.mul;rw [Int.toNat_add h.1 k.1,Int.toNat_add h.2.1 k.2.1,Int.toNat_add h.2.2.1 k.2.2.1,Int.toNat_add h.2.2.2 k.2.2.2];simp only [xat]
 grind
def stm (c:Int) (m:Mo) (l:Sp):Sp:=l.map fun x=>(c * x.1,m.mul x.2)
def zan : Sp -> Sp -> Sp
 | [],_=>[]
 | (c,m) :: r,l=>stm c m l ++ zan r l
theorem gcm {c:Int} {m:Mo} {l:Sp} {x:Int × Mo} (h:x ∈ stm c m l):∃ y ∈ l,x=(c * y.1,m.mul y.2):=by
 unfold stm at h;obtain ⟨y,hy,rfl⟩:=List.mem_map.1 h;exact ⟨y,hy,rfl⟩
theorem ja5 {k l:Sp} {x:Int × Mo} (h:x ∈ zan k l):∃ y ∈ k,∃ z ∈ l,x=(y.1 * z.1,y.2.mul z.2):=by
 induction k with
 | nil=>simp [zan] at h
 | cons u k ih =>
   obtain ⟨c,m⟩:=u;rw [zan] at h;rcases List.mem_append.1 h with h | h
   · obtain ⟨z,hz,rfl⟩:=gcm h;exact ⟨(c,m),List.mem_cons_self ..,z,hz,rfl⟩
   · obtain ⟨y,hy,z,hz,rfl⟩:=ih h;exact ⟨y,List.mem_cons_of_mem _ hy,z,hz,rfl⟩
theorem vcm (ρ:Int->Rat) (c:Int) {m:Mo} (hm:m.nonneg) {l:Sp} (hl:∀ x ∈ l,x.2.nonneg):wu ρ (stm c m l)=(c:Rat) * m.val ρ * wu ρ l:=by
 induction l with
 | nil=>simp [stm,wu]
 | cons x l ih =>
   obtain ⟨d,n⟩:=x;have h1:=ih fun x hx=>hl x (List.mem_cons_of_mem _ hx)
   have h2:=hl (d,n) (List.mem_cons_self ..);unfold stm at h1 ⊢;simp only [List.map_cons,wu,h1,Mo.val_mul ρ hm h2]
   push_cast
   grind
theorem zcb (ρ:Int->Rat) {k l:Sp} (hk:∀ x ∈ k,x.2.nonneg) (hl:∀ x ∈ l,x.2.nonneg):wu ρ (zan k l)=wu ρ k * wu ρ l:=by
 induction k with
 | nil=>simp [zan,wu]
 | cons x k ih =>
   obtain ⟨c,m⟩:=x;rw [zan,jai,vcm ρ c (hk _ (List.mem_cons_self ..)) hl,ih fun x hx=>hk x (List.mem_cons_of_mem _ hx)];simp only [wu]
   grind
theorem ucm (c:Int) (m:Mo) (l:Sp):uo (stm c m l)=c.natAbs * uo l:=by
 induction l with
 | nil=>simp [stm,uo]
 | cons x l ih =>
   obtain ⟨d,n⟩:=x;unfold stm at ih ⊢;simp only [List.map_cons,uo,ih,Int.natAbs_mul,Nat.mul_add]
theorem ubi (k l:Sp):uo (zan k l)=uo k * uo l:=by
 induction k with
 | nil=>simp [zan,uo]
 | cons x k ih =>
   obtain ⟨c,m⟩:=x;rw [zan,yaq,ucm,ih,kaj,Nat.add_mul]
theorem ka3 {k l:Sp} (hk:∀ x ∈ k,x.2.nonneg) (hl:∀ x ∈ l,x.2.nonneg):∀ x ∈ zan k l,x.2.nonneg:=fun x hx=>by
 obtain ⟨y,hy,z,hz,rfl⟩:=ja5 hx;exact Mo.mul_nonneg (hk y hy) (hl z hz)
def Pl.add (p q:Pl):Pl:=Pl.ofS (p.terms Mo.one ++ q.terms Mo.one)
def Pl.mul (p q:Pl):Pl:=Pl.ofS (zan (p.terms Mo.one) (q.terms Mo.one))
theorem Pl.add_can (p q:Pl):(p.add q).Can:=Pl.ofS_can _
theorem Pl.mul_can (p q:Pl):(p.mul q).Can:=Pl.ofS_can _
theorem Pl.add_val (ρ:Int->Rat) (p q:Pl):(p.add q).val ρ=p.val ρ+q.val ρ:=by
 unfold Pl.add;rw [Pl.ofS_val ρ (fun x hx=>(List.mem_append.1 hx).elim (p.terms_one_nonneg x) (q.terms_one_nonneg x)),jai,Pl.terms_sval,Pl.terms_sval]
theorem Pl.mul_val (ρ:Int->Rat) (p q:Pl):(p.mul q).val ρ=p.val ρ * q.val ρ:=by
 unfold Pl.mul;rw [Pl.ofS_val ρ (ka3 p.terms_one_nonneg q.terms_one_nonneg),zcb ρ p.terms_one_nonneg q.terms_one_nonneg,Pl.terms_sval,Pl.terms_sval]
theorem Pl.const_val (ρ:Int->Rat) (z:Int):(Pl.const z).val ρ=(z:Rat):=by
 have:=Pl.terms_sval ρ (Pl.const z);rw [Pl.const_terms] at this;simp only [wu,Mo.val_one] at this
 grind
theorem Pl.zero_val (ρ:Int->Rat):Pl.zero.val ρ=0:=by simp [Pl.zero,Pl.val,sgn,val]
theorem Pl.zero_of_val {p:Pl} (hp:p.Can) (h:∀ ρ,p.val ρ=0):p=Pl.zero:=Pl.val_uniq hp Pl.zero_can fun ρ=>by rw [h,Pl.zero_val]
mutual
def Pl.ex (E : Nat) : Pl -> Prop
 | .mk l _ _ cs=>l<=0\/(cs.length<=E+1/\jat E cs)
def jat (E : Nat) : List Pl -> Prop
 | []=>True
 | c :: r=>c.ex E/\jat E r
end
mutual
def Pl.nr : Pl -> Nat
 | .mk l n d cs=>if l<=0 then (sgn n (val d)).natAbs else wab cs
def wab : List Pl -> Nat
 | []=>0
 | c :: r=>c.nr+wab r
end
theorem za6 {E:Nat} {cs:List Pl} (h:jat E cs):∀ c ∈ cs,c.ex E:=by
 induction cs with
 | nil=>simp
 | cons y r ih=>rw [jat] at h; simpa using ⟨h.1,ih h.2⟩
theorem gbr {E:Nat} {cs:List Pl} (h:∀ c ∈ cs,c.ex E):jat E cs:=by
 induction cs with
 | nil=>trivial
 | cons y r ih=>rw [jat]; exact ⟨h y (by simp),ih fun c hc=>h c (by simp [hc])⟩
theorem wbj {cs:List Pl} {c:Pl} (h:c ∈ cs):c.nr<=wab cs:=by
 induction cs with
 | nil=>cases h
 | cons y r ih =>
   rw [wab];rcases List.mem_cons.1 h with rfl | h
   · omega
   · have:=ih h; omega
theorem wa3 (a b:List Pl):wab (a ++ b)=wab a+wab b:=by
 induction a with
 | nil=>simp [wab]
 | cons x a ih=>rw [List.cons_append,wab,wab,ih]; omega
mutual
theorem Pl.ex_mono {E F : Nat} (hEF : E <= F) : ∀ p : Pl, p.ex E -> p.ex F
 | .mk l _ _ cs,h=>by rw [Pl.ex] at h ⊢; rcases h with h | h; exact .inl h; exact .inr ⟨by omega,zbe hEF cs h.2⟩
theorem zbe {E F : Nat} (hEF : E <= F) : ∀ cs : List Pl, jat E cs -> jat F cs
 | [],_=>trivial
 | c :: r,h=>by rw [jat] at h ⊢; exact ⟨Pl.ex_mono hEF c h.1,zbe hEF r h.2⟩
end
theorem Pl.can_kids {l:Int} {n:Bool} {d:List Nat} {cs:List Pl} (h:(Pl.mk l n d cs).Can) (hl:¬ l<=0):l<=4/\ku l cs:=⟨h.lv_nonneg.2,(h.kids (by omega)).2.2.2.1⟩
theorem Mo.get_put_ne (m:Mo) (i e j:Int) (hj:0 < j) (hj4:j<=4) (hi:0 < i) (hi4:i<=4) (h:j ≠ i):(m.put i e).get j=m.get j:=by
 have:=Mo.get_put m i.toNat e (by omega) (by omega) j.toNat (by omega) (by omega);rw [show ((i.toNat:Nat):Int)=i by omega,show ((j.toNat:Nat):Int)=j by omega,if_neg (by omega)] at this;exact this
mutual
theorem Pl.terms_ex (E : Nat) : ∀ (p : Pl) (m : Mo), p.Can -> p.ex E -> m.le E -> (∀ i : Int, 0 < i -> i <= p.lv -> m.get i = 0) -> ∀ x ∈ p.terms m, x.2.le E
 | .mk l n d cs,m,hc,h,hm,h0,x,hx=>by
   rw [Pl.terms] at hx
   by_cases h1:l<=0
   · rw [if_pos h1] at hx;rw [List.mem_singleton.1 hx];exact hm
   · rw [if_neg h1] at hx;obtain ⟨hl4,hk⟩:=Pl.can_kids hc h1;rw [if_neg (by omega)] at hx;rw [Pl.ex] at h;have h:=h.resolve_left h1;have hz:=h0 l (by omega) (Int.le_refl _);rw [hz] at hx;exact ua7 E cs m l 0 hk h.2 hm (by omega) hl4 (by omega) (by omega) (fun i hi hil=>h0 i hi (by show i<=l; omega)) x hx
theorem ua7 (E : Nat) : ∀ (cs : List Pl) (m : Mo) (l e : Int), ku l cs -> jat E cs -> m.le E -> 0 < l -> l <= 4 -> 0 <= e -> e + cs.length <= E + 1 -> (∀ i : Int, 0 < i -> i < l -> m.get i = 0) -> ∀ x ∈ jo m l e cs, x.2.le E
 | [],m,l,e,_,_,_,_,_,_,_,_,x,hx=>by rw [jo] at hx; cases hx
 | c :: r,m,l,e,hc,h,hm,hl0,hl4,he,hle,h0,x,hx=>by
   rw [jo] at hx;rw [jat] at h;rw [List.length_cons] at hle;unfold ku at hc;rcases List.mem_append.1 hx with hx | hx
   · exact Pl.terms_ex E c _ hc.2.1 h.1 (hm.put l e (by omega)) (fun i hi hil=>by rw [Mo.get_put_ne m l e i hi (by omega) hl0 hl4 (by omega)]; exact h0 i hi (by omega)) x hx
   · exact ua7 E r m l (e+1) hc.2.2 h.2 hm hl0 hl4 (by omega) (by omega) h0 x hx
end
mutual
theorem Pl.terms_nr : ∀ (p : Pl) (m : Mo), p.Can -> uo (p.terms m) = p.nr
 | .mk l n d cs,m,hc=>by
   rw [Pl.terms,Pl.nr]
   by_cases h1:l<=0
   · rw [if_pos h1,if_pos h1]; simp [uo]
   · rw [if_neg h1,if_neg h1];obtain ⟨hl4,hk⟩:=Pl.can_kids hc h1;rw [if_neg (by omega)];exact va7 cs m l _ hk
theorem va7 : ∀ (cs : List Pl) (m : Mo) (l e : Int), ku l cs -> uo (jo m l e cs) = wab cs
 | [],m,l,e,_=>rfl
 | c :: r,m,l,e,hc=>by
   unfold ku at hc;rw [jo,yaq,wab,Pl.terms_nr c _ hc.2.1,va7 r m l (e+1) hc.2.2]
end
theorem Pl.const_nr (z:Int):(Pl.const z).nr=z.natAbs:=by rw [Pl.const,Pl.nr,if_pos (Int.le_refl _),je,wal]
theorem ybv (f:Int × Mo->Int) (k:Nat) (l:Sp):wab ((List.range k).map fun i=>Pl.const (uo (l.filter fun x=>decide (f x=Int.ofNat i))))<=uo l:=by
 have h1:∀ k,wab ((List.range k).map fun i=>Pl.const (uo (l.filter fun x=>decide (f x=Int.ofNat i))))=uo (l.filter fun x=>decide (0<=f x/\f x < k)):=by
  intro k
  induction k with
  | zero =>
    rw [show (l.filter fun x=>decide (0<=f x/\f x < ((0:Nat):Int)))=[] from List.filter_eq_nil_iff.2 fun x _=>by simp]
    rfl
  | succ k ih =>
    rw [List.range_succ,List.map_append,wa3,ih];simp only [List.map_cons,List.map_nil,wab,Pl.const_nr,Int.natAbs_natCast,Nat.add_zero];clear ih
    induction l with
    | nil=>rfl
    | cons x l ih =>
      obtain ⟨c,m⟩:=x;simp only [List.filter_cons,decide_eq_true_eq]
      by_cases h1:f (c,m)=Int.ofNat k
      · have h2:¬ (0<=f (c,m)/\f (c,m) < (k:Int)):=by rw [h1]; simp
        have h3:0<=f (c,m)/\f (c,m) < ((k+1:Nat):Int):=by rw [h1]; simp; omega
        rw [if_neg h2,if_pos h1,if_pos h3,kaj,kaj];omega
      · rw [if_neg h1];have h4:f (c,m) ≠ (k:Int):=h1
        by_cases h2:0<=f (c,m)/\f (c,m) < (k:Int)
        · have h3:0<=f (c,m)/\f (c,m) < ((k+1:Nat):Int):=by omega
          rw [if_pos h2,if_pos h3,kaj,kaj];omega
        · have h3:¬ (0<=f (c,m)/\f (c,m) < ((k+1:Nat):Int)):=by omega
          rw [if_neg h2,if_neg h3];exact ih
 rw [h1];exact kbo _ l
theorem vcn {α:Type} (f g:α->Pl) (l:List α) (h:∀ x ∈ l,(f x).nr<=(g x).nr):wab (l.map f)<=wab (l.map g):=by
 induction l with
 | nil=>simp [wab]
 | cons x l ih =>
   simp only [List.map_cons,wab];have h1:=h x (by simp);have h2:=ih fun y hy=>h y (by simp [hy])
   omega
theorem yc0 (n:Nat):∀ l:Sp,(bld n l).nr<=uo l:=by
 induction n with
 | zero =>
   intro l;cases l with
   | nil=>simp [bld,Pl.zero,Pl.nr,sgn,val]
   | cons x r=>obtain ⟨c,m⟩:=x; rw [bld,Pl.const_nr,kaj]; omega
 | succ n ih =>
   intro l;cases l with
   | nil=>simp [bld,Pl.zero,Pl.nr,sgn,val]
   | cons x r =>
     obtain ⟨c,m⟩:=x;rw [bld]
     split
     · exact ih _
     · rw [Pl.nr,if_neg (by omega)];refine Nat.le_trans (vcn _ (fun (i:Nat)=>Pl.const (uo (((c,m) :: r).filter fun x=>decide (x.2.get (n+1:Nat)=Int.ofNat i)))) _ fun i _=>?_) (ybv (fun x=>x.2.get (n+1:Nat)) _ _);rw [Pl.const_nr,Int.natAbs_natCast];exact ih _
theorem xc0 (E n:Nat):∀ l:Sp,(∀ x ∈ l,x.2.le E)->(bld n l).ex E:=by
 induction n with
 | zero =>
   intro l _;cases l with
   | nil=>simp [bld,Pl.zero,Pl.ex]
   | cons x r=>obtain ⟨c,m⟩:=x; simp [bld,Pl.const,Pl.ex]
 | succ n ih =>
   intro l hl;cases l with
   | nil=>simp [bld,Pl.zero,Pl.ex]
   | cons x r =>
     obtain ⟨c,m⟩:=x;rw [bld]
     split
     · exact ih _ hl
     · rw [Pl.ex];have hg:m.get ((n+1:Nat):Int)<=E:=(hl (c,m) (by simp)).get ((n+1:Nat):Int);refine .inr ⟨by rw [List.length_map,List.length_range]; omega,gbr fun p hp=>?_⟩;obtain ⟨i,-,rfl⟩:=List.mem_map.1 hp;exact ih _ (fun x hx=>hl x (List.mem_filter.1 hx).1)
theorem Pl.ofS_ex {E:Nat} {l:Sp} (h:∀ x ∈ l,x.2.le E):(Pl.ofS l).ex E:=xc0 E 4 _ fun x hx=>by
 obtain ⟨-,y,hy,e⟩:=yah hx;rw [<- e];exact h y hy
theorem Pl.ofS_nr (l:Sp):(Pl.ofS l).nr<=uo l:=Nat.le_trans (yc0 4 _) (wb2 l)
theorem Pl.ex_sz (E:Nat) (n:Nat):∀ p:Pl,p.Can->p.ex E->p.lv<=n->p.sz<=(E+2) ^ n:=by
 induction n with
 | zero =>
   intro p hc h hl;obtain ⟨l,ng,d,cs⟩:=p;unfold Pl.Can at hc
   change l<=0 at hl
   rcases hc with hc | hc
   · rw [hc.2.1,Pl.sz,wad]; simp
   · omega
 | succ n ih =>
   intro p hc h hl;obtain ⟨l,ng,d,cs⟩:=p
   change l<=((n+1:Nat):Int) at hl
   by_cases h1:l<=0
   · unfold Pl.Can at hc;rcases hc with hc | hc
     · rw [hc.2.1,Pl.sz,wad]; exact Nat.pow_pos (by omega)
     · omega
   · obtain ⟨-,hk⟩:=Pl.can_kids hc h1;rw [Pl.ex] at h;have h:=h.resolve_left h1;have key:∀ ks:List Pl,(∀ c ∈ ks,c.sz<=(E+2) ^ n)->wad ks<=ks.length * (E+2) ^ n:=by
      intro ks
      induction ks with
      | nil=>simp [wad]
      | cons y r ihr =>
        intro hh;have h1:=hh y (by simp);have h2:=ihr fun z hz=>hh z (by simp [hz])
        rw [wad,List.length_cons,Nat.add_mul];omega
     have h2:=key cs fun c hcm=>ih c (hk.mem c hcm).2 (za6 h.2 c hcm) (by have:=(hk.mem c hcm).1; omega)
     have h3:cs.length * (E+2) ^ n<=(E+1) * (E+2) ^ n:=Nat.mul_le_mul_right _ h.1;have h4:(E+2) ^ (n+1)=(E+1) * (E+2) ^ n+(E+2) ^ n:=by rw [Nat.pow_succ,Nat.mul_comm,<- Nat.succ_mul]
     have h5:0 < (E+2) ^ n:=Nat.pow_pos (by omega);rw [Pl.sz];omega
mutual
theorem Pl.nr_dm (D : Nat) : ∀ p : Pl, p.Can -> p.nr < B32 ^ D -> p.dm <= D
 | .mk l n d cs,hc,h=>by
   unfold Pl.Can at hc;rw [Pl.nr] at h;rw [Pl.dm];rcases hc with hc | hc
   · rw [if_pos (by omega),uq] at h;rw [hc.2.1,gao,hc.2.2.1];have:=zh h;omega
   · rw [if_neg (by omega)] at h;have:=ubr D cs l hc.2.2.2.2.2.1 h;rw [hc.2.2.2.1,List.length_nil];omega
theorem ubr (D : Nat) : ∀ (cs : List Pl) (l : Int), ku l cs -> wab cs < B32 ^ D -> gao cs <= D
 | [],_,_,_=>by rw [gao]; omega
 | c :: r,l,hc,h=>by
   unfold ku at hc;rw [wab] at h;rw [gao];have h1:=Pl.nr_dm D c hc.2.1 (by omega);have h2:=ubr D r l hc.2.2 (by omega);omega
end
structure Fit (p : Pl) (E D : Nat) : Prop where
 can:p.Can
 ex:p.ex E
 nr:p.nr < B32 ^ D
namespace Fit
variable {p q:Pl} {E D F G:Nat}
theorem sz (h:Fit p E D):p.sz<=(E+2) ^ 4:=Pl.ex_sz E 4 p h.can h.ex h.can.lv_nonneg.2
theorem dm (h:Fit p E D):p.dm<=D:=Pl.nr_dm D p h.can h.nr
theorem mono (h:Fit p E D) (hE:E<=F) (hD:D<=G):Fit p F G:=⟨h.can,Pl.ex_mono hE p h.ex,Nat.lt_of_lt_of_le h.nr (Nat.pow_le_pow_right (by decide) hD)⟩
theorem exps (h:Fit p E D):∀ x ∈ p.terms Mo.one,x.2.le E:=Pl.terms_ex E p Mo.one h.can h.ex (by unfold Mo.le Mo.one; simp) (fun i h0 h4=>by unfold Mo.one Mo.get; split <;> (try split) <;> (try split) <;> rfl)
theorem nrm (h:Fit p E D):uo (p.terms Mo.one)=p.nr:=Pl.terms_nr p _ h.can
theorem kid {l:Int} {n:Bool} {d:List Nat} {cs:List Pl} (h:Fit (.mk l n d cs) E D) (hl:0 < l) {c:Pl} (hc:c ∈ cs):Fit c E D:=by
 obtain ⟨h1,h2,h3⟩:=h;obtain ⟨-,hk⟩:=Pl.can_kids h1 (by omega);rw [Pl.ex] at h2;rw [Pl.nr,if_neg (by omega)] at h3;have:=wbj hc;exact ⟨(hk.mem c hc).2,za6 (h2.resolve_left (by omega)).2 c hc,by omega⟩
theorem len {l:Int} {n:Bool} {d:List Nat} {cs:List Pl} (h:Fit (.mk l n d cs) E D) (hl:0 < l):cs.length<=E+1:=by
 have h2:=h.ex;rw [Pl.ex] at h2;exact (h2.resolve_left (by omega)).1
theorem const {z:Int} (h:z.natAbs < B32 ^ D):Fit (Pl.const z) E D:=⟨xae z,by unfold Pl.const; rw [Pl.ex]; exact .inl (Int.le_refl _),by rw [Pl.const_nr]; exact h⟩
theorem zero:Fit Pl.zero E D:=⟨Pl.zero_can,by unfold Pl.zero; rw [Pl.ex]; exact .inl (Int.le_refl _),by unfold Pl.zero; rw [Pl.nr,if_pos (Int.le_refl _)]; exact Nat.pow_pos (by decide)⟩
theorem add (h:Fit p E D) (k:Fit q F G):Fit (p.add q) (max E F) (max D G+1):=by
 refine ⟨Pl.add_can p q,Pl.ofS_ex fun x hx=>?_,?_⟩
 · rcases List.mem_append.1 hx with hx | hx
   · exact (h.exps x hx).mono (by omega)
   · exact (k.exps x hx).mono (by omega)
 · have h1:=Pl.ofS_nr (p.terms Mo.one ++ q.terms Mo.one);rw [yaq,h.nrm,k.nrm] at h1;have h2:B32 ^ D<=B32 ^ max D G:=Nat.pow_le_pow_right (by decide) (by omega);have h3:B32 ^ G<=B32 ^ max D G:=Nat.pow_le_pow_right (by decide) (by omega);have h4:=h.nr;have h5:=k.nr;unfold Pl.add;rw [Nat.pow_succ];have h6:B32 ^ max D G * 2<=B32 ^ max D G * B32:=Nat.mul_le_mul_left _ (by decide);omega
theorem mul (h:Fit p E D) (k:Fit q F G):Fit (p.mul q) (E+F) (D+G):=by
 refine ⟨Pl.mul_can p q,Pl.ofS_ex fun x hx=>?_,?_⟩
 · obtain ⟨y,hy,z,hz,rfl⟩:=ja5 hx;exact Mo.mul_le (h.exps y hy) (k.exps z hz)
 · have h1:=Pl.ofS_nr (zan (p.terms Mo.one) (q.terms Mo.one));rw [ubi,h.nrm,k.nrm] at h1;unfold Pl.mul;rw [Nat.pow_add];refine Nat.lt_of_le_of_lt h1 (Nat.mul_lt_mul_of_lt_of_le h.nr (Nat.le_of_lt k.nr) (Nat.pow_pos (by decide)))
end Fit
end Go.Proofs.YtheefiaoimbeiaaGreatDoor

/- Polynomials in four variables, plain: how sums and products lie level by level. No program in sight. -/
namespace Go.Proofs.YtheefiaoimbeiaaGreatDoor
theorem Pl.mul_zero {p q:Pl} (hp:p.Can) (hq:q.Can) (h:∀ ρ,p.val ρ * q.val ρ=0):p=Pl.zero\/q=Pl.zero:=by
 obtain ⟨E,hE⟩:=Mo.le_sup (gy (p.terms Mo.one) ++ gy (q.terms Mo.one));have key:∀ r:Pl,r.Can->(∀ x ∈ gy (r.terms Mo.one),x.2.le E)->r ≠ Pl.zero->∀ B,uo (gy (r.terms Mo.one))+1<=B->r.val (kro (E+1) B) ≠ 0:=by
  intro r hr hle hne B hB h0;rw [<- Pl.terms_sval,<- kaz _ (jal r.terms_one_nonneg),vbh] at h0;refine vbs (vaj _) (fun x hx=>(yah hx).1) E hle B hB (fun e=>hne ?_) (by exact_mod_cast h0);rw [<- Pl.nf_of_can hr];unfold Pl.nf Pl.ofS;rw [e]
  rfl
 by_cases h1:p=Pl.zero
 · exact .inl h1
 by_cases h2:q=Pl.zero
 · exact .inr h2
 exfalso
 have h3:=h (kro (E+1) (uo (gy (p.terms Mo.one))+uo (gy (q.terms Mo.one))+1));rcases Rat.mul_eq_zero.1 h3 with h4 | h4
 · exact key p hp (fun x hx=>hE x (List.mem_append_left _ hx)) h1 _ (by omega) h4
 · exact key q hq (fun x hx=>hE x (List.mem_append_right _ hx)) h2 _ (by omega) h4
theorem Pl.mul_eq_zero {p q:Pl} (hp:p.Can) (hq:q.Can) (h:p.mul q=Pl.zero):p=Pl.zero\/q=Pl.zero:=
 Pl.mul_zero hp hq fun ρ=>by rw [<- Pl.mul_val,h,Pl.zero_val]
theorem Pl.ofS_lv {l:Sp} {n:Nat} (hn4:n<=4) (hnn:∀ x ∈ l,x.2.nonneg) (h:∀ x ∈ l,∀ i:Nat,n < i->i<=4->x.2.get i=0):(Pl.ofS l).lv<=n:=by
 have hz:∀ i:Nat,0 < i->i<=4->Mo.one.get i=0:=fun i h1 h2=>by
  rcases (show i=1\/i=2\/i=3\/i=4 by omega) with rfl | rfl | rfl | rfl <;> rfl
 have ha:wa9 n Mo.one (gy l):=fun x hx i h1 h2=>by
  obtain ⟨-,y,hy,e⟩:=yah hx;rw [<- e,h y hy i h1 h2,hz i (by omega) h2]
 have hnn':∀ x ∈ gy l,x.2.nonneg:=fun x hx=>(yah hx).1
 obtain ⟨h1,h2⟩:=ybt n hn4 (gy l) Mo.one (vaj l) hnn' ha (fun i hi hin=>hz i hi (by omega));have h3:=ka6 n hn4 (gy l) Mo.one (vaj l) hnn' ha (fun i hi hin=>hz i hi (by omega));have h4:bld n (gy l)=Pl.ofS l:=Pl.can_eq h1 (Pl.ofS_can l) fun k=>by
  rw [h3,Pl.ofS_coef,uaw]
 rw [<- h4];exact h2
theorem Pl.exp_above {p:Pl} (hp:p.Can) {n:Nat} (h:p.lv<=n):∀ x ∈ p.terms Mo.one,∀ i:Nat,n < i->i<=4->x.2.get i=0:=fun x hx i h1 h2=>by
 rw [Pl.terms_above p Mo.one n hp h x hx i h1 h2];rcases (show i=1\/i=2\/i=3\/i=4 by omega) with rfl | rfl | rfl | rfl <;> rfl
theorem Mo.get_mul (m n:Mo) (i:Int):(m.mul n).get i=m.get i+n.get i:=by
 unfold Mo.mul Mo.get
 split <;> (try split) <;> (try split) <;> rfl
theorem Pl.mul_lv {p q:Pl} (hp:p.Can) (hq:q.Can) {n:Int} (h1:p.lv<=n) (h2:q.lv<=n) (hn:n<=4):(p.mul q).lv<=n:=by
 have h0:=hp.lv_nonneg.1;obtain ⟨k,rfl⟩:∃ k:Nat,n=k:=⟨n.toNat,by omega⟩;refine Pl.ofS_lv (by omega) (ka3 p.terms_one_nonneg q.terms_one_nonneg) fun x hx i hi hi4=>?_
 obtain ⟨y,hy,z,hz,rfl⟩:=ja5 hx;rw [Mo.get_mul,Pl.exp_above hp h1 y hy i hi hi4,Pl.exp_above hq h2 z hz i hi hi4]
 rfl
theorem Pl.mul_comm (p q:Pl):p.mul q=q.mul p:=Pl.val_uniq (Pl.mul_can _ _) (Pl.mul_can _ _) fun ρ=>by rw [Pl.mul_val,Pl.mul_val]; grind
theorem Pl.mul_zero_l (p:Pl):Pl.zero.mul p=Pl.zero:=Pl.zero_of_val (Pl.mul_can _ _) fun ρ=>by rw [Pl.mul_val,Pl.zero_val]; grind
theorem Pl.mul_zero_r (p:Pl):p.mul Pl.zero=Pl.zero:=by rw [Pl.mul_comm,Pl.mul_zero_l]
theorem Pl.const_mul (a b:Int):(Pl.const a).mul (Pl.const b)=Pl.const (a * b):=Pl.val_uniq (Pl.mul_can _ _) (xae _) fun ρ=>by
 rw [Pl.mul_val,Pl.const_val,Pl.const_val,Pl.const_val]; push_cast; rfl
theorem gav {p:Pl} (h:p.Can) (hl:p.lv=0):p=Pl.const p.z:=by
 obtain ⟨l,n,d,cs⟩:=p
 change l=0 at hl
 subst hl;unfold Pl.Can at h;rcases h with ⟨-,rfl,hd,hn⟩ | h
 · show _=Pl.const (sgn n (val d));unfold Pl.const;rw [uq,<- hd]
   congr 1
   cases n
   · simp [sgn]
   · have h1:d ≠ []:=fun e=>by have:=hn e; cases this
     have h2:val d ≠ 0:=fun e=>h1 (by rw [hd,e,jm])
     simp only [sgn];simp;omega
 · omega
theorem xb4 (ρ:Int->Rat) (l:Int) (f:Pl->Pl) (r:Rat) (cs:List Pl) (h:∀ c ∈ cs,(f c).val ρ=c.val ρ * r):uf ρ l (cs.map f)=uf ρ l cs * r:=by
 induction cs with
 | nil=>simp [uf]
 | cons x cs ih =>
   simp only [List.map_cons,uf];rw [h x (by simp),ih fun c hc=>h c (by simp [hc])]
   grind
theorem Pl.mk_val (ρ:Int->Rat) {l:Int} (n:Bool) (d:List Nat) (cs:List Pl) (h0:0 < l) (h4:l<=4):(Pl.mk l n d cs).val ρ=uf ρ l cs:=by
 rw [Pl.val,if_neg (by omega),if_neg (by omega)]
theorem ya0 {l:Int} {cs:List Pl} (h0:0 < l) (h4:l<=4) (h2:2<=cs.length) (hk:ku l cs) (hz:cs.getLast? ≠ some Pl.zero):(Pl.mk l false [] cs).Can:=by
 unfold Pl.Can;exact .inr ⟨by omega,h4,rfl,rfl,h2,hk,hz⟩
theorem Pl.mul_up {l:Int} {n:Bool} {d:List Nat} {cs:List Pl} {q:Pl} (hp:(Pl.mk l n d cs).Can) (hq:q.Can) (hl:q.lv < l) (hz:q ≠ Pl.zero):(Pl.mk l n d cs).mul q=.mk l false [] (cs.map fun c=>c.mul q):=by
 have hl0:0 < l:=by have:=hq.lv_nonneg.1; omega
 obtain ⟨rfl,rfl,h2,hk,hlast⟩:=hp.kids hl0;have hl4:l<=4:=hp.lv_nonneg.2;refine Pl.val_uniq (Pl.mul_can _ _) (ya0 hl0 hl4 (by rw [List.length_map]; exact h2) (jah fun c hc=>?_) ?_) fun ρ=>?_
 · obtain ⟨c',hc',rfl⟩:=List.mem_map.1 hc;have h3:=hk.mem c' hc';have:=Pl.mul_lv (n:=l - 1) h3.2 hq (by omega) (by omega) (by omega);exact ⟨by omega,Pl.mul_can _ _⟩
 · rw [List.getLast?_map];intro e;obtain ⟨c,hc,he⟩:=Option.map_eq_some_iff.1 e;rcases Pl.mul_eq_zero (hk.mem c (List.mem_of_getLast? hc)).2 hq he with h | h
   · rw [h] at hc; exact hlast hc
   · exact hz h
 · rw [Pl.mul_val,Pl.mk_val ρ _ _ _ hl0 hl4,Pl.mk_val ρ _ _ _ hl0 hl4,xb4 ρ l _ (q.val ρ) cs fun c _=>Pl.mul_val ρ c q]
theorem Pl.mul_up_ {p q:Pl} (hp:p.Can) (hq:q.Can) (hl:q.lv < p.lv) (hz:q ≠ Pl.zero):p.mul q=.mk p.lv false [] (p.cs.map fun c=>c.mul q):=by
 obtain ⟨l,n,d,cs⟩:=p;exact Pl.mul_up hp hq hl hz
def vw : List Pl -> List Pl
 | []=>[]
 | c :: r=>if c.isZ=true/\vw r=[] then [] else c :: vw r
def xaf (l:Int) (cs:List Pl):Pl:=
 match vw cs with
 | []=>Pl.zero
 | [c]=>c
 | c :: d :: r=>.mk l false [] (c :: d :: r)
theorem qbo {a:List Pl} {x:Pl} (h:x.isZ=true):vw (a ++ [x])=vw a:=by
 induction a with
 | nil=>simp [vw,h]
 | cons y a ih=>rw [List.cons_append,vw,vw,ih]
theorem ub2 {a:List Pl} {x:Pl} (h:x.isZ=false):vw (a ++ [x])=a ++ [x]:=by
 induction a with
 | nil=>simp [vw,h]
 | cons y a ih=>rw [List.cons_append,vw,ih,if_neg (by simp)]
theorem qa5 {l:Int} {cs:List Pl} {n:Nat} (hn:n<=cs.length) (h:vw cs=cs.take n):xaf l cs=if n=0 then Pl.zero else if h1:n=1/\0 < cs.length then cs[0]'h1.2 else .mk l false [] (cs.take n):=by
 unfold xaf;rw [h]
 match n,cs,hn with
 | 0,cs,_=>simp
 | 1,x :: cs,_=>simp
 | n+2,x :: y :: cs,_=>simp
theorem wbu {cs:List Pl} {c:Pl} (h:c ∈ vw cs):c ∈ cs:=by
 induction cs with
 | nil=>exact h
 | cons x cs ih =>
   rw [vw] at h
   split at h
   · cases h
   · rcases List.mem_cons.1 h with rfl | h
     · exact List.mem_cons_self ..
     · exact List.mem_cons_of_mem _ (ih h)
theorem jbo {cs:List Pl} (hc:∀ c ∈ cs,c.Can):(vw cs).getLast? ≠ some Pl.zero:=by
 induction cs with
 | nil=>simp [vw]
 | cons x cs ih =>
   rw [vw]
   split
   · simp
   · rename_i h;intro e
     by_cases h1:vw cs=[]
     · rw [h1] at e;have e1:x=Pl.zero:=by simpa using e
       exact h ⟨(Pl.zero_isZ (hc x (by simp))).2 e1,h1⟩
     · obtain ⟨y,r,hr⟩:=List.exists_cons_of_ne_nil h1;rw [hr,List.getLast?_cons_cons,<- hr] at e;exact ih (fun c hcm=>hc c (by simp [hcm])) e
theorem gbu (ρ:Int->Rat) (l:Int) {cs:List Pl} (hc:∀ c ∈ cs,c.Can):uf ρ l (vw cs)=uf ρ l cs:=by
 induction cs with
 | nil=>rfl
 | cons x cs ih =>
   have h1:=ih fun c hcm=>hc c (by simp [hcm])
   rw [vw]
   split
   · rename_i h;rw [uf,uf,<- h1,h.2,(Pl.zero_isZ (hc x (by simp))).1 h.1,Pl.zero_val,uf]
     grind
   · rw [uf,uf,h1]
theorem zbd {l:Int} {cs:List Pl} (h0:0 < l) (h4:l<=4) (hk:ku l cs):(xaf l cs).Can/\(xaf l cs).lv<=l/\∀ ρ,(xaf l cs).val ρ=uf ρ l cs:=by
 have hc:∀ c ∈ cs,c.Can:=fun c hcm=>(hk.mem c hcm).2
 have hlast:=jbo hc;have hval:=fun ρ=>gbu ρ l hc
 have hmem:∀ c ∈ vw cs,c.lv < l/\c.Can:=fun c hcm=>hk.mem c (wbu hcm)
 unfold xaf
 split
 · rename_i e;rw [e] at hval;exact ⟨Pl.zero_can,by show (0:Int)<=l; omega,fun ρ=>by rw [<- hval ρ,Pl.zero_val,uf]⟩
 · rename_i c e;rw [e] at hval hmem;have h1:=hmem c (by simp);exact ⟨h1.2,by omega,fun ρ=>by rw [<- hval ρ,uf,uf]; grind⟩
 · rename_i c d r e;rw [e] at hval hmem hlast;exact ⟨ya0 h0 h4 (by simp) (jah hmem) hlast,Int.le_refl _,fun ρ=>by rw [<- hval ρ,Pl.mk_val ρ _ _ _ h0 h4]⟩
end Go.Proofs.YtheefiaoimbeiaaGreatDoor

/- Maps from monomials (arrays of four numbers) to values: what a block that is such a map holds, and what reading and writing it does. -/
namespace Go.Proofs.YtheefiaoimbeiaaGreatDoor
open Go.RowKit
end Go.Proofs.YtheefiaoimbeiaaGreatDoor
