/- The recursive form of a canonical sum, plain. -/
import Derived.Test.YtaedbimbbeploaaGreatDoorMb5
set_option linter.unusedSimpArgs false
set_option linter.unusedVariables false
namespace Go.Proofs.YtaedbimbbeploaaGreatDoor
def Pl.zero:Pl:=.mk 0 false [] []
def Pl.const (z:Int):Pl:=.mk 0 (decide (z < 0)) (dg z.natAbs) []
theorem Pl.const_terms (z:Int) (m:Mo):(Pl.const z).terms m=[(z,m)]:=by
 rw [Pl.const,Pl.terms,if_pos (by omega),zi,ual]
def bld : Nat -> Sp -> Pl
 | _,[]=>Pl.zero
 | 0,(c,_) :: _=>Pl.const c
 | n+1,(c,m) :: r=>if m.get (n+1:Nat)=0 then bld n ((c,m) :: r) else .mk (n+1:Nat) false [] ((List.range ((m.get (n+1:Nat)).toNat+1)).map fun (i:Nat)=>bld n (((c,m) :: r).filter fun x=>decide (x.2.get (n+1:Nat)=Int.ofNat i)))
def ka3 (n:Nat) (m:Mo) (l:Sp):Prop:=∀ x ∈ l,∀ i:Nat,n < i->i<=4->x.2.get i=m.get i
theorem Mo.get_all {m k:Mo} (h:∀ i:Nat,0 < i->i<=4->m.get i=k.get i):m=k:=by
 have h1:=h 1 (by omega) (by omega);have h2:=h 2 (by omega) (by omega);have h3:=h 3 (by omega) (by omega);have h4:=h 4 (by omega) (by omega);simp [Mo.get] at h1 h2 h3 h4;exact Mo.ext_ h1 h2 h3 h4
theorem Mo.get_put (m:Mo) (i:Nat) (e:Int) (h1:0 < i) (h2:i<=4) (j:Nat) (h3:0 < j) (h4:j<=4):(m.put i e).get j=if j=i then e else m.get j:=by
 rcases (show i=1\/i=2\/i=3\/i=4 by omega) with rfl | rfl | rfl | rfl <;> rcases (show j=1\/j=2\/j=3\/j=4 by omega) with rfl | rfl | rfl | rfl <;> simp [Mo.put,Mo.get]
theorem Mo.lt_get {x m:Mo} {n:Nat} (hn:0 < n) (hn4:n<=4) (h:x.lt m) (ha:∀ i:Nat,n < i->i<=4->x.get i=m.get i):x.get n<=m.get n:=by
 unfold Mo.lt at h;have h2:=ha 2;have h3:=ha 3;have h4:=ha 4;rcases (show n=1\/n=2\/n=3\/n=4 by omega) with rfl | rfl | rfl | rfl <;> simp [Mo.get] at h2 h3 h4 ⊢ <;> omega
theorem kaa.filter {l:Sp} (h:kaa l) (f:Int × Mo->Bool):kaa (l.filter f):=by
 induction l with
 | nil=>exact trivial
 | cons x l ih =>
   obtain ⟨c,m⟩:=x;rw [List.filter_cons]
   split
   · exact ⟨h.1,fun y hy=>h.2.1 y (List.mem_filter.1 hy).1,ih h.2.2⟩
   · exact ih h.2.2
theorem yb0 (l:Sp) (m:Mo) (f g k:Int × Mo->Bool) (h:∀ x ∈ l,k x=(f x || g x)) (hd:∀ x ∈ l,¬ (f x=true/\g x=true)):qc (l.filter k) m=qc (l.filter f) m+qc (l.filter g) m:=by
 induction l with
 | nil=>rfl
 | cons x l ih =>
   have ihl:=ih (fun y hy=>h y (by simp [hy])) (fun y hy=>hd y (by simp [hy]));have hk:=h x (by simp);have hx:=hd x (by simp);rw [List.filter_cons,List.filter_cons,List.filter_cons];cases hf:f x <;> cases hg:g x <;> rw [hf,hg] at hk <;> simp only [Bool.or_false,Bool.or_true,Bool.true_or,Bool.false_or] at hk <;> rw [hk] <;> simp only [if_true,Bool.false_eq_true,if_false,qc]
   · exact ihl
   · rw [ihl]; omega
   · rw [ihl]; omega
   · exact absurd ⟨hf,hg⟩ hx
theorem za7 (l:Sp) (m:Mo) (f:Int × Mo->Bool) (h:∀ x ∈ l,f x=true):l.filter f=l:=List.filter_eq_self.2 h
theorem ya8 (n:Nat) (hn:n<=4):∀ (l:Sp) (m:Mo),kaa l->(∀ x ∈ l,x.2.nonneg)->ka3 n m l->(∀ i:Nat,0 < i->i<=n->m.get i=0)->∀ k,qc ((bld n l).terms m) k=qc l k:=by
 induction n with
 | zero =>
   intro l m hl hnn ha _ k;cases l with
   | nil=>simp [bld,Pl.zero,Pl.terms,qc,sgn,val]
   | cons x r =>
     obtain ⟨c,m'⟩:=x;have hm:m'=m:=Mo.get_all (fun i h1 h2=>ha (c,m') (by simp) i h1 h2);subst hm;have hr:r=[]:=by
      cases r with
      | nil=>rfl
      | cons y r =>
        have h1:=hl.2.1 y (by simp);have h2:y.2=m':=Mo.get_all (fun i h1 h2=>ha y (by simp) i h1 h2);rw [h2] at h1;exact absurd h1 (Mo.lt_irrefl _)
     subst hr;rw [bld,Pl.const_terms]
 | succ n ih =>
   intro l m hl hnn ha hz k;cases l with
   | nil=>simp [bld,Pl.zero,Pl.terms,qc,sgn,val]
   | cons x r =>
     obtain ⟨c,m'⟩:=x;have htop:∀ y ∈ ((c,m') :: r:Sp),y.2.get (n+1:Nat)<=m'.get (n+1:Nat):=by
      intro y hy;rcases List.mem_cons.1 hy with rfl | hy'
      · exact Int.le_refl _
      · exact Mo.lt_get (by omega) (by omega) (hl.2.1 y hy') (fun i h1 h2=>(ha y hy i (by omega) h2).trans (ha (c,m') (by simp) i (by omega) h2).symm)
     have hlow:∀ y ∈ ((c,m') :: r:Sp),0<=y.2.get (n+1:Nat):=by
      intro y hy;have:=hnn y hy;unfold Mo.nonneg at this;unfold Mo.get
      split <;> (try split) <;> (try split) <;> omega
     rw [bld]
     by_cases h0:m'.get (n+1:Nat)=0
     · rw [if_pos h0];refine ih (by omega) _ m hl hnn (fun y hy i h1 h2=>?_) (fun i h1 h2=>hz i h1 (by omega)) k
       by_cases hi:i=n+1
       · subst hi;rw [hz (n+1) (by omega) (by omega)];have h1:=htop y hy;have h2:=hlow y hy;omega
       · exact ha y hy i (by omega) h2
     · rw [if_neg h0];have hg0:m.get (n+1:Nat)=0:=hz (n+1) (by omega) (by omega);rw [Pl.terms,if_neg (by omega),if_neg (by omega),hg0];generalize hL:((c,m') :: r:Sp)=L at *;have key:∀ (cnt e:Nat),qc (yc m (n+1:Nat) (e:Int) ((List.range' e cnt).map fun (i:Nat)=>bld n (L.filter fun x=>decide (x.2.get (n+1:Nat)=Int.ofNat i)))) k=qc (L.filter fun x=>decide ((e:Int)<=x.2.get (n+1:Nat)) && decide (x.2.get (n+1:Nat) < (e:Int)+cnt)) k:=by
        intro cnt
        induction cnt with
        | zero =>
          intro e;have:(L.filter fun x=>decide ((e:Int)<=x.2.get (n+1:Nat)) && decide (x.2.get (n+1:Nat) < (e:Int)+(0:Nat)))=[]:=List.filter_eq_nil_iff.2 (fun x _=>by simp);rw [this]; rfl
        | succ cnt ihc =>
          intro e;rw [List.range'_succ,List.map_cons,yc,zan];have e1:((e:Int)+1)=((e+1:Nat):Int):=by omega
          rw [e1,ihc (e+1)];rw [ih (by omega) _ (m.put (n+1:Nat) e) (hl.filter _) (fun x hx=>hnn x (List.mem_filter.1 hx).1) (fun x hx i h1 h2=>?_) (fun i h1 h2=>?_)]
          · refine (yb0 L k _ _ _ (fun x _=>?_) (fun x _=>?_)).symm
            · simp only [<- Bool.decide_and,<- Bool.decide_or,decide_eq_decide,Int.ofNat_eq_natCast];omega
            · simp only [Bool.and_eq_true,decide_eq_true_eq,Int.ofNat_eq_natCast];omega
          · obtain ⟨hx1,hx2⟩:=List.mem_filter.1 hx;rw [Mo.get_put m (n+1) e (by omega) (by omega) i (by omega) h2]
            by_cases hi:i=n+1
            · rw [if_pos hi,hi]; simpa using hx2
            · rw [if_neg hi]; exact ha x hx1 i (by omega) h2
          · rw [Mo.get_put m (n+1) e (by omega) (by omega) i h1 (by omega),if_neg (by omega)];exact hz i h1 (by omega)
       have h1:=key ((m'.get (n+1:Nat)).toNat+1) 0;rw [<- List.range_eq_range'] at h1;refine Eq.trans h1 ?_;rw [za7 L k _ (fun x hx=>?_)];have h2:=htop x hx;have h3:=hlow x hx;simp only [Bool.and_eq_true,decide_eq_true_eq];omega
/- Canonical recursive polynomials are known by their coefficients. -/
mutual
def Pl.Can : Pl -> Prop
 | .mk l n d cs=>(l=0/\cs=[]/\d=dg (val d)/\(d=[]->n=false))\/(1<=l/\l<=4/\n=false/\d=[]/\2<=cs.length/\zt l cs/\cs.getLast? ≠ some Pl.zero)
def zt (l : Int) : List Pl -> Prop
 | []=>True
 | c :: r=>c.lv < l/\c.Can/\zt l r
end
theorem zt.mem {l : Int} : ∀ {cs : List Pl}, zt l cs -> ∀ c ∈ cs, c.lv < l /\ c.Can
 | c :: r,h,x,hx=>by
   unfold zt at h;rcases List.mem_cons.1 hx with rfl | hx
   · exact ⟨h.1,h.2.1⟩
   · exact zt.mem h.2.2 x hx
theorem Pl.zero_can:Pl.zero.Can:=by unfold Pl.zero Pl.Can; left; exact ⟨rfl,rfl,by simp [val,qm],fun _=>rfl⟩
theorem Pl.Can.lv_nonneg {p:Pl} (h:p.Can):0<=p.lv/\p.lv<=4:=by
 cases p with
 | mk l n d cs=>unfold Pl.Can at h; show 0<=l/\l<=4; rcases h with h | h <;> omega
mutual
theorem Pl.terms_above : ∀ (p : Pl) (m : Mo) (n : Nat), p.Can -> p.lv <= n -> ∀ x ∈ p.terms m, ∀ i : Nat, n < i -> i <= 4 -> x.2.get i = m.get i
 | .mk l ng d cs,m,n,h,hl,x,hx,i,h1,h2=>by
   rw [Pl.terms] at hx;unfold Pl.Can at h
   change l<=n at hl
   by_cases h0:l<=0
   · rw [if_pos h0] at hx;rw [(List.mem_singleton.1 hx)]
   · rw [if_neg h0] at hx
     by_cases h4:4 < l
     · rw [if_pos h4] at hx; cases hx
     · rw [if_neg h4] at hx;rcases h with h | h
       · omega
       · exact xaz cs m l (m.get l) n h.2.2.2.2.2.1 (by omega) (by omega) hl x hx i h1 h2
theorem xaz : ∀ (cs : List Pl) (m : Mo) (l e : Int) (n : Nat), zt l cs -> 0 < l -> l <= 4 -> l <= n -> ∀ x ∈ yc m l e cs, ∀ i : Nat, n < i -> i <= 4 -> x.2.get i = m.get i
 | [],m,l,e,n,h,hl0,hl4,hl,x,hx,i,h1,h2=>by rw [yc] at hx; cases hx
 | c :: r,m,l,e,n,h,hl0,hl4,hl,x,hx,i,h1,h2=>by
   rw [yc] at hx;unfold zt at h;rcases List.mem_append.1 hx with hx | hx
   · obtain ⟨ln,rfl⟩:∃ ln:Nat,l=ln:=⟨l.toNat,by omega⟩;rw [Pl.terms_above c _ n h.2.1 (by omega) x hx i h1 h2,Mo.get_put m ln e (by omega) (by omega) i (by omega) h2,if_neg (by omega)]
   · exact xaz r m l (e+1) n h.2.2 hl0 hl4 hl x hx i h1 h2
end
theorem qan (m : Mo) (l : Nat) (hl0 : 0 < l) (hl4 : l <= 4) (k : Mo) : ∀ (cs : List Pl) (e : Int), zt l cs -> qc (yc m l e cs) k = if h : e <= k.get l /\ (k.get l - e).toNat < cs.length then qc ((cs[(k.get l - e).toNat]'h.2).terms (m.put l (k.get l))) k else 0
 | [],e,_=>by rw [yc,dif_neg (by simp)]; rfl
 | c :: r,e,h=>by
   unfold zt at h;have hz:∀ (c:Pl) (e:Int),c.lv < l->c.Can->k.get l ≠ e->qc (c.terms (m.put l e)) k=0:=by
    intro c e hc1 hc2 hne;refine xad fun x hx he=>hne ?_
    have:=Pl.terms_above c (m.put l e) (l - 1) hc2 (by omega) x hx l (by omega) hl4;rw [he,Mo.get_put m l e hl0 hl4 l hl0 hl4,if_pos rfl] at this;exact this
   rw [yc,zan,qan m l hl0 hl4 k r (e+1) h.2.2]
   by_cases he:k.get l=e
   · rw [dif_neg (by omega),dif_pos (by constructor; omega; simp; omega)];have h0:(k.get l - e).toNat=0:=by omega
     have hc0:∀ (j:Nat) (hj:j < (c :: r).length),j=0->(c :: r)[j]=c:=by intro j hj h; subst h; rfl
     rw [hc0 _ _ h0,he];omega
   · rw [hz c e h.1 h.2.1 he]
     by_cases hlt:e<=k.get l/\(k.get l - e).toNat < (c :: r).length
     · have hs:(k.get l - e).toNat=(k.get l - (e+1)).toNat+1:=by omega
       have hlt':e+1<=k.get l/\(k.get l - (e+1)).toNat < r.length:=by
        have:=hlt.2;simp only [List.length_cons] at this;omega
       rw [dif_pos hlt,dif_pos hlt'];simp only [hs,List.getElem_cons_succ];omega
     · rw [dif_neg hlt,dif_neg (by
        simp only [List.length_cons] at hlt
        omega)]
       rfl
theorem Pl.Can.kids {l:Int} {n:Bool} {d:List Nat} {cs:List Pl} (h:(Pl.mk l n d cs).Can) (hl:0 < l):n=false/\d=[]/\2<=cs.length/\zt l cs/\cs.getLast? ≠ some Pl.zero:=by
 unfold Pl.Can at h;rcases h with h | h
 · omega
 · exact h.2.2
theorem Pl.zero_coef (m k:Mo):qc (Pl.zero.terms m) k=0:=by simp [Pl.zero,Pl.terms,qc,sgn,val]
theorem xcn (n:Nat) (hn:n<=4):∀ (p p':Pl) (m:Mo),p.Can->p'.Can->p.lv<=n->p'.lv<=n->(∀ i:Nat,0 < i->i<=n->m.get i=0)->(∀ k,qc (p.terms m) k=qc (p'.terms m) k)->p=p':=by
 induction n with
 | zero =>
   intro p p' m h h' hl hl' _ he;obtain ⟨l,ng,d,cs⟩:=p;obtain ⟨l',ng',d',cs'⟩:=p';unfold Pl.Can at h h'
   change l<=(0:Nat) at hl
   change l'<=(0:Nat) at hl'
   rcases h with ⟨rfl,rfl,hd,hng⟩ | h
   · rcases h' with ⟨rfl,rfl,hd',hng'⟩ | h'
     · have e1:=he m;simp only [Pl.terms,if_pos (show (0:Int)<=0 by omega),qc,if_true,Int.add_zero] at e1;have hv:val d=val d':=by
        have:=congrArg Int.natAbs e1;rw [qp,qp] at this;exact this
       have hdd:d=d':=by rw [hd,hv,<- hd']
       subst hdd;have hnn:ng=ng':=by
        by_cases hz:d=[]
        · rw [hng hz,hng' hz]
        · have hvz:val d ≠ 0:=fun e=>hz (by rw [hd,e,qm])
          cases ng <;> cases ng' <;> first | rfl | (exfalso; simp [sgn] at e1; omega)
       rw [hnn]
     · omega
   · omega
 | succ n ih =>
   have low:∀ (p p':Pl) (m:Mo),p.Can->p'.Can->p.lv<=n->p'.lv=(n+1:Nat)->(∀ i:Nat,0 < i->i<=n+1->m.get i=0)->(∀ k,qc (p.terms m) k=qc (p'.terms m) k)->False:=by
    intro p p' m h h' hl hl' hm he;obtain ⟨l',ng',d',cs'⟩:=p'
    change l'=(n+1:Nat) at hl'
    subst hl';obtain ⟨-,-,hlen,hcs,hlast⟩:=h'.kids (by omega);have hL:cs'.length - 1 < cs'.length:=by omega
    have hc:=hcs.mem cs'[cs'.length - 1] (List.getElem_mem hL);apply hlast;rw [List.getLast?_eq_getElem?,List.getElem?_eq_getElem hL]
    congr 1
    refine ih (by omega) _ _ (m.put (n+1:Nat) ((cs'.length - 1:Nat):Int)) hc.2 Pl.zero_can (by omega) (by show (0:Int)<=_; omega) (fun i h1 h2=>?_) (fun k=>?_)
    · rw [Mo.get_put m (n+1) _ (by omega) (by omega) i h1 (by omega),if_neg (by omega)];exact hm i h1 (by omega)
    · rw [Pl.zero_coef]
      by_cases hk:k.get (n+1:Nat)=((cs'.length - 1:Nat):Int)
      · have e1:=he k;rw [xad (l:=p.terms m) (fun x hx e=>by
         have:=Pl.terms_above p m n h hl x hx (n+1) (by omega) (by omega);rw [e,hm (n+1) (by omega) (by omega),hk] at this
         omega)] at e1
        rw [Pl.terms,if_neg (by omega),if_neg (by omega),hm (n+1) (by omega) (by omega),qan m (n+1) (by omega) (by omega) k cs' 0 hcs,dif_pos (by omega)] at e1;have hi:(k.get (n+1:Nat) - 0).toNat=cs'.length - 1:=by omega
        have hc0:∀ (j:Nat) (hj:j < cs'.length),j=cs'.length - 1->cs'[j]=cs'[cs'.length - 1]:=by intro j hj h; subst h; rfl
        rw [hc0 _ _ hi] at e1;rw [<- hk];exact e1.symm
      · refine xad fun x hx e=>hk ?_
        have:=Pl.terms_above cs'[cs'.length - 1] _ n hc.2 (by omega) x hx (n+1) (by omega) (by omega);rw [e,Mo.get_put m (n+1) _ (by omega) (by omega) (n+1) (by omega) (by omega),if_pos rfl] at this;exact this
   intro p p' m h h' hl hl' hm he
   by_cases hp:p.lv=(n+1:Nat)
   · by_cases hp':p'.lv=(n+1:Nat)
     · obtain ⟨l,ng,d,cs⟩:=p;obtain ⟨l',ng',d',cs'⟩:=p'
       change l=(n+1:Nat) at hp
       change l'=(n+1:Nat) at hp'
       subst hp hp';obtain ⟨rfl,rfl,hlen,hcs,hlast⟩:=h.kids (by omega);obtain ⟨rfl,rfl,hlen',hcs',hlast'⟩:=h'.kids (by omega);have hg:m.get (n+1:Nat)=0:=hm (n+1) (by omega) (by omega);have hco:∀ k,qc (yc m (n+1:Nat) 0 cs) k=qc (yc m (n+1:Nat) 0 cs') k:=by
        intro k;have:=he k;rw [Pl.terms,if_neg (by omega),if_neg (by omega),Pl.terms,if_neg (by omega),if_neg (by omega),hg] at this;exact this
       have hput:∀ (i:Nat) (e:Int),0 < i->i<=n->(m.put (n+1:Nat) e).get i=0:=fun i e h1 h2=>by
        rw [Mo.get_put m (n+1) _ (by omega) (by omega) i h1 (by omega),if_neg (by omega)];exact hm i h1 (by omega)
       have hout:∀ (c:Pl) (e:Int) (k:Mo),c.Can->c.lv < (n+1:Nat)->k.get (n+1:Nat) ≠ e->qc (c.terms (m.put (n+1:Nat) e)) k=0:=by
        intro c e k hc1 hc2 hne;refine xad fun x hx he'=>hne ?_
        have:=Pl.terms_above c _ n hc1 (by omega) x hx (n+1) (by omega) (by omega);rw [he',Mo.get_put m (n+1) _ (by omega) (by omega) (n+1) (by omega) (by omega),if_pos rfl] at this;exact this
       have hin:∀ (cs:List Pl) (i:Nat) (hi:i < cs.length) (k:Mo),zt (n+1:Nat) cs->k.get (n+1:Nat)=(i:Int)->qc (yc m (n+1:Nat) 0 cs) k=qc (cs[i].terms (m.put (n+1:Nat) (i:Int))) k:=by
        intro cs i hi k hcs hk;rw [qan m (n+1) (by omega) (by omega) k cs 0 hcs,dif_pos (by omega)];have hi':(k.get (n+1:Nat) - 0).toNat=i:=by omega
        have hc0:∀ (j:Nat) (hj:j < cs.length),j=i->cs[j]=cs[i]:=by intro j hj h; subst h; rfl
        rw [hc0 _ _ hi',hk]
       have hno:∀ (cs:List Pl) (i:Nat) (k:Mo),cs.length<=i->zt (n+1:Nat) cs->k.get (n+1:Nat)=(i:Int)->qc (yc m (n+1:Nat) 0 cs) k=0:=by
        intro cs i k hi hcs hk;rw [qan m (n+1) (by omega) (by omega) k cs 0 hcs,dif_neg (by omega)]
       have nol:∀ (cs cs':List Pl),zt (n+1:Nat) cs->zt (n+1:Nat) cs'->2<=cs.length->cs.getLast? ≠ some Pl.zero->(∀ k,qc (yc m (n+1:Nat) 0 cs) k=qc (yc m (n+1:Nat) 0 cs') k)->cs.length<=cs'.length:=by
        intro cs cs' hcs hcs' hlen hlast hco;rcases Nat.lt_or_ge cs'.length cs.length with hlt | hge
        · exfalso
          apply hlast;have hL:cs.length - 1 < cs.length:=by omega
          rw [List.getLast?_eq_getElem?,List.getElem?_eq_getElem hL]
          congr 1
          have hc:=hcs.mem cs[cs.length - 1] (List.getElem_mem hL);refine ih (by omega) _ _ (m.put (n+1:Nat) ((cs.length - 1:Nat):Int)) hc.2 Pl.zero_can (by omega) (by show (0:Int)<=_; omega) (fun i h1 h2=>hput i _ h1 h2) (fun k=>?_);rw [Pl.zero_coef]
          by_cases hk:k.get (n+1:Nat)=((cs.length - 1:Nat):Int)
          · rw [<- hin cs (cs.length - 1) hL k hcs hk,hco k];exact hno cs' _ k (by omega) hcs' hk
          · exact hout _ _ k hc.2 hc.1 hk
        · exact hge
       have hll:cs.length=cs'.length:=Nat.le_antisymm (nol cs cs' hcs hcs' hlen hlast hco) (nol cs' cs hcs' hcs hlen' hlast' (fun k=>(hco k).symm));have hcc:cs=cs':=by
        refine List.ext_getElem hll fun i hi hi'=>?_
        have hc:=hcs.mem cs[i] (List.getElem_mem hi);have hc':=hcs'.mem cs'[i] (List.getElem_mem hi');refine ih (by omega) _ _ (m.put (n+1:Nat) (i:Int)) hc.2 hc'.2 (by omega) (by omega) (fun j h1 h2=>hput j _ h1 h2) (fun k=>?_)
        by_cases hk:k.get (n+1:Nat)=(i:Int)
        · rw [<- hin cs i hi k hcs hk,<- hin cs' i hi' k hcs' hk]; exact hco k
        · rw [hout _ _ k hc.2 hc.1 hk,hout _ _ k hc'.2 hc'.1 hk]
       rw [hcc]
     · exact (low p' p m h' h (by omega) hp hm (fun k=>(he k).symm)).elim
   · by_cases hp':p'.lv=(n+1:Nat)
     · exact (low p p' m h h' (by omega) hp' hm he).elim
     · exact ih (by omega) p p' m h h' (by omega) (by omega) (fun i h1 h2=>hm i h1 (by omega)) he
theorem Pl.can_eq {p p':Pl} (h:p.Can) (h':p'.Can) (he:∀ k,qc (p.terms Mo.one) k=qc (p'.terms Mo.one) k):p=p':=
 xcn 4 (Nat.le_refl _) p p' Mo.one h h' h.lv_nonneg.2 h'.lv_nonneg.2 (fun i h1 h2=>by
  rcases (show i=1\/i=2\/i=3\/i=4 by omega) with rfl | rfl | rfl | rfl <;> rfl) he
/- The recursive form of a canonical sum is canonical. -/
theorem kad (z:Int):(Pl.const z).Can:=by
 unfold Pl.const Pl.Can
 left
 refine ⟨rfl,rfl,by rw [zi],fun h=>?_⟩;have:z.natAbs=0:=by
  have h1:(dg z.natAbs).length=0:=by rw [h]; rfl
  exact gao h1
 have hz:z=0:=by omega
 rw [hz]; rfl
theorem wag {l : Int} : ∀ {cs : List Pl}, (∀ c ∈ cs, c.lv < l /\ c.Can) -> zt l cs
 | [],_=>by unfold zt; trivial
 | c :: r,h=>by
   unfold zt;exact ⟨(h c (by simp)).1,(h c (by simp)).2,wag (fun x hx=>h x (by simp [hx]))⟩
theorem zby (n:Nat) (hn:n<=4):∀ (l:Sp) (m:Mo),kaa l->(∀ x ∈ l,x.2.nonneg)->ka3 n m l->(∀ i:Nat,0 < i->i<=n->m.get i=0)->(bld n l).Can/\(bld n l).lv<=n:=by
 induction n with
 | zero =>
   intro l m hl hnn ha hz;cases l with
   | nil=>rw [bld]; exact ⟨Pl.zero_can,by show (0:Int)<=_; omega⟩
   | cons x r=>obtain ⟨c,m'⟩:=x; rw [bld]; exact ⟨kad c,by show (0:Int)<=_; omega⟩
 | succ n ih =>
   intro l m hl hnn ha hz;cases l with
   | nil=>rw [bld]; exact ⟨Pl.zero_can,by show (0:Int)<=_; omega⟩
   | cons x r =>
     obtain ⟨c,m'⟩:=x;have htop:∀ y ∈ ((c,m') :: r:Sp),y.2.get (n+1:Nat)<=m'.get (n+1:Nat):=by
      intro y hy;rcases List.mem_cons.1 hy with rfl | hy'
      · exact Int.le_refl _
      · exact Mo.lt_get (by omega) (by omega) (hl.2.1 y hy') (fun i h1 h2=>(ha y hy i (by omega) h2).trans (ha (c,m') (by simp) i (by omega) h2).symm)
     have hlow:∀ y ∈ ((c,m') :: r:Sp),0<=y.2.get (n+1:Nat):=by
      intro y hy;have:=hnn y hy;unfold Mo.nonneg at this;unfold Mo.get
      split <;> (try split) <;> (try split) <;> omega
     rw [bld]
     by_cases h0:m'.get (n+1:Nat)=0
     · rw [if_pos h0];obtain ⟨h1,h2⟩:=ih (by omega) _ m hl hnn (fun y hy i h1 h2=>by
        by_cases hi:i=n+1
        · subst hi;rw [hz (n+1) (by omega) (by omega)];have h1:=htop y hy;have h2:=hlow y hy;omega
        · exact ha y hy i (by omega) h2) (fun i h1 h2=>hz i h1 (by omega))
       exact ⟨h1,by omega⟩
     · rw [if_neg h0];have hpos:0 < m'.get (n+1:Nat):=by have:=hlow (c,m') (by simp); simp only at this; omega
       have hpart:∀ i:Nat,kaa (((c,m') :: r).filter fun x=>decide (x.2.get (n+1:Nat)=Int.ofNat i))/\(∀ x ∈ (((c,m') :: r).filter fun x=>decide (x.2.get (n+1:Nat)=Int.ofNat i)),x.2.nonneg)/\ka3 n (m.put (n+1:Nat) (i:Int)) (((c,m') :: r).filter fun x=>decide (x.2.get (n+1:Nat)=Int.ofNat i))/\(∀ j:Nat,0 < j->j<=n->(m.put (n+1:Nat) (i:Int)).get j=0):=by
        intro i;refine ⟨hl.filter _,fun x hx=>hnn x (List.mem_filter.1 hx).1,fun x hx j h1 h2=>?_,fun j h1 h2=>?_⟩
        · obtain ⟨hx1,hx2⟩:=List.mem_filter.1 hx;rw [Mo.get_put m (n+1) _ (by omega) (by omega) j (by omega) h2]
          by_cases hj:j=n+1
          · rw [if_pos hj,hj]; simpa using hx2
          · rw [if_neg hj]; exact ha x hx1 j (by omega) h2
        · rw [Mo.get_put m (n+1) _ (by omega) (by omega) j h1 (by omega),if_neg (by omega)];exact hz j h1 (by omega)
       refine ⟨?_,by show ((n+1:Nat):Int)<=_; omega⟩;unfold Pl.Can
       right
       refine ⟨by omega,by omega,rfl,rfl,by rw [List.length_map,List.length_range]; omega,wag (fun x hx=>?_),?_⟩
       · obtain ⟨i,-,rfl⟩:=List.mem_map.1 hx;obtain ⟨q1,q2,q3,q4⟩:=hpart i;obtain ⟨h1,h2⟩:=ih (by omega) _ _ q1 q2 q3 q4;exact ⟨by omega,h1⟩
       · rw [List.getLast?_map,List.getLast?_range];rw [if_neg (by omega)];simp only [Option.map_some,Nat.add_sub_cancel,ne_eq,Option.some.injEq];intro e;obtain ⟨q1,q2,q3,q4⟩:=hpart (m'.get (n+1:Nat)).toNat;have hco:=ya8 n (by omega) _ _ q1 q2 q3 q4 m';rw [e,Pl.zero_coef] at hco;have hhead:(((c,m') :: r).filter fun x=>decide (x.2.get (n+1:Nat)=Int.ofNat (m'.get (n+1:Nat)).toNat))=(c,m') :: (r.filter fun x=>decide (x.2.get (n+1:Nat)=Int.ofNat (m'.get (n+1:Nat)).toNat)):=by
          rw [List.filter_cons,if_pos];simp only [decide_eq_true_eq,Int.ofNat_eq_natCast];omega
         rw [hhead] at hco q1;rw [(uaj q1).1] at hco;exact hl.1 hco.symm
theorem vbd {l:Sp} (h:kaa l) (hn:∀ x ∈ l,x.2.nonneg):(bld 4 l).Can/\∀ k,qc ((bld 4 l).terms Mo.one) k=qc l k:=by
 have hz:∀ i:Nat,0 < i->i<=4->Mo.one.get i=0:=fun i h1 h2=>by
  rcases (show i=1\/i=2\/i=3\/i=4 by omega) with rfl | rfl | rfl | rfl <;> rfl
 have ha:ka3 4 Mo.one l:=fun x _ i h1 h2=>by omega
 exact ⟨(zby 4 (Nat.le_refl _) l _ h hn ha hz).1,ya8 4 (Nat.le_refl _) l _ h hn ha hz⟩
/- What recpoly.isCanonical asks, plain. -/
def Pl.isZ (p:Pl):Bool:=decide (p.lv=0) && decide (p.ds.length=0)
mutual
def Pl.isCan : Pl -> Bool
 | .mk l n d cs=>if l=0 then (if 0 < cs.length then false else (decide (d.length=0) && !n) || (decide (0 < d.length) && decide (d.getLast? ≠ some 0)))
   else if (l < 1\/4 < l)\/0 < d.length\/n=true\/cs.length < 2 then false
   else waj l cs && (match cs.getLast? with
    | some c=>!c.isZ
    | none=>true)
def waj (l : Int) : List Pl -> Bool
 | []=>true
 | c :: r=>decide (c.lv < l) && c.isCan && waj l r
end
mutual
def Pl.dig : Pl -> Prop
 | .mk _ _ d cs=>xg d/\jar cs
def jar : List Pl -> Prop
 | []=>True
 | c :: r=>c.dig/\jar r
end
theorem xb4 {d:List Nat} (hd:xg d) (h0:0 < d.length):d=dg (val d) ↔ d.getLast? ≠ some 0:=by
 rw [uaw hd];obtain ⟨k,hk⟩:∃ k,d.length=k+1:=⟨d.length - 1,by omega⟩;have hl:d.getLast?=some (d.getD k 0):=by
  rw [List.getLast?_eq_getElem?,List.getD_eq_getElem?_getD,hk,Nat.add_sub_cancel,List.getElem?_eq_getElem (by omega)]; rfl
 have ht:d=d.take (ql d d.length) ↔ ql d d.length=d.length:=by
  constructor
  · intro h;have:=congrArg List.length h;rw [List.length_take] at this;have:=xao d d.length;omega
  · intro h; rw [h,List.take_length]
 rw [ht,hl,hk,ql]
 by_cases h:d.getD k 0=0
 · rw [if_pos h,h];have:=xao d k
   constructor
   · intro e; omega
   · intro e; exact absurd rfl e
 · rw [if_neg h];simpa using h
theorem Pl.zero_isZ {p:Pl} (h:p.Can):p.isZ=true ↔ p=Pl.zero:=by
 cases p with
 | mk l n d cs =>
   unfold Pl.Can at h;unfold Pl.isZ Pl.zero;show (decide (l=0) && decide (d.length=0))=true ↔ _;rw [Bool.and_eq_true,decide_eq_true_eq,decide_eq_true_eq,List.length_eq_zero_iff,Pl.mk.injEq]
   constructor
   · rintro ⟨h1,h2⟩;rcases h with h | h
     · exact ⟨h1,h.2.2.2 h2,h2,h.2.1⟩
     · omega
   · rintro ⟨h1,-,h2,-⟩; exact ⟨h1,h2⟩
mutual
theorem Pl.isCan_iff : ∀ p : Pl, p.dig -> (p.isCan = true ↔ p.Can)
 | .mk l n d cs,hd=>by
   rw [Pl.dig] at hd;have hcs:=wa4 cs;rw [Pl.isCan,Pl.Can]
   by_cases h0:l=0
   · rw [if_pos h0]
     by_cases hc:0 < cs.length
     · rw [if_pos hc]
       constructor
       · intro h; cases h
       · intro h;rcases h with ⟨-,h,-⟩ | h
         · subst h; cases hc
         · omega
     · rw [if_neg hc];have hce:cs=[]:=List.eq_nil_of_length_eq_zero (by omega);simp only [Bool.or_eq_true,Bool.and_eq_true,decide_eq_true_eq,Bool.not_eq_true',List.length_eq_zero_iff]
       by_cases hdl:0 < d.length
       · have hdn:d ≠ []:=by intro e; subst e; cases hdl
         have:=xb4 hd.1 hdl
         constructor
         · rintro (⟨h,-⟩ | ⟨-,h⟩)
           · exact absurd h hdn
           · exact .inl ⟨h0,hce,this.2 h,fun e=>absurd e hdn⟩
         · rintro (h | h)
           · exact .inr ⟨hdl,this.1 h.2.2.1⟩
           · omega
       · have hdn:d=[]:=List.eq_nil_of_length_eq_zero (by omega)
         constructor
         · rintro (⟨-,h⟩ | ⟨h,-⟩)
           · exact .inl ⟨h0,hce,by rw [hdn]; simp [val,qm],fun _=>h⟩
           · omega
         · rintro (h | h)
           · exact .inl ⟨hdn,h.2.2.2 hdn⟩
           · omega
   · rw [if_neg h0]
     by_cases h1:(l < 1\/4 < l)\/0 < d.length\/n=true\/cs.length < 2
     · rw [if_pos h1]
       constructor
       · intro h; cases h
       · rintro (h | ⟨h2,h3,h4,h5,h6,-⟩)
         · exact absurd h.1 h0
         · subst h4 h5;simp at h1; omega
     · rw [if_neg h1];have h2:1<=l/\l<=4/\d.length=0/\n=false/\2<=cs.length:=by
        have hn:¬ n=true:=fun e=>h1 (.inr (.inr (.inl e)))
        refine ⟨?_,?_,?_,by simpa using hn,?_⟩ <;> omega
       have hl:cs.getLast?=some cs[cs.length - 1]:=by rw [List.getLast?_eq_getElem?,List.getElem?_eq_getElem (by omega)]
       rw [hl];simp only [Bool.and_eq_true,Bool.not_eq_true']
       constructor
       · rintro ⟨ha,hb⟩;have hk:=(hcs l hd.2).1 ha;refine .inr ⟨h2.1,h2.2.1,h2.2.2.2.1,List.eq_nil_of_length_eq_zero h2.2.2.1,h2.2.2.2.2,hk,?_⟩;intro e;have:=(Pl.zero_isZ (hk.mem _ (List.getElem_mem (by omega:cs.length - 1 < cs.length))).2).2 (Option.some.inj e);rw [this] at hb; cases hb
       · rintro (h | ⟨-,-,-,-,-,hk,hne⟩)
         · exact absurd h.1 h0
         · refine ⟨(hcs l hd.2).2 hk,?_⟩;rw [Bool.eq_false_iff];intro e;exact hne (congrArg some ((Pl.zero_isZ (hk.mem _ (List.getElem_mem (by omega:cs.length - 1 < cs.length))).2).1 e))
theorem wa4 : ∀ (cs : List Pl) (l : Int), jar cs -> (waj l cs = true ↔ zt l cs)
 | [],l,_=>by rw [waj,zt]; simp
 | c :: r,l,hd=>by
   rw [jar] at hd;rw [waj,zt,Bool.and_eq_true,Bool.and_eq_true,Pl.isCan_iff c hd.1,wa4 r l hd.2,decide_eq_true_eq,and_assoc]
end
theorem kav (l : Int) : ∀ cs : List Pl, waj l cs = cs.all fun c => decide (c.lv < l) && c.isCan
 | []=>rfl
 | c :: r=>by rw [waj,kav l r,List.all_cons]
theorem Pl.isCan_bad {l:Int} {n:Bool} {d:List Nat} {cs:List Pl} {c:Pl} (hl:l ≠ 0) (hc:c ∈ cs) (h:l<=c.lv\/c.isCan=false):(Pl.mk l n d cs).isCan=false:=by
 rw [Pl.isCan,if_neg hl]
 split
 · rfl
 · have:waj l cs=false:=by
    rw [kav,List.all_eq_false];refine ⟨c,hc,?_⟩;rcases h with h | h
    · simp; intro h2; omega
    · simp [h]
   rw [this]; rfl
theorem Pl.isCan_fin {l:Int} {n:Bool} {d:List Nat} {cs:List Pl} (hl:l ≠ 0) (hg:¬ ((l < 1\/4 < l)\/0 < d.length\/n=true\/cs.length < 2)) (h:∀ c ∈ cs,c.lv < l/\c.isCan=true) (hn:0 < cs.length):(Pl.mk l n d cs).isCan=!(cs[cs.length - 1]).isZ:=by
 rw [Pl.isCan,if_neg hl,if_neg hg];have h1:waj l cs=true:=by
  rw [kav,List.all_eq_true];intro c hc;simp [h c hc]
 rw [h1,List.getLast?_eq_getElem?,List.getElem?_eq_getElem (by omega)]
 rfl
end Go.Proofs.YtaedbimbbeploaaGreatDoor
