/- Canonical recursive polynomials are known by their coefficients. -/
import Derived.Test.YtopddaabiinboaaGreatMp7
import Derived.Test.YtopddaabiinboaaGreatMp0
set_option linter.unusedSimpArgs false
set_option linter.unusedVariables false
namespace Go.Proofs.YtopddaabiinboaaGreat
mutual
def Pl.Can : Pl -> Prop
 | .mk l n d cs=>(l=0/\cs=[]/\d=dg (val d)/\(d=[]->n=false))\/(1<=l/\l<=4/\n=false/\d=[]/\2<=cs.length/\vc7 l cs/\cs.getLast? ≠ some Pl.zero)
def vc7 (l : Int) : List Pl -> Prop
 | []=>True
 | c :: r=>c.lv < l/\c.Can/\vc7 l r
end
theorem vc7.mem {l : Int} : ∀ {cs : List Pl}, vc7 l cs -> ∀ c ∈ cs, c.lv < l /\ c.Can
 | c :: r,h,x,hx=>by
   unfold vc7 at h;rcases List.mem_cons.1 hx with rfl | hx
   · exact ⟨h.1,h.2.1⟩
   · exact vc7.mem h.2.2 x hx
theorem Pl.zero_can:Pl.zero.Can:=by unfold Pl.zero Pl.Can; left; exact ⟨rfl,rfl,by simp [val,uc5],fun _=>rfl⟩
theorem Pl.Can.lv_nonneg {p:Pl} (h:p.Can):0<=p.lv/\p.lv<=4:=by
 cases p with
 | mk l n d cs=>unfold Pl.Can at h; show 0<=l/\l<=4; rcases h with h | h <;> omega
mutual
theorem Pl.terms_above : ∀ (p : Pl) (m : Mo) (n : Nat), p.Can -> p.lv <= n -> ∀ x ∈ p.terms m, ∀ i : Nat, n < i -> i <= 4 -> x.2.get i = m.get i
 | .mk l ng d cs,m,n,h,hl,x,hx,i,h1,h2=>by
   rw [Pl.terms] at hx;unfold Pl.Can at h
   change l<=n at hl
   by_cases h0:l<=0
   · rw [if_pos h0] at hx;rw [(List.mem_singleton.1 hx)]
   · rw [if_neg h0] at hx
     by_cases h4:4 < l
     · rw [if_pos h4] at hx; cases hx
     · rw [if_neg h4] at hx;rcases h with h | h
       · omega
       · exact vg9 cs m l (m.get l) n h.2.2.2.2.2.1 (by omega) (by omega) hl x hx i h1 h2
theorem vg9 : ∀ (cs : List Pl) (m : Mo) (l e : Int) (n : Nat), vc7 l cs -> 0 < l -> l <= 4 -> l <= n -> ∀ x ∈ gc2 m l e cs, ∀ i : Nat, n < i -> i <= 4 -> x.2.get i = m.get i
 | [],m,l,e,n,h,hl0,hl4,hl,x,hx,i,h1,h2=>by rw [gc2] at hx; cases hx
 | c :: r,m,l,e,n,h,hl0,hl4,hl,x,hx,i,h1,h2=>by
   rw [gc2] at hx;unfold vc7 at h;rcases List.mem_append.1 hx with hx | hx
   · obtain ⟨ln,rfl⟩:∃ ln:Nat,l=ln:=⟨l.toNat,by omega⟩;rw [Pl.terms_above c _ n h.2.1 (by omega) x hx i h1 h2,Mo.get_put m ln e (by omega) (by omega) i (by omega) h2,if_neg (by omega)]
   · exact vg9 r m l (e+1) n h.2.2 hl0 hl4 hl x hx i h1 h2
end
theorem jgx (m : Mo) (l : Nat) (hl0 : 0 < l) (hl4 : l <= 4) (k : Mo) : ∀ (cs : List Pl) (e : Int), vc7 l cs -> wc2 (gc2 m l e cs) k = if h : e <= k.get l /\ (k.get l - e).toNat < cs.length then wc2 ((cs[(k.get l - e).toNat]'h.2).terms (m.put l (k.get l))) k else 0
 | [],e,_=>by rw [gc2,dif_neg (by simp)]; rfl
 | c :: r,e,h=>by
   unfold vc7 at h;have hz:∀ (c:Pl) (e:Int),c.lv < l->c.Can->k.get l ≠ e->wc2 (c.terms (m.put l e)) k=0:=by
    intro c e hc1 hc2 hne;refine qde fun x hx he=>hne ?_
    have:=Pl.terms_above c (m.put l e) (l - 1) hc2 (by omega) x hx l (by omega) hl4;rw [he,Mo.get_put m l e hl0 hl4 l hl0 hl4,if_pos rfl] at this;exact this
   rw [gc2,xgx,jgx m l hl0 hl4 k r (e+1) h.2.2]
   by_cases he:k.get l=e
   · rw [dif_neg (by omega),dif_pos (by constructor; omega; simp; omega)];have h0:(k.get l - e).toNat=0:=by omega
     have hc0:∀ (j:Nat) (hj:j < (c :: r).length),j=0->(c :: r)[j]=c:=by intro j hj h; subst h; rfl
     rw [hc0 _ _ h0,he];omega
   · rw [hz c e h.1 h.2.1 he]
     by_cases hlt:e<=k.get l/\(k.get l - e).toNat < (c :: r).length
     · have hs:(k.get l - e).toNat=(k.get l - (e+1)).toNat+1:=by omega
       have hlt':e+1<=k.get l/\(k.get l - (e+1)).toNat < r.length:=by
        have:=hlt.2;simp only [List.length_cons] at this;omega
       rw [dif_pos hlt,dif_pos hlt'];simp only [hs,List.getElem_cons_succ];omega
     · rw [dif_neg hlt,dif_neg (by
        simp only [List.length_cons] at hlt
        omega)]
       rfl
theorem Pl.Can.kids {l:Int} {n:Bool} {d:List Nat} {cs:List Pl} (h:(Pl.mk l n d cs).Can) (hl:0 < l):n=false/\d=[]/\2<=cs.length/\vc7 l cs/\cs.getLast? ≠ some Pl.zero:=by
 unfold Pl.Can at h;rcases h with h | h
 · omega
 · exact h.2.2
theorem Pl.zero_coef (m k:Mo):wc2 (Pl.zero.terms m) k=0:=by simp [Pl.zero,Pl.terms,wc2,sgn,val]
theorem wiv (n:Nat) (hn:n<=4):∀ (p p':Pl) (m:Mo),p.Can->p'.Can->p.lv<=n->p'.lv<=n->(∀ i:Nat,0 < i->i<=n->m.get i=0)->(∀ k,wc2 (p.terms m) k=wc2 (p'.terms m) k)->p=p':=by
 induction n with
 | zero =>
   intro p p' m h h' hl hl' _ he;obtain ⟨l,ng,d,cs⟩:=p;obtain ⟨l',ng',d',cs'⟩:=p';unfold Pl.Can at h h'
   change l<=(0:Nat) at hl
   change l'<=(0:Nat) at hl'
   rcases h with ⟨rfl,rfl,hd,hng⟩ | h
   · rcases h' with ⟨rfl,rfl,hd',hng'⟩ | h'
     · have e1:=he m;simp only [Pl.terms,if_pos (show (0:Int)<=0 by omega),wc2,if_true,Int.add_zero] at e1;have hv:val d=val d':=by
        have:=congrArg Int.natAbs e1;rw [qc7,qc7] at this;exact this
       have hdd:d=d':=by rw [hd,hv,<- hd']
       subst hdd;have hnn:ng=ng':=by
        by_cases hz:d=[]
        · rw [hng hz,hng' hz]
        · have hvz:val d ≠ 0:=fun e=>hz (by rw [hd,e,uc5])
          cases ng <;> cases ng' <;> first | rfl | (exfalso; simp [sgn] at e1; omega)
       rw [hnn]
     · omega
   · omega
 | succ n ih =>
   have low:∀ (p p':Pl) (m:Mo),p.Can->p'.Can->p.lv<=n->p'.lv=(n+1:Nat)->(∀ i:Nat,0 < i->i<=n+1->m.get i=0)->(∀ k,wc2 (p.terms m) k=wc2 (p'.terms m) k)->False:=by
    intro p p' m h h' hl hl' hm he;obtain ⟨l',ng',d',cs'⟩:=p'
    change l'=(n+1:Nat) at hl'
    subst hl';obtain ⟨-,-,hlen,hcs,hlast⟩:=h'.kids (by omega);have hL:cs'.length - 1 < cs'.length:=by omega
    have hc:=hcs.mem cs'[cs'.length - 1] (List.getElem_mem hL);apply hlast;rw [List.getLast?_eq_getElem?,List.getElem?_eq_getElem hL]
    congr 1
    refine ih (by omega) _ _ (m.put (n+1:Nat) ((cs'.length - 1:Nat):Int)) hc.2 Pl.zero_can (by omega) (by show (0:Int)<=_; omega) (fun i h1 h2=>?_) (fun k=>?_)
    · rw [Mo.get_put m (n+1) _ (by omega) (by omega) i h1 (by omega),if_neg (by omega)];exact hm i h1 (by omega)
    · rw [Pl.zero_coef]
      by_cases hk:k.get (n+1:Nat)=((cs'.length - 1:Nat):Int)
      · have e1:=he k;rw [qde (l:=p.terms m) (fun x hx e=>by
         have:=Pl.terms_above p m n h hl x hx (n+1) (by omega) (by omega);rw [e,hm (n+1) (by omega) (by omega),hk] at this
         omega)] at e1
        rw [Pl.terms,if_neg (by omega),if_neg (by omega),hm (n+1) (by omega) (by omega),jgx m (n+1) (by omega) (by omega) k cs' 0 hcs,dif_pos (by omega)] at e1;have hi:(k.get (n+1:Nat) - 0).toNat=cs'.length - 1:=by omega
        have hc0:∀ (j:Nat) (hj:j < cs'.length),j=cs'.length - 1->cs'[j]=cs'[cs'.length - 1]:=by intro j hj h; subst h; rfl
        rw [hc0 _ _ hi] at e1;rw [<- hk];exact e1.symm
      · refine qde fun x hx e=>hk ?_
        have:=Pl.terms_above cs'[cs'.length - 1] _ n hc.2 (by omega) x hx (n+1) (by omega) (by omega);rw [e,Mo.get_put m (n+1) _ (by omega) (by omega) (n+1) (by omega) (by omega),if_pos rfl] at this;exact this
   intro p p' m h h' hl hl' hm he
   by_cases hp:p.lv=(n+1:Nat)
   · by_cases hp':p'.lv=(n+1:Nat)
     · obtain ⟨l,ng,d,cs⟩:=p;obtain ⟨l',ng',d',cs'⟩:=p'
       change l=(n+1:Nat) at hp
       change l'=(n+1:Nat) at hp'
       subst hp hp';obtain ⟨rfl,rfl,hlen,hcs,hlast⟩:=h.kids (by omega);obtain ⟨rfl,rfl,hlen',hcs',hlast'⟩:=h'.kids (by omega);have hg:m.get (n+1:Nat)=0:=hm (n+1) (by omega) (by omega);have hco:∀ k,wc2 (gc2 m (n+1:Nat) 0 cs) k=wc2 (gc2 m (n+1:Nat) 0 cs') k:=by
        intro k;have:=he k;rw [Pl.terms,if_neg (by omega),if_neg (by omega),Pl.terms,if_neg (by omega),if_neg (by omega),hg] at this;exact this
       have hput:∀ (i:Nat) (e:Int),0 < i->i<=n->(m.put (n+1:Nat) e).get i=0:=fun i e h1 h2=>by
        rw [Mo.get_put m (n+1) _ (by omega) (by omega) i h1 (by omega),if_neg (by omega)];exact hm i h1 (by omega)
       have hout:∀ (c:Pl) (e:Int) (k:Mo),c.Can->c.lv < (n+1:Nat)->k.get (n+1:Nat) ≠ e->wc2 (c.terms (m.put (n+1:Nat) e)) k=0:=by
        intro c e k hc1 hc2 hne;refine qde fun x hx he'=>hne ?_
        have:=Pl.terms_above c _ n hc1 (by omega) x hx (n+1) (by omega) (by omega);rw [he',Mo.get_put m (n+1) _ (by omega) (by omega) (n+1) (by omega) (by omega),if_pos rfl] at this;exact this
       have hin:∀ (cs:List Pl) (i:Nat) (hi:i < cs.length) (k:Mo),vc7 (n+1:Nat) cs->k.get (n+1:Nat)=(i:Int)->wc2 (gc2 m (n+1:Nat) 0 cs) k=wc2 (cs[i].terms (m.put (n+1:Nat) (i:Int))) k:=by
        intro cs i hi k hcs hk;rw [jgx m (n+1) (by omega) (by omega) k cs 0 hcs,dif_pos (by omega)];have hi':(k.get (n+1:Nat) - 0).toNat=i:=by omega
        have hc0:∀ (j:Nat) (hj:j < cs.length),j=i->cs[j]=cs[i]:=by intro j hj h; subst h; rfl
        rw [hc0 _ _ hi',hk]
       have hno:∀ (cs:List Pl) (i:Nat) (k:Mo),cs.length<=i->vc7 (n+1:Nat) cs->k.get (n+1:Nat)=(i:Int)->wc2 (gc2 m (n+1:Nat) 0 cs) k=0:=by
        intro cs i k hi hcs hk;rw [jgx m (n+1) (by omega) (by omega) k cs 0 hcs,dif_neg (by omega)]
       have nol:∀ (cs cs':List Pl),vc7 (n+1:Nat) cs->vc7 (n+1:Nat) cs'->2<=cs.length->cs.getLast? ≠ some Pl.zero->(∀ k,wc2 (gc2 m (n+1:Nat) 0 cs) k=wc2 (gc2 m (n+1:Nat) 0 cs') k)->cs.length<=cs'.length:=by
        intro cs cs' hcs hcs' hlen hlast hco;rcases Nat.lt_or_ge cs'.length cs.length with hlt | hge
        · exfalso
          apply hlast;have hL:cs.length - 1 < cs.length:=by omega
          rw [List.getLast?_eq_getElem?,List.getElem?_eq_getElem hL]
          congr 1
          have hc:=hcs.mem cs[cs.length - 1] (List.getElem_mem hL);refine ih (by omega) _ _ (m.put (n+1:Nat) ((cs.length - 1:Nat):Int)) hc.2 Pl.zero_can (by omega) (by show (0:Int)<=_; omega) (fun i h1 h2=>hput i _ h1 h2) (fun k=>?_);rw [Pl.zero_coef]
          by_cases hk:k.get (n+1:Nat)=((cs.length - 1:Nat):Int)
          · rw [<- hin cs (cs.length - 1) hL k hcs hk,hco k];exact hno cs' _ k (by omega) hcs' hk
          · exact hout _ _ k hc.2 hc.1 hk
        · exact hge
       have hll:cs.length=cs'.length:=Nat.le_antisymm (nol cs cs' hcs hcs' hlen hlast hco) (nol cs' cs hcs' hcs hlen' hlast' (fun k=>(hco k).symm));have hcc:cs=cs':=by
        refine List.ext_getElem hll fun i hi hi'=>?_
        have hc:=hcs.mem cs[i] (List.getElem_mem hi);have hc':=hcs'.mem cs'[i] (List.getElem_mem hi');refine ih (by omega) _ _ (m.put (n+1:Nat) (i:Int)) hc.2 hc'.2 (by omega) (by omega) (fun j h1 h2=>hput j _ h1 h2) (fun k=>?_)
        by_cases hk:k.get (n+1:Nat)=(i:Int)
        · rw [<- hin cs i hi k hcs hk,<- hin cs' i hi' k hcs' hk]; exact hco k
        · rw [hout _ _ k hc.2 hc.1 hk,hout _ _ k hc'.2 hc'.1 hk]
       rw [hcc]
     · exact (low p' p m h' h (by omega) hp hm (fun k=>(he k).symm)).elim
   · by_cases hp':p'.lv=(n+1:Nat)
     · exact (low p p' m h h' (by omega) hp' hm he).elim
     · exact ih (by omega) p p' m h h' (by omega) (by omega) (fun i h1 h2=>hm i h1 (by omega)) he
theorem Pl.can_eq {p p':Pl} (h:p.Can) (h':p'.Can) (he:∀ k,wc2 (p.terms Mo.one) k=wc2 (p'.terms Mo.one) k):p=p':=
 wiv 4 (Nat.le_refl _) p p' Mo.one h h' h.lv_nonneg.2 h'.lv_nonneg.2 (fun i h1 h2=>by
  rcases (show i=1\/i=2\/i=3\/i=4 by omega) with rfl | rfl | rfl | rfl <;> rfl) he
/- The recursive form of a canonical sum is canonical. -/
theorem vdf (z:Int):(Pl.const z).Can:=by
 unfold Pl.const Pl.Can
 left
 refine ⟨rfl,rfl,by rw [jc3],fun h=>?_⟩;have:z.natAbs=0:=by
  have h1:(dg z.natAbs).length=0:=by rw [h]; rfl
  exact xg6 h1
 have hz:z=0:=by omega
 rw [hz]; rfl
theorem xgs {l : Int} : ∀ {cs : List Pl}, (∀ c ∈ cs, c.lv < l /\ c.Can) -> vc7 l cs
 | [],_=>by unfold vc7; trivial
 | c :: r,h=>by
   unfold vc7;exact ⟨(h c (by simp)).1,(h c (by simp)).2,xgs (fun x hx=>h x (by simp [hx]))⟩
theorem qh6 (n:Nat) (hn:n<=4):∀ (l:Sp) (m:Mo),zde l->(∀ x ∈ l,x.2.nonneg)->uhd n m l->(∀ i:Nat,0 < i->i<=n->m.get i=0)->(bld n l).Can/\(bld n l).lv<=n:=by
 induction n with
 | zero =>
   intro l m hl hnn ha hz;cases l with
   | nil=>rw [bld]; exact ⟨Pl.zero_can,by show (0:Int)<=_; omega⟩
   | cons x r=>obtain ⟨c,m'⟩:=x; rw [bld]; exact ⟨vdf c,by show (0:Int)<=_; omega⟩
 | succ n ih =>
   intro l m hl hnn ha hz;cases l with
   | nil=>rw [bld]; exact ⟨Pl.zero_can,by show (0:Int)<=_; omega⟩
   | cons x r =>
     obtain ⟨c,m'⟩:=x;have htop:∀ y ∈ ((c,m') :: r:Sp),y.2.get (n+1:Nat)<=m'.get (n+1:Nat):=by
      intro y hy;rcases List.mem_cons.1 hy with rfl | hy'
      · exact Int.le_refl _
      · exact Mo.lt_get (by omega) (by omega) (hl.2.1 y hy') (fun i h1 h2=>(ha y hy i (by omega) h2).trans (ha (c,m') (by simp) i (by omega) h2).symm)
     have hlow:∀ y ∈ ((c,m') :: r:Sp),0<=y.2.get (n+1:Nat):=by
      intro y hy;have:=hnn y hy;unfold Mo.nonneg at this;unfold Mo.get
      split <;> (try split) <;> (try split) <;> omega
     rw [bld]
     by_cases h0:m'.get (n+1:Nat)=0
     · rw [if_pos h0];obtain ⟨h1,h2⟩:=ih (by omega) _ m hl hnn (fun y hy i h1 h2=>by
        by_cases hi:i=n+1
        · subst hi;rw [hz (n+1) (by omega) (by omega)];have h1:=htop y hy;have h2:=hlow y hy;omega
        · exact ha y hy i (by omega) h2) (fun i h1 h2=>hz i h1 (by omega))
       exact ⟨h1,by omega⟩
     · rw [if_neg h0];have hpos:0 < m'.get (n+1:Nat):=by have:=hlow (c,m') (by simp); simp only at this; omega
       have hpart:∀ i:Nat,zde (((c,m') :: r).filter fun x=>decide (x.2.get (n+1:Nat)=Int.ofNat i))/\(∀ x ∈ (((c,m') :: r).filter fun x=>decide (x.2.get (n+1:Nat)=Int.ofNat i)),x.2.nonneg)/\uhd n (m.put (n+1:Nat) (i:Int)) (((c,m') :: r).filter fun x=>decide (x.2.get (n+1:Nat)=Int.ofNat i))/\(∀ j:Nat,0 < j->j<=n->(m.put (n+1:Nat) (i:Int)).get j=0):=by
        intro i;refine ⟨hl.filter _,fun x hx=>hnn x (List.mem_filter.1 hx).1,fun x hx j h1 h2=>?_,fun j h1 h2=>?_⟩
        · obtain ⟨hx1,hx2⟩:=List.mem_filter.1 hx;rw [Mo.get_put m (n+1) _ (by omega) (by omega) j (by omega) h2]
          by_cases hj:j=n+1
          · rw [if_pos hj,hj]; simpa using hx2
          · rw [if_neg hj]; exact ha x hx1 j (by omega) h2
        · rw [Mo.get_put m (n+1) _ (by omega) (by omega) j h1 (by omega),if_neg (by omega)];exact hz j h1 (by omega)
       refine ⟨?_,by show ((n+1:Nat):Int)<=_; omega⟩;unfold Pl.Can
       right
       refine ⟨by omega,by omega,rfl,rfl,by rw [List.length_map,List.length_range]; omega,xgs (fun x hx=>?_),?_⟩
       · obtain ⟨i,-,rfl⟩:=List.mem_map.1 hx;obtain ⟨q1,q2,q3,q4⟩:=hpart i;obtain ⟨h1,h2⟩:=ih (by omega) _ _ q1 q2 q3 q4;exact ⟨by omega,h1⟩
       · rw [List.getLast?_map,List.getLast?_range];rw [if_neg (by omega)];simp only [Option.map_some,Nat.add_sub_cancel,ne_eq,Option.some.injEq];intro e;obtain ⟨q1,q2,q3,q4⟩:=hpart (m'.get (n+1:Nat)).toNat;have hco:=vhh n (by omega) _ _ q1 q2 q3 q4 m';rw [e,Pl.zero_coef] at hco;have hhead:(((c,m') :: r).filter fun x=>decide (x.2.get (n+1:Nat)=Int.ofNat (m'.get (n+1:Nat)).toNat))=(c,m') :: (r.filter fun x=>decide (x.2.get (n+1:Nat)=Int.ofNat (m'.get (n+1:Nat)).toNat)):=by
          rw [List.filter_cons,if_pos];simp only [decide_eq_true_eq,Int.ofNat_eq_natCast];omega
         rw [hhead] at hco q1;rw [(ygx q1).1] at hco;exact hl.1 hco.symm
theorem khn {l:Sp} (h:zde l) (hn:∀ x ∈ l,x.2.nonneg):(bld 4 l).Can/\∀ k,wc2 ((bld 4 l).terms Mo.one) k=wc2 l k:=by
 have hz:∀ i:Nat,0 < i->i<=4->Mo.one.get i=0:=fun i h1 h2=>by
  rcases (show i=1\/i=2\/i=3\/i=4 by omega) with rfl | rfl | rfl | rfl <;> rfl
 have ha:uhd 4 Mo.one l:=fun x _ i h1 h2=>by omega
 exact ⟨(qh6 4 (Nat.le_refl _) l _ h hn ha hz).1,vhh 4 (Nat.le_refl _) l _ h hn ha hz⟩
/- What recpoly.isCanonical asks, plain. -/
def Pl.isZ (p:Pl):Bool:=decide (p.lv=0) && decide (p.ds.length=0)
mutual
def Pl.isCan : Pl -> Bool
 | .mk l n d cs=>if l=0 then (if 0 < cs.length then false else (decide (d.length=0) && !n) || (decide (0 < d.length) && decide (d.getLast? ≠ some 0)))
   else if (l < 1\/4 < l)\/0 < d.length\/n=true\/cs.length < 2 then false
   else kgt l cs && (match cs.getLast? with
    | some c=>!c.isZ
    | none=>true)
def kgt (l : Int) : List Pl -> Bool
 | []=>true
 | c :: r=>decide (c.lv < l) && c.isCan && kgt l r
end
mutual
def Pl.dig : Pl -> Prop
 | .mk _ _ d cs=>uc3 d/\wde cs
def wde : List Pl -> Prop
 | []=>True
 | c :: r=>c.dig/\wde r
end
theorem xic {d:List Nat} (hd:uc3 d) (h0:0 < d.length):d=dg (val d) ↔ d.getLast? ≠ some 0:=by
 rw [khk hd];obtain ⟨k,hk⟩:∃ k,d.length=k+1:=⟨d.length - 1,by omega⟩;have hl:d.getLast?=some (d.getD k 0):=by
  rw [List.getLast?_eq_getElem?,List.getD_eq_getElem?_getD,hk,Nat.add_sub_cancel,List.getElem?_eq_getElem (by omega)]; rfl
 have ht:d=d.take (kdd d d.length) ↔ kdd d d.length=d.length:=by
  constructor
  · intro h;have:=congrArg List.length h;rw [List.length_take] at this;have:=ygy d d.length;omega
  · intro h; rw [h,List.take_length]
 rw [ht,hl,hk,kdd]
 by_cases h:d.getD k 0=0
 · rw [if_pos h,h];have:=ygy d k
   constructor
   · intro e; omega
   · intro e; exact absurd rfl e
 · rw [if_neg h];simpa using h
theorem Pl.zero_isZ {p:Pl} (h:p.Can):p.isZ=true ↔ p=Pl.zero:=by
 cases p with
 | mk l n d cs =>
   unfold Pl.Can at h;unfold Pl.isZ Pl.zero;show (decide (l=0) && decide (d.length=0))=true ↔ _;rw [Bool.and_eq_true,decide_eq_true_eq,decide_eq_true_eq,List.length_eq_zero_iff,Pl.mk.injEq]
   constructor
   · rintro ⟨h1,h2⟩;rcases h with h | h
     · exact ⟨h1,h.2.2.2 h2,h2,h.2.1⟩
     · omega
   · rintro ⟨h1,-,h2,-⟩; exact ⟨h1,h2⟩
mutual
theorem Pl.isCan_iff : ∀ p : Pl, p.dig -> (p.isCan = true ↔ p.Can)
 | .mk l n d cs,hd=>by
   rw [Pl.dig] at hd;have hcs:=zhf cs;rw [Pl.isCan,Pl.Can]
   by_cases h0:l=0
   · rw [if_pos h0]
     by_cases hc:0 < cs.length
     · rw [if_pos hc]
       constructor
       · intro h; cases h
       · intro h;rcases h with ⟨-,h,-⟩ | h
         · subst h; cases hc
         · omega
     · rw [if_neg hc];have hce:cs=[]:=List.eq_nil_of_length_eq_zero (by omega);simp only [Bool.or_eq_true,Bool.and_eq_true,decide_eq_true_eq,Bool.not_eq_true',List.length_eq_zero_iff]
       by_cases hdl:0 < d.length
       · have hdn:d ≠ []:=by intro e; subst e; cases hdl
         have:=xic hd.1 hdl
         constructor
         · rintro (⟨h,-⟩ | ⟨-,h⟩)
           · exact absurd h hdn
           · exact .inl ⟨h0,hce,this.2 h,fun e=>absurd e hdn⟩
         · rintro (h | h)
           · exact .inr ⟨hdl,this.1 h.2.2.1⟩
           · omega
       · have hdn:d=[]:=List.eq_nil_of_length_eq_zero (by omega)
         constructor
         · rintro (⟨-,h⟩ | ⟨h,-⟩)
           · exact .inl ⟨h0,hce,by rw [hdn]; simp [val,uc5],fun _=>h⟩
           · omega
         · rintro (h | h)
           · exact .inl ⟨hdn,h.2.2.2 hdn⟩
           · omega
   · rw [if_neg h0]
     by_cases h1:(l < 1\/4 < l)\/0 < d.length\/n=true\/cs.length < 2
     · rw [if_pos h1]
       constructor
       · intro h; cases h
       · rintro (h | ⟨h2,h3,h4,h5,h6,-⟩)
         · exact absurd h.1 h0
         · subst h4 h5;simp at h1; omega
     · rw [if_neg h1];have h2:1<=l/\l<=4/\d.length=0/\n=false/\2<=cs.length:=by
        have hn:¬ n=true:=fun e=>h1 (.inr (.inr (.inl e)))
        refine ⟨?_,?_,?_,by simpa using hn,?_⟩ <;> omega
       have hl:cs.getLast?=some cs[cs.length - 1]:=by rw [List.getLast?_eq_getElem?,List.getElem?_eq_getElem (by omega)]
       rw [hl];simp only [Bool.and_eq_true,Bool.not_eq_true']
       constructor
       · rintro ⟨ha,hb⟩;have hk:=(hcs l hd.2).1 ha;refine .inr ⟨h2.1,h2.2.1,h2.2.2.2.1,List.eq_nil_of_length_eq_zero h2.2.2.1,h2.2.2.2.2,hk,?_⟩;intro e;have:=(Pl.zero_isZ (hk.mem _ (List.getElem_mem (by omega:cs.length - 1 < cs.length))).2).2 (Option.some.inj e);rw [this] at hb; cases hb
       · rintro (h | ⟨-,-,-,-,-,hk,hne⟩)
         · exact absurd h.1 h0
         · refine ⟨(hcs l hd.2).2 hk,?_⟩;rw [Bool.eq_false_iff];intro e;exact hne (congrArg some ((Pl.zero_isZ (hk.mem _ (List.getElem_mem (by omega:cs.length - 1 < cs.length))).2).1 e))
theorem zhf : ∀ (cs : List Pl) (l : Int), wde cs -> (kgt l cs = true ↔ vc7 l cs)
 | [],l,_=>by rw [kgt,vc7]; simp
 | c :: r,l,hd=>by
   rw [wde] at hd;rw [kgt,vc7,Bool.and_eq_true,Bool.and_eq_true,Pl.isCan_iff c hd.1,zhf r l hd.2,decide_eq_true_eq,and_assoc]
end
theorem zg5 (l : Int) : ∀ cs : List Pl, kgt l cs = cs.all fun c => decide (c.lv < l) && c.isCan
 | []=>rfl
 | c :: r=>by rw [kgt,zg5 l r,List.all_cons]
theorem Pl.isCan_bad {l:Int} {n:Bool} {d:List Nat} {cs:List Pl} {c:Pl} (hl:l ≠ 0) (hc:c ∈ cs) (h:l<=c.lv\/c.isCan=false):(Pl.mk l n d cs).isCan=false:=by
 rw [Pl.isCan,if_neg hl]
 split
 · rfl
 · have:kgt l cs=false:=by
    rw [zg5,List.all_eq_false];refine ⟨c,hc,?_⟩;rcases h with h | h
    · simp; intro h2; omega
    · simp [h]
   rw [this]; rfl
theorem Pl.isCan_fin {l:Int} {n:Bool} {d:List Nat} {cs:List Pl} (hl:l ≠ 0) (hg:¬ ((l < 1\/4 < l)\/0 < d.length\/n=true\/cs.length < 2)) (h:∀ c ∈ cs,c.lv < l/\c.isCan=true) (hn:0 < cs.length):(Pl.mk l n d cs).isCan=!(cs[cs.length - 1]).isZ:=by
 rw [Pl.isCan,if_neg hl,if_neg hg];have h1:kgt l cs=true:=by
  rw [zg5,List.all_eq_true];intro c hc;simp [h c hc]
 rw [h1,List.getLast?_eq_getElem?,List.getElem?_eq_getElem (by omega)]
 rfl
/- The canonical form of a sum of terms, and of a recursive polynomial, plain, with its size. -/
def wgw (c : Int) (m : Mo) : Sp -> Sp
 | []=>if c=0 then [] else [(c,m)]
 | (d,n) :: r=>if n.lt m then (if c=0 then (d,n) :: r else (c,m) :: (d,n) :: r) else if m=n then (if c+d=0 then r else (c+d,n) :: r) else (d,n) :: wgw c m r
theorem jif (c:Int) (m:Mo) (l:Sp) (k:Mo):wc2 (wgw c m l) k=(if m=k then c else 0)+wc2 l k:=by
 induction l with
 | nil =>
   unfold wgw
   by_cases h:c=0
   · rw [if_pos h,h]; simp [wc2]
   · rw [if_neg h]; simp [wc2]
 | cons x r ih =>
   obtain ⟨d,n⟩:=x;unfold wgw
   by_cases h1:n.lt m
   · rw [if_pos h1]
     by_cases h:c=0
     · rw [if_pos h,h]; simp
     · rw [if_neg h]; simp [wc2]
   · rw [if_neg h1]
     by_cases h2:m=n
     · rw [if_pos h2]; subst h2
       by_cases h:c+d=0
       · rw [if_pos h]; simp only [wc2]; split <;> omega
       · rw [if_neg h]; simp only [wc2]; split <;> omega
     · rw [if_neg h2]; simp only [wc2,ih]; omega
theorem uhg {c:Int} {m:Mo} {l:Sp} {x:Int × Mo} (h:x ∈ wgw c m l):x.2=m\/∃ y ∈ l,y.2=x.2:=by
 induction l with
 | nil =>
   unfold wgw at h
   split at h
   · cases h
   · left; rw [List.mem_singleton.1 h]
 | cons y r ih =>
   obtain ⟨d,n⟩:=y;unfold wgw at h
   split at h
   · split at h
     · exact .inr ⟨x,h,rfl⟩
     · rcases List.mem_cons.1 h with rfl | h
       · exact .inl rfl
       · exact .inr ⟨x,h,rfl⟩
   · split at h
     · split at h
       · exact .inr ⟨x,List.mem_cons_of_mem _ h,rfl⟩
       · rcases List.mem_cons.1 h with rfl | h
         · exact .inr ⟨_,List.mem_cons_self,rfl⟩
         · exact .inr ⟨x,List.mem_cons_of_mem _ h,rfl⟩
     · rcases List.mem_cons.1 h with rfl | h
       · exact .inr ⟨_,List.mem_cons_self,rfl⟩
       · rcases ih h with h | ⟨y,hy,e⟩
         · exact .inl h
         · exact .inr ⟨y,List.mem_cons_of_mem _ hy,e⟩
theorem kio (c:Int) (m:Mo) (l:Sp) (h:zde l):zde (wgw c m l):=by
 induction l with
 | nil =>
   unfold wgw
   split
   · exact trivial
   · rename_i hc; exact ⟨hc,fun _ hx=>(by cases hx),trivial⟩
 | cons x r ih =>
   obtain ⟨d,n⟩:=x;obtain ⟨h1,h2,h3⟩:=h;unfold wgw
   split
   · rename_i hlt
     split
     · exact ⟨h1,h2,h3⟩
     · rename_i hc;refine ⟨hc,fun y hy=>?_,h1,h2,h3⟩;rcases List.mem_cons.1 hy with rfl | hy
       · exact hlt
       · exact Mo.lt_trans (h2 y hy) hlt
   · rename_i hlt
     split
     · rename_i he
       split
       · exact h3
       · rename_i hc; exact ⟨hc,h2,h3⟩
     · rename_i hne;refine ⟨h1,fun y hy=>?_,ih h3⟩;rcases uhg hy with e | ⟨z,hz,e⟩
       · rw [e];rcases Mo.tri m n with h | h | h
         · exact h
         · exact absurd h hne
         · exact absurd h hlt
       · rw [<- e]; exact h2 z hz
def yc6 : Sp -> Sp
 | []=>[]
 | (c,m) :: r=>if m.nonneg then wgw c m (yc6 r) else yc6 r
theorem udc (l:Sp):zde (yc6 l):=by
 induction l with
 | nil=>exact trivial
 | cons x r ih =>
   obtain ⟨c,m⟩:=x;unfold yc6
   split
   · exact kio _ _ _ ih
   · exact ih
theorem vgw (l:Sp) (k:Mo):wc2 (yc6 l) k=if k.nonneg then wc2 l k else 0:=by
 induction l with
 | nil=>simp [yc6,wc2]
 | cons x r ih =>
   obtain ⟨c,m⟩:=x;unfold yc6
   by_cases hm:m.nonneg
   · rw [if_pos hm,jif,ih]
     by_cases hk:k.nonneg
     · rw [if_pos hk,if_pos hk]; simp only [wc2]
     · rw [if_neg hk,if_neg hk,if_neg (fun (e:m=k)=>hk (e ▸ hm))]; rfl
   · rw [if_neg hm,ih]
     by_cases hk:k.nonneg
     · rw [if_pos hk,if_pos hk]; simp only [wc2]; rw [if_neg (fun (e:m=k)=>hm (e ▸ hk))]; omega
     · rw [if_neg hk,if_neg hk]
theorem kdc {l:Sp} {x:Int × Mo} (h:x ∈ yc6 l):x.2.nonneg/\∃ y ∈ l,y.2=x.2:=by
 induction l with
 | nil=>cases h
 | cons y r ih =>
   obtain ⟨c,m⟩:=y;unfold yc6 at h
   split at h
   · rename_i hm;rcases uhg h with e | ⟨z,hz,e⟩
     · exact ⟨by rw [e]; exact hm,_,List.mem_cons_self,e.symm⟩
     · suffices z.2.nonneg/\∃ y ∈ r,y.2=z.2 by
        obtain ⟨a,y,hy,e'⟩:=this;exact ⟨by rw [<- e]; exact a,y,List.mem_cons_of_mem _ hy,e'.trans e⟩
       clear ih h
       induction r generalizing z with
       | nil=>cases hz
       | cons y r ih =>
         obtain ⟨c',m'⟩:=y;unfold yc6 at hz
         split at hz
         · rename_i hm';rcases uhg hz with e1 | ⟨z',hz',e1⟩
           · exact ⟨by rw [e1]; exact hm',_,List.mem_cons_self,e1.symm⟩
           · obtain ⟨a,y,hy,e'⟩:=ih z' hz' (e1.trans e);exact ⟨by rw [<- e1]; exact a,y,List.mem_cons_of_mem _ hy,e'.trans e1⟩
         · obtain ⟨a,y,hy,e'⟩:=ih z hz e;exact ⟨a,y,List.mem_cons_of_mem _ hy,e'⟩
   · obtain ⟨a,y,hy,e⟩:=ih h;exact ⟨a,y,List.mem_cons_of_mem _ hy,e⟩
theorem vdi {l:Sp} (h:∀ x ∈ l,x.2.nonneg) (k:Mo):wc2 (yc6 l) k=wc2 l k:=by
 rw [vgw]
 by_cases hk:k.nonneg
 · rw [if_pos hk]
 · rw [if_neg hk,qde fun x hx (e:x.2=k)=>hk (e ▸ h x hx)]
theorem wht {l:Sp} (h:zde l) (hn:∀ x ∈ l,x.2.nonneg):yc6 l=l:=zde.uniq _ _ (udc l) h (vdi hn)
theorem whd {l l':Sp} (h:∀ k,k.nonneg->wc2 l k=wc2 l' k):yc6 l=yc6 l':=zde.uniq _ _ (udc l) (udc l') fun k=>by
 rw [vgw,vgw]
 by_cases hk:k.nonneg
 · rw [if_pos hk,if_pos hk,h k hk]
 · rw [if_neg hk,if_neg hk]
theorem xio {l l':Sp} (hc:zde l') (hn:∀ x ∈ l',x.2.nonneg) (h:∀ k,k.nonneg->wc2 l' k=wc2 l k):l'=yc6 l:=by
 rw [<- wht hc hn]; exact whd h
def yc4 : Sp -> Nat
 | []=>0
 | (c,_) :: r=>c.natAbs+yc4 r
theorem ydj (l r:Sp):yc4 (l ++ r)=yc4 l+yc4 r:=by
 induction l with
 | nil=>simp [yc4]
 | cons x l ih=>obtain ⟨c,m⟩:=x; simp only [List.cons_append,yc4,ih]; omega
theorem jio (c:Int) (m:Mo) (l:Sp):yc4 (wgw c m l)<=c.natAbs+yc4 l:=by
 induction l with
 | nil=>unfold wgw; split <;> simp [yc4]
 | cons x r ih =>
   obtain ⟨d,n⟩:=x;unfold wgw
   split
   · split <;> simp only [yc4] <;> omega
   · split
     · split <;> simp only [yc4] <;> omega
     · simp only [yc4]; omega
theorem qho (l:Sp):yc4 (yc6 l)<=yc4 l:=by
 induction l with
 | nil=>exact Nat.le_refl _
 | cons x r ih =>
   obtain ⟨c,m⟩:=x;unfold yc6;have:=jio c m (yc6 r)
   split <;> simp only [yc4] <;> omega
theorem ght {l:Sp} {x:Int × Mo} (h:x ∈ l):x.1.natAbs<=yc4 l:=by
 induction l with
 | nil=>cases h
 | cons y r ih =>
   obtain ⟨c,m⟩:=y;rcases List.mem_cons.1 h with rfl | h
   · simp only [yc4]; omega
   · have:=ih h; simp only [yc4]; omega
theorem yh1 (f:Int × Mo->Bool) (l:Sp):yc4 (l.filter f)<=yc4 l:=by
 induction l with
 | nil=>exact Nat.le_refl _
 | cons x r ih =>
   obtain ⟨c,m⟩:=x;rw [List.filter_cons]
   split <;> simp only [yc4] <;> omega
def Pl.ofS (l:Sp):Pl:=bld 4 (yc6 l)
def Pl.nf (p:Pl):Pl:=Pl.ofS (p.terms Mo.one)
theorem Pl.ofS_can (l:Sp):(Pl.ofS l).Can:=(khn (udc l) (fun _ hx=>(kdc hx).1)).1
theorem Pl.ofS_coef (l:Sp) (k:Mo):wc2 ((Pl.ofS l).terms Mo.one) k=if k.nonneg then wc2 l k else 0:=
 ((khn (udc l) (fun _ hx=>(kdc hx).1)).2 k).trans (vgw l k)
theorem Mo.put_nonneg {m:Mo} {i e:Int} (h:m.nonneg) (he:0<=e):(m.put i e).nonneg:=by
 unfold Mo.nonneg at *; unfold Mo.put; split <;> (try split) <;> (try split) <;> simp_all
theorem Mo.one_nonneg:Mo.one.nonneg:=by unfold Mo.nonneg Mo.one; simp
theorem Mo.get_nonneg {m:Mo} (h:m.nonneg) (i:Int):0<=m.get i:=by
 unfold Mo.nonneg at h; unfold Mo.get; split <;> (try split) <;> (try split) <;> omega
mutual
theorem Pl.terms_nonneg : ∀ (p : Pl) (m : Mo), m.nonneg -> ∀ x ∈ p.terms m, x.2.nonneg
 | .mk l n d cs,m,hm,x,hx=>by
   rw [Pl.terms] at hx
   split at hx
   · rw [List.mem_singleton.1 hx]; exact hm
   · split at hx
     · cases hx
     · exact ug5 cs m l (m.get l) hm (Mo.get_nonneg hm l) x hx
theorem ug5 : ∀ (cs : List Pl) (m : Mo) (l e : Int), m.nonneg -> 0 <= e -> ∀ x ∈ gc2 m l e cs, x.2.nonneg
 | [],m,l,e,hm,he,x,hx=>by rw [gc2] at hx; cases hx
 | c :: r,m,l,e,hm,he,x,hx=>by
   rw [gc2] at hx;rcases List.mem_append.1 hx with hx | hx
   · exact Pl.terms_nonneg c _ (Mo.put_nonneg hm he) x hx
   · exact ug5 r m l (e+1) hm (by omega) x hx
end
theorem Pl.terms_one_nonneg (p:Pl):∀ x ∈ p.terms Mo.one,x.2.nonneg:=Pl.terms_nonneg p _ Mo.one_nonneg
theorem Pl.nf_can (p:Pl):p.nf.Can:=Pl.ofS_can _
theorem Pl.nf_coef (p:Pl) (k:Mo):wc2 (p.nf.terms Mo.one) k=wc2 (p.terms Mo.one) k:=
 ((khn (udc _) (fun _ hx=>(kdc hx).1)).2 k).trans (vdi p.terms_one_nonneg k)
theorem Pl.nf_of_can {p:Pl} (h:p.Can):p.nf=p:=Pl.can_eq p.nf_can h p.nf_coef
theorem Pl.nf_val (ρ:Int->Rat) (p:Pl):p.nf.val ρ=p.val ρ:=Pl.val_coef ρ p.nf_coef
mutual
def Pl.sz : Pl -> Nat
 | .mk _ _ _ cs=>kc5 cs+1
def kc5 : List Pl -> Nat
 | []=>0
 | c :: r=>c.sz+kc5 r
end
mutual
def Pl.dm : Pl -> Nat
 | .mk _ _ d cs=>max d.length (xdb cs)
def xdb : List Pl -> Nat
 | []=>0
 | c :: r=>max c.dm (xdb r)
end
theorem ygs {cs:List Pl} {c:Pl} (h:c ∈ cs):c.sz<=kc5 cs:=by
 induction cs with
 | nil=>cases h
 | cons x r ih =>
   rcases List.mem_cons.1 h with rfl | h
   · unfold kc5; omega
   · have:=ih h; unfold kc5; omega
theorem Pl.sz_kid {p c:Pl} (h:c ∈ p.cs):c.sz < p.sz:=by
 cases p with
 | mk l n d cs =>
   have h1:c.sz<=kc5 cs:=ygs (cs:=cs) h;have h2:(Pl.mk l n d cs).sz=kc5 cs+1:=by rw [Pl.sz]
   omega
theorem ude (cs:List Pl):cs.length<=kc5 cs:=by
 induction cs with
 | nil=>exact Nat.le_refl _
 | cons x r ih=>cases x; unfold kc5 Pl.sz; simp only [List.length_cons]; omega
theorem Pl.sz_len (p:Pl):p.cs.length < p.sz:=by
 cases p with
 | mk l n d cs =>
   have h1:=ude cs;have h2:(Pl.mk l n d cs).sz=kc5 cs+1:=by rw [Pl.sz]
   have h3:(Pl.mk l n d cs).cs=cs:=rfl;rw [h3]; omega
theorem uhe (a b:List Pl):kc5 (a ++ b)=kc5 a+kc5 b:=by
 induction a with
 | nil=>simp [kc5]
 | cons x r ih=>simp only [List.cons_append,kc5,ih]; omega
theorem jih (l:List Pl) (k:Nat) (h:k < l.length):kc5 (l.drop k)=l[k].sz+kc5 (l.drop (k+1)):=by
 rw [List.drop_eq_getElem_cons h]; simp only [kc5]
theorem jg2 {cs:List Pl} {c:Pl} (h:c ∈ cs):c.dm<=xdb cs:=by
 induction cs with
 | nil=>cases h
 | cons x r ih =>
   rcases List.mem_cons.1 h with rfl | h
   · unfold xdb; omega
   · have:=ih h; unfold xdb; omega
theorem Pl.dm_ds (p:Pl):p.ds.length<=p.dm:=by
 cases p with
 | mk l n d cs =>
   have h2:(Pl.mk l n d cs).dm=max d.length (xdb cs):=by rw [Pl.dm]
   have h3:(Pl.mk l n d cs).ds=d:=rfl;rw [h3]; omega
mutual
theorem Pl.terms_len : ∀ (p : Pl) (m : Mo), (p.terms m).length <= p.sz
 | .mk l n d cs,m=>by
   rw [Pl.terms,Pl.sz]
   split
   · simp
   · split
     · simp
     · have:=xdj cs m l (m.get l); omega
theorem xdj : ∀ (cs : List Pl) (m : Mo) (l e : Int), (gc2 m l e cs).length <= kc5 cs
 | [],m,l,e=>by rw [gc2]; simp
 | c :: r,m,l,e=>by
   rw [gc2,List.length_append,kc5];have:=Pl.terms_len c (m.put l e);have:=xdj r m l (e+1);omega
end
theorem Mo.put_le {m:Mo} {l e E:Int} (h:m.a<=E/\m.b<=E/\m.c<=E/\m.d<=E) (he:e<=E):(m.put l e).a<=E/\(m.put l e).b<=E/\(m.put l e).c<=E/\(m.put l e).d<=E:=by
 unfold Mo.put; split <;> (try split) <;> (try split) <;> simp_all
def Mo.le (m:Mo) (E:Int):Prop:=m.a<=E/\m.b<=E/\m.c<=E/\m.d<=E
theorem Mo.le.get {m:Mo} {E:Int} (h:m.le E) (i:Int):m.get i<=E:=by
 unfold Mo.le at h; unfold Mo.get; split <;> (try split) <;> (try split) <;> omega
theorem Mo.le.put {m:Mo} {E:Int} (h:m.le E) (l e:Int) (he:e<=E):(m.put l e).le E:=Mo.put_le h he
theorem Mo.le.mono {m:Mo} {E E':Int} (h:m.le E) (he:E<=E'):m.le E':=by unfold Mo.le at *; omega
theorem Mo.one_le:Mo.one.le 0:=by unfold Mo.le Mo.one; simp
mutual
theorem Pl.terms_le : ∀ (p : Pl) (m : Mo) (E : Int), m.le E -> ∀ x ∈ p.terms m, x.2.le (E + p.sz)
 | .mk l n d cs,m,E,hm,x,hx=>by
   rw [Pl.terms] at hx
   split at hx
   · rw [List.mem_singleton.1 hx]; exact hm.mono (by omega)
   · split at hx
     · cases hx
     · have:=jhi cs m l (m.get l) E hm (hm.get l) x hx;refine this.mono ?_;rw [Pl.sz]; omega
theorem jhi : ∀ (cs : List Pl) (m : Mo) (l e E : Int), m.le E -> e <= E -> ∀ x ∈ gc2 m l e cs, x.2.le (E + kc5 cs)
 | [],m,l,e,E,hm,he,x,hx=>by rw [gc2] at hx; cases hx
 | c :: r,m,l,e,E,hm,he,x,hx=>by
   rw [gc2] at hx;rcases List.mem_append.1 hx with hx | hx
   · refine (Pl.terms_le c _ E (hm.put l e he) x hx).mono ?_;rw [kc5]; omega
   · refine (jhi r m l (e+1) (E+1) (hm.mono (by omega)) (by omega) x hx).mono ?_;have:1<=c.sz:=by cases c; rw [Pl.sz]; omega
     rw [kc5]; omega
end
mutual
theorem Pl.terms_nrm : ∀ (p : Pl) (m : Mo) (L : Nat), p.dm <= L -> p.dig -> yc4 (p.terms m) <= p.sz * B32 ^ L
 | .mk l n d cs,m,L,hL,hd=>by
   rw [Pl.dm] at hL;rw [Pl.dig] at hd;rw [Pl.terms,Pl.sz,Nat.add_mul,Nat.one_mul]
   split
   · simp only [yc4,qc7];have h1:=gc9 hd.1;have h2:B32 ^ d.length<=B32 ^ L:=Nat.pow_le_pow_right zc5 (by omega);omega
   · split
     · simp [yc4]
     · have:=vhe cs m l (m.get l) L (by omega) hd.2; omega
theorem vhe : ∀ (cs : List Pl) (m : Mo) (l e : Int) (L : Nat), xdb cs <= L -> wde cs -> yc4 (gc2 m l e cs) <= kc5 cs * B32 ^ L
 | [],m,l,e,L,hL,hd=>by rw [gc2]; simp [yc4]
 | c :: r,m,l,e,L,hL,hd=>by
   rw [xdb] at hL;rw [wde] at hd;rw [gc2,ydj,kc5,Nat.add_mul];have:=Pl.terms_nrm c (m.put l e) L (by omega) hd.1;have:=vhe r m l (e+1) L (by omega) hd.2;omega
end
theorem zi9 (E:Nat) (n:Nat):∀ l:Sp,(∀ x ∈ l,x.2.le E)->(bld n l).sz<=(E+2) ^ n:=by
 induction n with
 | zero =>
   intro l _;cases l with
   | nil=>simp [bld,Pl.zero,Pl.sz,kc5]
   | cons x r=>obtain ⟨c,m⟩:=x; simp [bld,Pl.const,Pl.sz,kc5]
 | succ n ih =>
   intro l hl;have hpos:1<=(E+2) ^ n:=Nat.pow_pos (by omega);cases l with
   | nil=>simp only [bld,Pl.zero,Pl.sz,kc5]; exact Nat.pow_pos (by omega)
   | cons x r =>
     obtain ⟨c,m⟩:=x;rw [bld]
     split
     · have:=ih _ hl;rw [Nat.pow_succ];exact Nat.le_trans this (Nat.le_mul_of_pos_right _ (by omega))
     · have hg:m.get ((n+1:Nat):Int)<=E:=(hl (c,m) (by simp)).get ((n+1:Nat):Int);have key:∀ k,kc5 ((List.range k).map fun (i:Nat)=>bld n (((c,m) :: r).filter fun x=>decide (x.2.get (n+1:Nat)=Int.ofNat i)))<=k * (E+2) ^ n:=by
        intro k
        induction k with
        | zero=>simp [kc5]
        | succ k ihk =>
          rw [List.range_succ,List.map_append,uhe,Nat.add_mul,Nat.one_mul];have:=ih (((c,m) :: r).filter fun x=>decide (x.2.get (n+1:Nat)=Int.ofNat k)) (fun x hx=>hl x (List.mem_filter.1 hx).1);simp only [List.map_cons,List.map_nil,kc5];omega
       rw [Pl.sz,Nat.pow_succ];have h1:=key ((m.get (n+1:Nat)).toNat+1);have h2:((m.get (n+1:Nat)).toNat+1) * (E+2) ^ n<=(E+1) * (E+2) ^ n:=Nat.mul_le_mul_right _ (by omega);have h3:(E+2) ^ n * (E+2)=(E+1) * (E+2) ^ n+(E+2) ^ n:=by rw [Nat.mul_comm,<- Nat.succ_mul]
       omega
theorem qi9 (L:Nat) (n:Nat):∀ l:Sp,(∀ x ∈ l,(dg x.1.natAbs).length<=L)->(bld n l).dm<=L:=by
 induction n with
 | zero =>
   intro l hl;cases l with
   | nil=>simp [bld,Pl.zero,Pl.dm,xdb]
   | cons x r=>obtain ⟨c,m⟩:=x; have:=hl (c,m) (by simp); simpa [bld,Pl.const,Pl.dm,xdb] using this
 | succ n ih =>
   intro l hl;cases l with
   | nil=>simp [bld,Pl.zero,Pl.dm,xdb]
   | cons x r =>
     obtain ⟨c,m⟩:=x;rw [bld]
     split
     · exact ih _ hl
     · rw [Pl.dm];have key:∀ cs:List Pl,(∀ c ∈ cs,c.dm<=L)->xdb cs<=L:=by
        intro cs
        induction cs with
        | nil=>intro _; simp [xdb]
        | cons y r ihr=>intro h; rw [xdb]; have:=h y (by simp); have:=ihr (fun z hz=>h z (by simp [hz])); omega
       have:=key _ (fun (p:Pl) (hp:p ∈ (List.range ((m.get (n+1:Nat)).toNat+1)).map fun (i:Nat)=>bld n (((c,m) :: r).filter fun x=>decide (x.2.get (n+1:Nat)=Int.ofNat i)))=>by
        obtain ⟨i,-,rfl⟩:=List.mem_map.1 hp
        exact ih _ (fun x hx=>hl x (List.mem_filter.1 hx).1))
       simp only [List.length_nil];omega
/- Maps from monomials (arrays of four numbers) to values: what a block that is such a map holds, and what reading and writing it does. -/
open Go.RowKit
def moV (m:Mo):Value:=.agg #[.int .i64 m.a,.int .i64 m.b,.int .i64 m.c,.int .i64 m.d]
def mog (l:List (Mo × Value)) (s:Mo):Option Value:=match l with
 | []=>none
 | (k,v) :: r=>if s=k then some v else mog r s
def mop (l:List (Mo × Value)) (s:Mo) (u:Value):List (Mo × Value):=match l with
 | []=>[(s,u)]
 | (k,v) :: r=>if s=k then (s,u) :: r else (k,v) :: mop r s u
def xdf (w:World) (b:Nat) (l:List (Mo × Value)):Prop:=
 ∃ es clock,w.heap[b]?=some (.map es clock)/\es.toList.map (fun e=>(e.key,e.val))=l.map (fun x=>(moV x.1,x.2))
theorem xdf.lt {w:World} {b:Nat} {l:List (Mo × Value)} (h:xdf w b l):b < w.heap.size:=by
 obtain ⟨es,clock,hb,_⟩:=h;exact (Array.getElem?_eq_some_iff.1 hb).1
theorem xdf.made (w:World):xdf (w.alloc (.map #[] 0)) w.heap.size []:=⟨#[],0,heap_alloc_new w _,rfl⟩
theorem xdf.block {w w':World} {b:Nat} {l:List (Mo × Value)} (h:xdf w b l) (hx:w'.heap[b]?=w.heap[b]?):xdf w' b l:=by
 obtain ⟨es,clock,hb,he⟩:=h;exact ⟨es,clock,hx.trans hb,he⟩
theorem xdf.ext {w w':World} {b:Nat} {l:List (Mo × Value)} (h:xdf w b l) (hx:Ext w w'):xdf w' b l:=h.block (hx.below.block b h.lt)
theorem yig (m n:Mo) (w:World):(Op.equal 114 (moV m) (moV n)).run Tryz.prog w=.ok (decide (m=n)) w:=by
 obtain ⟨a,b,c,d⟩:=m;obtain ⟨a',b',c',d'⟩:=n;have hin:∀ (x y:Int) (k:Nat),(Op.equalIn (k+1) 3 (.int .i64 x) (.int .i64 y)).run Tryz.prog w=.ok (x == y) w:=by
  intro x y k;simp [Op.equalIn,run_underlying Tryz.underlying3]
 simp only [Mo.mk.injEq];unfold Op.equal Op.maxDepth moV;rw [show (10000:Nat)=9998+1+1 from rfl];have hp0:∀ (x0 x1 x2 x3:Int),(part 3 #[Value.int .i64 x0,.int .i64 x1,.int .i64 x2,.int .i64 x3] 0).run Tryz.prog w=.ok (.int .i64 x0) w/\(part 3 #[Value.int .i64 x0,.int .i64 x1,.int .i64 x2,.int .i64 x3] 1).run Tryz.prog w=.ok (.int .i64 x1) w/\(part 3 #[Value.int .i64 x0,.int .i64 x1,.int .i64 x2,.int .i64 x3] 2).run Tryz.prog w=.ok (.int .i64 x2) w/\(part 3 #[Value.int .i64 x0,.int .i64 x1,.int .i64 x2,.int .i64 x3] 3).run Tryz.prog w=.ok (.int .i64 x3) w:=by
  intro x0 x1 x2 x3;refine ⟨?_,?_,?_,?_⟩ <;> simp [part,Tryz.isAgg3]
 rw [Op.equalIn];simp only [Sem.run_bind,run_underlying Tryz.underlying114,Result.andThen_ok,Tryz.sizeOf3];simp only [Std.Legacy.Range.forIn_eq_forIn_range',Std.Legacy.Range.size,List.range',List.forIn_cons,Sem.run_bind,Nat.zero_mul,Nat.one_mul,Nat.mul_one,Nat.zero_add,Nat.add_zero,Nat.sub_zero,Nat.div_one,Nat.add_sub_cancel,hp0,Result.andThen_ok,hin]
 by_cases h1:a=a'
 · by_cases h2:b=b'
   · by_cases h3:c=c'
     · by_cases h4:d=d'
       · simp [h1,h2,h3,h4,hp0,hin]
       · simp [h1,h2,h3,h4,hp0,hin]
     · simp [h1,h2,h3,hp0,hin]
   · simp [h1,h2,hp0,hin]
 · simp [h1]
theorem wg9 (w:World) (m:Mo) (es:List MapEntry) (l:List (Mo × Value)) (h:es.map (fun e=>(e.key,e.val))=l.map (fun x=>(moV x.1,x.2))) :
 ∀ i,((Instr.findAsking 114 (moV m) es i).run Tryz.prog w=.ok none w/\mog l m=none/\(∀ u,mop l m u=l ++ [(m,u)])) \/
   ∃ k v,(Instr.findAsking 114 (moV m) es i).run Tryz.prog w=.ok (some (i+k,v)) w/\mog l m=some v/\(∀ u,mop l m u=l.set k (m,u))/\(es[k]?).map (·.key)=some (moV m)/\k < es.length:=by
 induction es generalizing l with
 | nil =>
   intro i
   have:l=[]:=by cases l with
    | nil=>rfl
    | cons x r=>simp at h
   subst this;exact .inl ⟨by simp [Instr.findAsking],rfl,fun u=>rfl⟩
 | cons e es ih =>
   cases l with
   | nil=>simp at h
   | cons x r =>
     obtain ⟨k,v⟩:=x;simp only [List.map_cons,List.cons.injEq,Prod.mk.injEq] at h;obtain ⟨⟨hk,hv⟩,hr⟩:=h;intro i;have he:=yig m k w
     by_cases hs:m=k
     · subst hs;refine .inr ⟨0,v,?_,by simp [mog],fun u=>by simp [mop],by simp [hk],by simp⟩;simp [Instr.findAsking,hk,hv,he]
     · rcases ih r hr (i+1) with ⟨h1,h2,h3⟩ | ⟨j,u,h1,h2,h3,h4,h5⟩
       · refine .inl ⟨by simp [Instr.findAsking,hk,he,hs,h1],by simp [mog,hs,h2],fun u=>by simp [mop,hs,h3]⟩
       · refine .inr ⟨j+1,u,?_,by simp [mog,hs,h2],fun u=>by simp [mop,hs,h3],by simpa using h4,by simp; omega⟩;simp [Instr.findAsking,hk,he,hs,h1]; omega
theorem zhk (w:World) (m:Mo) (es:List MapEntry) (l:List (Mo × Value)) (h:es.map (fun e=>(e.key,e.val))=l.map (fun x=>(moV x.1,x.2))) :
 (Instr.findKey 114 (moV m) es).run Tryz.prog w=(Instr.findAsking 114 (moV m) es 0).run Tryz.prog w:=by
 unfold Instr.findKey;simp only [Sem.run_bind,run_underlying Tryz.underlying114,Result.andThen_ok];cases es with
 | nil=>simp [Instr.findNow,Instr.findAsking]
 | cons e es=>rfl
theorem ghf (b:Bool) (m:Mo) (w:World):(Instr.checkKey b 10000 114 (moV m)).run Tryz.prog w=.ok () w:=by
 obtain ⟨x0,x1,x2,x3⟩:=m;have hin:∀ (k:Nat) (x:Int),(Instr.checkKey b (k+1) 3 (.int .i64 x)).run Tryz.prog w=.ok () w:=by
  intro k x;simp [Instr.checkKey,run_underlying Tryz.underlying3]
 rw [show (10000:Nat)=9998+1+1 from rfl];unfold moV;rw [Instr.checkKey];simp only [Sem.run_bind,run_underlying Tryz.underlying114,Result.andThen_ok,Tryz.sizeOf3];simp [Std.Legacy.Range.forIn_eq_forIn_range',Std.Legacy.Range.size,List.range',part,Tryz.isAgg3,Tryz.sizeOf3,hin]
theorem xdf.look {w:World} {b:Nat} {l:List (Mo × Value)} (h:xdf w b l) (s:Mo) (ok:Bool) :
 (Instr.lookup 211 (.map (some b)) (moV s) ok).run Tryz.prog w=.ok (if ok then .tuple #[(mog l s).getD (.int .i64 0),.bool (mog l s).isSome] else (mog l s).getD (.int .i64 0)) w:=by
 obtain ⟨es,clock,hb,he⟩:=h;have hg:=MapKept.run_getObj_map (P:=Tryz.prog) hb;have hck:=ghf es.isEmpty s w;have hfk:=zhk w s es.toList l he;have ht:=Tryz.underlying211;rcases wg9 w s es.toList l he 0 with ⟨h1,h2,-⟩ | ⟨i,v,h1,h2,-,-⟩
 · rw [h1] at hfk;simp only [Instr.lookup,h2];cases ok <;> simp [run_underlying ht,hg,hck,hfk,Tryz.zeroValue3]
 · rw [h1] at hfk;simp only [Instr.lookup,h2];cases ok <;> simp [run_underlying ht,hg,hck,hfk]
theorem xdf.put {w:World} {b:Nat} {l:List (Mo × Value)} (h:xdf w b l) (s:Mo) (u:Value) :
 ∃ w',(Instr.mapUpdate 211 (.map (some b)) (moV s) u).run Tryz.prog w=.ok () w'/\xdf w' b (mop l s u)/\Only b w w':=by
 have hlt:=h.lt;obtain ⟨es,clock,hb,he⟩:=h;have hg:=MapKept.run_getObj_map (P:=Tryz.prog) hb;have hck:=ghf false s w;have hfk:=zhk w s es.toList l he;have ht:=Tryz.underlying211;have hon:∀ o,Only b w { w with heap:=w.heap.setIfInBounds b o }:=fun o=>⟨rfl,rfl,rfl,by simp,fun i hi hne=>by
  have:b ≠ i:=fun e=>hne (by rw [e])
  simp [Array.getElem?_setIfInBounds,this]⟩
 rcases wg9 w s es.toList l he 0 with ⟨h1,-,h3⟩ | ⟨i,v,h1,-,h3,h4,h5⟩
 · rw [h1] at hfk;have hs:=MapKept.run_setObj_map (P:=Tryz.prog) (.map (es.push { key:=moV s,val:=u,born:=clock }) (clock+1)) hb;refine ⟨_,?_,?_,hon (.map (es.push { key:=moV s,val:=u,born:=clock }) (clock+1))⟩
   · simp [Instr.mapUpdate,run_underlying ht,hg,hck,hfk,hs]
   · refine ⟨_,_,by simp [Array.getElem?_setIfInBounds,hlt]; exact ⟨rfl,rfl⟩,?_⟩;rw [h3];simpa using he
 · rw [h1] at hfk;have hkey:(es[i]?).map (·.key)=some (moV s):=by simpa using h4
   have hst:(Instr.keyThatStays (moV s) (moV s)).run Tryz.prog w=.ok (moV s) w:=by
    simp [Instr.keyThatStays,Instr.sameBits,moV]
   have hs:=MapKept.run_setObj_map (P:=Tryz.prog) (.map (es.modify i fun e=>{ e with key:=moV s,val:=u }) clock) hb;refine ⟨_,?_,?_,hon (.map (es.modify i fun e=>{ e with key:=moV s,val:=u }) clock)⟩
   · simp [Instr.mapUpdate,run_underlying ht,hg,hck,hfk,hkey,hst,hs]
   · refine ⟨_,_,by simp [Array.getElem?_setIfInBounds,hlt]; exact ⟨rfl,rfl⟩,?_⟩;rw [h3];apply List.ext_getElem?;intro j;have hej:=congrArg (fun L=>L[j]?) he;simp only [List.getElem?_map,Array.getElem?_toList] at hej;simp only [List.getElem?_map,Array.getElem?_toList,Array.getElem?_modify,List.getElem?_set]
     by_cases hij:i=j
     · subst hij;have hl:i < l.length:=by
        have:=congrArg List.length he;simp at this h5;omega
       have h5':i < es.size:=by simpa using h5
       simp [hl,h5']
     · simp [hij,hej]
/- Type assertions to struct types. -/
def zh5 (P:Program) (T:TypeId):Bool:=match P.underlying T with
 | some (.struct _)=>true
 | _=>false
theorem uc4 {P:Program} {T:TypeId} {z:Value} (h:zh5 P T=true) (hz:(P.info? T).map (·.zero)=some (some z)) (t:TypeId) (v:Value) (xT:TypeId) (w:World) :
 (Instr.typeAssert (.iface t v) xT T true).run P w=.ok (.tuple #[if t=T then v else z,.bool (decide (t=T))]) w:=by
 obtain ⟨j,hj,hz'⟩:=Option.map_eq_some_iff.1 hz;unfold zh5 at h
 split at h
 · rename_i fs hu
   by_cases ht:t=T
   · subst ht;simp [Instr.typeAssert,run_underlying hu]
   · simp [Instr.typeAssert,run_underlying hu,ht,zeroValue,typeInfo,hj,hz']
 · cases h
theorem gdg (t:TypeId) (v:Value) (xT:TypeId) (w:World):(Instr.typeAssert (.iface t v) xT 63 true).run Tryz.prog w=.ok (.tuple #[if t=63 then v else .agg #[.bool false,.slice none 0 0],.bool (decide (t=63))]) w:=
 uc4 (by kernel_rfl) (by kernel_rfl) t v xT w
theorem jde (t:TypeId) (v:Value) (xT:TypeId) (w:World):(Instr.typeAssert (.iface t v) xT 60 true).run Tryz.prog w=.ok (.tuple #[if t=60 then v else .agg #[.string ByteArray.empty],.bool (decide (t=60))]) w:=
 uc4 (by kernel_rfl) (by kernel_rfl) t v xT w
theorem jdh (t:TypeId) (v:Value) (xT:TypeId) (w:World):(Instr.typeAssert (.iface t v) xT 199 true).run Tryz.prog w=.ok (.tuple #[if t=199 then v else .agg #[.nilIface,.nilIface],.bool (decide (t=199))]) w:=
 uc4 (by kernel_rfl) (by kernel_rfl) t v xT w
theorem vdg (t:TypeId) (v:Value) (xT:TypeId) (w:World):(Instr.typeAssert (.iface t v) xT 200 true).run Tryz.prog w=.ok (.tuple #[if t=200 then v else .agg #[.nilIface,.nilIface],.bool (decide (t=200))]) w:=
 uc4 (by kernel_rfl) (by kernel_rfl) t v xT w
theorem ydh (t:TypeId) (v:Value) (xT:TypeId) (w:World):(Instr.typeAssert (.iface t v) xT 201 true).run Tryz.prog w=.ok (.tuple #[if t=201 then v else .agg #[.nilIface,.nilIface],.bool (decide (t=201))]) w:=
 uc4 (by kernel_rfl) (by kernel_rfl) t v xT w
theorem zdh (t:TypeId) (v:Value) (xT:TypeId) (w:World):(Instr.typeAssert (.iface t v) xT 197 true).run Tryz.prog w=.ok (.tuple #[if t=197 then v else .agg #[.nilIface],.bool (decide (t=197))]) w:=
 uc4 (by kernel_rfl) (by kernel_rfl) t v xT w
theorem udg (t:TypeId) (v:Value) (xT:TypeId) (w:World):(Instr.typeAssert (.iface t v) xT 204 true).run Tryz.prog w=.ok (.tuple #[if t=204 then v else .agg #[.nilIface,.int .i64 0],.bool (decide (t=204))]) w:=
 uc4 (by kernel_rfl) (by kernel_rfl) t v xT w
theorem gdb (t:TypeId) (v:Value) (xT:TypeId) (w:World):(Instr.typeAssert (.iface t v) xT 154 true).run Tryz.prog w=.ok (.tuple #[if t=154 then v else .agg #[.bool false],.bool (decide (t=154))]) w:=
 uc4 (by kernel_rfl) (by kernel_rfl) t v xT w
theorem kde (t:TypeId) (v:Value) (xT:TypeId) (w:World):(Instr.typeAssert (.iface t v) xT 67 true).run Tryz.prog w=.ok (.tuple #[if t=67 then v else .agg #[.nilIface,.int .i64 0,.nilIface],.bool (decide (t=67))]) w:=
 uc4 (by kernel_rfl) (by kernel_rfl) t v xT w
theorem wdg (t:TypeId) (v:Value) (xT:TypeId) (w:World):(Instr.typeAssert (.iface t v) xT 158 true).run Tryz.prog w=.ok (.tuple #[if t=158 then v else .agg #[.nilIface],.bool (decide (t=158))]) w:=
 uc4 (by kernel_rfl) (by kernel_rfl) t v xT w
theorem qdh (t:TypeId) (v:Value) (xT:TypeId) (w:World):(Instr.typeAssert (.iface t v) xT 160 true).run Tryz.prog w=.ok (.tuple #[if t=160 then v else .agg #[.nilIface,.nilIface],.bool (decide (t=160))]) w:=
 uc4 (by kernel_rfl) (by kernel_rfl) t v xT w
theorem wgt (t:TypeId) (v:Value) (xT:TypeId) (w:World):(Instr.typeAssert (.iface t v) xT 161 true).run Tryz.prog w=.ok (.tuple #[if t=161 then v else .agg #[.nilIface,.nilIface],.bool (decide (t=161))]) w:=
 uc4 (by kernel_rfl) (by kernel_rfl) t v xT w
theorem uc9 (t:TypeId) (v:Value) (xT:TypeId) (w:World):(Instr.typeAssert (.iface t v) xT 162 true).run Tryz.prog w=.ok (.tuple #[if t=162 then v else .agg #[.nilIface,.nilIface],.bool (decide (t=162))]) w:=
 uc4 (by kernel_rfl) (by kernel_rfl) t v xT w
theorem xdh (t:TypeId) (v:Value) (xT:TypeId) (w:World):(Instr.typeAssert (.iface t v) xT 163 true).run Tryz.prog w=.ok (.tuple #[if t=163 then v else .agg #[.nilIface,.nilIface],.bool (decide (t=163))]) w:=
 uc4 (by kernel_rfl) (by kernel_rfl) t v xT w
theorem wdb (t:TypeId) (v:Value) (xT:TypeId) (w:World):(Instr.typeAssert (.iface t v) xT 185 true).run Tryz.prog w=.ok (.tuple #[if t=185 then v else .agg #[.bool false,.string ByteArray.empty,.nilIface],.bool (decide (t=185))]) w:=
 uc4 (by kernel_rfl) (by kernel_rfl) t v xT w
end Go.Proofs.YtopddaabiinboaaGreat
