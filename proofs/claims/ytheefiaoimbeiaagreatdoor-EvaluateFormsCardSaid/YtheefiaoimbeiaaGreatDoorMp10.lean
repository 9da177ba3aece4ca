/- What recpoly.isCanonical asks, plain. -/
import Derived.Test.YtheefiaoimbeiaaGreatDoorMp9
set_option linter.unusedSimpArgs false
set_option linter.unusedVariables false
namespace Go.Proofs.YtheefiaoimbeiaaGreatDoor
def Pl.xw (p:Pl):Bool:=decide (p.lv=0) && decide (p.ds.length=0)
mutual
def Pl.qu : Pl -> Bool
 | .mk l n d cs=>if l=0 then (if 0 < cs.length then false else (decide (d.length=0) && !n) || (decide (0 < d.length) && decide (d.getLast? ≠ some 0)))
   else if (l < 1\/4 < l)\/0 < d.length\/n=true\/cs.length < 2 then false
   else jd4 l cs && (match cs.getLast? with
    | some c=>!c.xw
    | none=>true)
def jd4 (l : Int) : List Pl -> Bool
 | []=>true
 | c :: r=>decide (c.lv < l) && c.qu && jd4 l r
end
mutual
def Pl.dig : Pl -> Prop
 | .mk _ _ d cs=>kdk d/\gdy cs
def gdy : List Pl -> Prop
 | []=>True
 | c :: r=>c.dig/\gdy r
end
theorem zfl {d:List Nat} (hd:kdk d) (h0:0 < d.length):d=dg (val d) ↔ d.getLast? ≠ some 0:=by
 rw [ket hd];obtain ⟨k,hk⟩:∃ k,d.length=k+1:=⟨d.length - 1,by omega⟩;have hl:d.getLast?=some (d.getD k 0):=by
  rw [sH,pB,hk,Nat.add_sub_cancel,pq (by omega)]; rfl
 have ht:d=d.take (kdw d d.length) ↔ kdw d d.length=d.length:=by
  constructor
  · intro h;have:=congrArg List.length h;rw [px] at this;have:=ud7 d d.length;omega
  · intro h; rw [h,pw]
 rw [ht,hl,hk,kdw]
 by_cases h:d.getD k 0=0
 · rw [if_pos h,h];have:=ud7 d k
   constructor
   · intro e; omega
   · intro e; exact absurd rfl e
 · rw [if_neg h];simpa using h
theorem Pl.qN {p:Pl} (h:p.Can):p.xw=true ↔ p=Pl.zero:=by
 cases p with
 | mk l n d cs =>
   unfold Pl.Can at h;unfold Pl.xw Pl.zero;show (decide (l=0) && decide (d.length=0))=true ↔ _;rw [pj,decide_eq_true_eq,decide_eq_true_eq,List.length_eq_zero_iff,Pl.mk.injEq]
   constructor
   · rintro ⟨h1,h2⟩;rcases h with h | h
     · exact ⟨h1,h.2.2.2 h2,h2,h.2.1⟩
     · omega
   · rintro ⟨h1,-,h2,-⟩; exact ⟨h1,h2⟩
mutual
theorem Pl.ze : ∀ p : Pl, p.dig -> (p.qu = true ↔ p.Can)
 | .mk l n d cs,hd=>by
   rw [Pl.dig] at hd;have hcs:=qen cs;rw [Pl.qu,Pl.Can]
   by_cases h0:l=0
   · rw [if_pos h0]
     by_cases hc:0 < cs.length
     · rw [if_pos hc]
       constructor
       · intro h; cases h
       · intro h;rcases h with ⟨-,h,-⟩ | h
         · subst h; cases hc
         · omega
     · rw [if_neg hc];have hce:cs=[]:=pV (by omega);simp only [Bool.or_eq_true,pj,decide_eq_true_eq,uI,List.length_eq_zero_iff]
       by_cases hdl:0 < d.length
       · have hdn:d ≠ []:=by intro e; subst e; cases hdl
         have:=zfl hd.1 hdl
         constructor
         · rintro (⟨h,-⟩ | ⟨-,h⟩)
           · exact absurd h hdn
           · exact .inl ⟨h0,hce,this.2 h,fun e=>absurd e hdn⟩
         · rintro (h | h)
           · exact .inr ⟨hdl,this.1 h.2.2.1⟩
           · omega
       · have hdn:d=[]:=pV (by omega)
         constructor
         · rintro (⟨-,h⟩ | ⟨h,-⟩)
           · exact .inl ⟨h0,hce,by rw [hdn]; simp [val,jdn],fun _=>h⟩
           · omega
         · rintro (h | h)
           · exact .inl ⟨hdn,h.2.2.2 hdn⟩
           · omega
   · rw [if_neg h0]
     by_cases h1:(l < 1\/4 < l)\/0 < d.length\/n=true\/cs.length < 2
     · rw [if_pos h1]
       constructor
       · intro h; cases h
       · rintro (h | ⟨h2,h3,h4,h5,h6,-⟩)
         · exact absurd h.1 h0
         · subst h4 h5;simp at h1; omega
     · rw [if_neg h1];have h2:1<=l/\l<=4/\d.length=0/\n=false/\2<=cs.length:=by
        have hn:¬ n=true:=fun e=>h1 (.inr (.inr (.inl e)))
        refine ⟨?_,?_,?_,by simpa using hn,?_⟩ <;> omega
       have hl:cs.getLast?=some cs[cs.length - 1]:=by rw [sH,pq (by omega)]
       rw [hl];simp only [pj,uI]
       constructor
       · rintro ⟨ha,hb⟩;have hk:=(hcs l hd.2).1 ha;refine .inr ⟨h2.1,h2.2.1,h2.2.2.2.1,pV h2.2.2.1,h2.2.2.2.2,hk,?_⟩;intro e;have:=(Pl.qN (hk.mem _ (pt (by omega:cs.length - 1 < cs.length))).2).2 (uX e);rw [this] at hb; cases hb
       · rintro (h | ⟨-,-,-,-,-,hk,hne⟩)
         · exact absurd h.1 h0
         · refine ⟨(hcs l hd.2).2 hk,?_⟩;rw [Bool.eq_false_iff];intro e;exact hne (congrArg some ((Pl.qN (hk.mem _ (pt (by omega:cs.length - 1 < cs.length))).2).1 e))
theorem qen : ∀ (cs : List Pl) (l : Int), gdy cs -> (jd4 l cs = true ↔ wdp l cs)
 | [],l,_=>by rw [jd4,wdp]; simp
 | c :: r,l,hd=>by
   rw [gdy] at hd;rw [jd4,wdp,pj,pj,Pl.ze c hd.1,qen r l hd.2,decide_eq_true_eq,and_assoc]
end
theorem wee (l : Int) : ∀ cs : List Pl, jd4 l cs = cs.all fun c => decide (c.lv < l) && c.qu
 | []=>rfl
 | c :: r=>by rw [jd4,wee l r,List.all_cons]
theorem Pl.yf {l:Int} {n:Bool} {d:List Nat} {cs:List Pl} {c:Pl} (hl:l ≠ 0) (hc:c ∈ cs) (h:l<=c.lv\/c.qu=false):(Pl.mk l n d cs).qu=false:=by
 rw [Pl.qu,if_neg hl]
 split
 · rfl
 · have:jd4 l cs=false:=by
    rw [wee,tn];refine ⟨c,hc,?_⟩;rcases h with h | h
    · simp; intro h2; omega
    · simp [h]
   rw [this]; rfl
theorem Pl.ye {l:Int} {n:Bool} {d:List Nat} {cs:List Pl} (hl:l ≠ 0) (hg:¬ ((l < 1\/4 < l)\/0 < d.length\/n=true\/cs.length < 2)) (h:∀ c ∈ cs,c.lv < l/\c.qu=true) (hn:0 < cs.length):(Pl.mk l n d cs).qu=!(cs[cs.length - 1]).xw:=by
 rw [Pl.qu,if_neg hl,if_neg hg];have h1:jd4 l cs=true:=by
  rw [wee,List.all_eq_true];intro c hc;simp [h c hc]
 rw [h1,sH,pq (by omega)]
 rfl
def kd6 (c : Int) (m : Mo) : Sp -> Sp
 | []=>if c=0 then [] else [(c,m)]
 | (d,n) :: r=>if n.lt m then (if c=0 then (d,n) :: r else (c,m) :: (d,n) :: r) else if m=n then (if c+d=0 then r else (c+d,n) :: r) else (d,n) :: kd6 c m r
theorem wfn (c:Int) (m:Mo) (l:Sp) (k:Mo):ydk (kd6 c m l) k=(if m=k then c else 0)+ydk l k:=by
 induction l with
 | nil =>
   unfold kd6
   by_cases h:c=0
   · rw [if_pos h,h]; simp [ydk]
   · rw [if_neg h]; simp [ydk]
 | cons x r ih =>
   obtain ⟨d,n⟩:=x;unfold kd6
   by_cases h1:n.lt m
   · rw [if_pos h1]
     by_cases h:c=0
     · rw [if_pos h,h]; simp
     · rw [if_neg h]; simp [ydk]
   · rw [if_neg h1]
     by_cases h2:m=n
     · rw [if_pos h2]; subst h2
       by_cases h:c+d=0
       · rw [if_pos h]; simp only [ydk]; split <;> omega
       · rw [if_neg h]; simp only [ydk]; split <;> omega
     · rw [if_neg h2]; simp only [ydk,ih]; omega
theorem yep {c:Int} {m:Mo} {l:Sp} {x:Int × Mo} (h:x ∈ kd6 c m l):x.2=m\/∃ y ∈ l,y.2=x.2:=by
 induction l with
 | nil =>
   unfold kd6 at h
   split at h
   · cases h
   · left; rw [rb.1 h]
 | cons y r ih =>
   obtain ⟨d,n⟩:=y;unfold kd6 at h
   split at h
   · split at h
     · exact .inr ⟨x,h,rfl⟩
     · rcases pI.1 h with rfl | h
       · exact .inl rfl
       · exact .inr ⟨x,h,rfl⟩
   · split at h
     · split at h
       · exact .inr ⟨x,rk _ h,rfl⟩
       · rcases pI.1 h with rfl | h
         · exact .inr ⟨_,rB,rfl⟩
         · exact .inr ⟨x,rk _ h,rfl⟩
     · rcases pI.1 h with rfl | h
       · exact .inr ⟨_,rB,rfl⟩
       · rcases ih h with h | ⟨y,hy,e⟩
         · exact .inl h
         · exact .inr ⟨y,rk _ hy,e⟩
theorem ufw (c:Int) (m:Mo) (l:Sp) (h:kd7 l):kd7 (kd6 c m l):=by
 induction l with
 | nil =>
   unfold kd6
   split
   · exact trivial
   · rename_i hc; exact ⟨hc,fun _ hx=>(by cases hx),trivial⟩
 | cons x r ih =>
   obtain ⟨d,n⟩:=x;obtain ⟨h1,h2,h3⟩:=h;unfold kd6
   split
   · rename_i hlt
     split
     · exact ⟨h1,h2,h3⟩
     · rename_i hc;refine ⟨hc,fun y hy=>?_,h1,h2,h3⟩;rcases pI.1 hy with rfl | hy
       · exact hlt
       · exact Mo.lt_trans (h2 y hy) hlt
   · rename_i hlt
     split
     · rename_i he
       split
       · exact h3
       · rename_i hc; exact ⟨hc,h2,h3⟩
     · rename_i hne;refine ⟨h1,fun y hy=>?_,ih h3⟩;rcases yep hy with e | ⟨z,hz,e⟩
       · rw [e];rcases Mo.jB m n with h | h | h
         · exact h
         · exact absurd h hne
         · exact absurd h hlt
       · rw [<- e]; exact h2 z hz
def kdr : Sp -> Sp
 | []=>[]
 | (c,m) :: r=>if m.qg then kd6 c m (kdr r) else kdr r
theorem ud2 (l:Sp):kd7 (kdr l):=by
 induction l with
 | nil=>exact trivial
 | cons x r ih =>
   obtain ⟨c,m⟩:=x;unfold kdr
   split
   · exact ufw _ _ _ ih
   · exact ih
theorem ueg (l:Sp) (k:Mo):ydk (kdr l) k=if k.qg then ydk l k else 0:=by
 induction l with
 | nil=>simp [kdr,ydk]
 | cons x r ih =>
   obtain ⟨c,m⟩:=x;unfold kdr
   by_cases hm:m.qg
   · rw [if_pos hm,wfn,ih]
     by_cases hk:k.qg
     · rw [if_pos hk,if_pos hk]; simp only [ydk]
     · rw [if_neg hk,if_neg hk,if_neg (fun (e:m=k)=>hk (e ▸ hm))]; rfl
   · rw [if_neg hm,ih]
     by_cases hk:k.qg
     · rw [if_pos hk,if_pos hk]; simp only [ydk]; rw [if_neg (fun (e:m=k)=>hm (e ▸ hk))]; omega
     · rw [if_neg hk,if_neg hk]
theorem zd0 {l:Sp} {x:Int × Mo} (h:x ∈ kdr l):x.2.qg/\∃ y ∈ l,y.2=x.2:=by
 induction l with
 | nil=>cases h
 | cons y r ih =>
   obtain ⟨c,m⟩:=y;unfold kdr at h
   split at h
   · rename_i hm;rcases yep h with e | ⟨z,hz,e⟩
     · exact ⟨by rw [e]; exact hm,_,rB,e.symm⟩
     · suffices z.2.qg/\∃ y ∈ r,y.2=z.2 by
        obtain ⟨a,y,hy,e'⟩:=this;exact ⟨by rw [<- e]; exact a,y,rk _ hy,e'.trans e⟩
       clear ih h
       induction r generalizing z with
       | nil=>cases hz
       | cons y r ih =>
         obtain ⟨c',m'⟩:=y;unfold kdr at hz
         split at hz
         · rename_i hm';rcases yep hz with e1 | ⟨z',hz',e1⟩
           · exact ⟨by rw [e1]; exact hm',_,rB,e1.symm⟩
           · obtain ⟨a,y,hy,e'⟩:=ih z' hz' (e1.trans e);exact ⟨by rw [<- e1]; exact a,y,rk _ hy,e'.trans e1⟩
         · obtain ⟨a,y,hy,e'⟩:=ih z hz e;exact ⟨a,y,rk _ hy,e'⟩
   · obtain ⟨a,y,hy,e⟩:=ih h;exact ⟨a,y,rk _ hy,e⟩
theorem xd5 {l:Sp} (h:∀ x ∈ l,x.2.qg) (k:Mo):ydk (kdr l) k=ydk l k:=by
 rw [ueg]
 by_cases hk:k.qg
 · rw [if_pos hk]
 · rw [if_neg hk,ydx fun x hx (e:x.2=k)=>hk (e ▸ h x hx)]
def jdo : Sp -> Nat
 | []=>0
 | (c,_) :: r=>c.natAbs+jdo r
theorem qd9 (l r:Sp):jdo (l ++ r)=jdo l+jdo r:=by
 induction l with
 | nil=>simp [jdo]
 | cons x l ih=>obtain ⟨c,m⟩:=x; simp only [rj,jdo,ih]; omega
theorem vfw (c:Int) (m:Mo) (l:Sp):jdo (kd6 c m l)<=c.natAbs+jdo l:=by
 induction l with
 | nil=>unfold kd6; split <;> simp [jdo]
 | cons x r ih =>
   obtain ⟨d,n⟩:=x;unfold kd6
   split
   · split <;> simp only [jdo] <;> omega
   · split
     · split <;> simp only [jdo] <;> omega
     · simp only [jdo]; omega
theorem ufn (l:Sp):jdo (kdr l)<=jdo l:=by
 induction l with
 | nil=>exact pf _
 | cons x r ih =>
   obtain ⟨c,m⟩:=x;unfold kdr;have:=vfw c m (kdr r)
   split <;> simp only [jdo] <;> omega
theorem je9 (f:Int × Mo->Bool) (l:Sp):jdo (l.filter f)<=jdo l:=by
 induction l with
 | nil=>exact pf _
 | cons x r ih =>
   obtain ⟨c,m⟩:=x;rw [ri]
   split <;> simp only [jdo] <;> omega
def Pl.zY (l:Sp):Pl:=bld 4 (kdr l)
def Pl.nf (p:Pl):Pl:=Pl.zY (p.qe Mo.one)
theorem Pl.xB (l:Sp):(Pl.zY l).Can:=(kew (ud2 l) (fun _ hx=>(zd0 hx).1)).1
theorem Pl.zt (l:Sp) (k:Mo):ydk ((Pl.zY l).qe Mo.one) k=if k.qg then ydk l k else 0:=
 ((kew (ud2 l) (fun _ hx=>(zd0 hx).1)).2 k).trans (ueg l k)
theorem Mo.zy {m:Mo} {i e:Int} (h:m.qg) (he:0<=e):(m.put i e).qg:=by
 unfold Mo.qg at *; unfold Mo.put; split <;> (try split) <;> (try split) <;> simp_all
theorem Mo.one_nonneg:Mo.one.qg:=by unfold Mo.qg Mo.one; simp
theorem Mo.zI {m:Mo} (h:m.qg) (i:Int):0<=m.get i:=by
 unfold Mo.qg at h; unfold Mo.get; split <;> (try split) <;> (try split) <;> omega
mutual
theorem Pl.xz : ∀ (p : Pl) (m : Mo), m.qg -> ∀ x ∈ p.qe m, x.2.qg
 | .mk l n d cs,m,hm,x,hx=>by
   rw [Pl.qe] at hx
   split at hx
   · rw [rb.1 hx]; exact hm
   · split at hx
     · cases hx
     · exact vef cs m l (m.get l) hm (Mo.zI hm l) x hx
theorem vef : ∀ (cs : List Pl) (m : Mo) (l e : Int), m.qg -> 0 <= e -> ∀ x ∈ qdo m l e cs, x.2.qg
 | [],m,l,e,hm,he,x,hx=>by rw [qdo] at hx; cases hx
 | c :: r,m,l,e,hm,he,x,hx=>by
   rw [qdo] at hx;rcases rq.1 hx with hx | hx
   · exact Pl.xz c _ (Mo.zy hm he) x hx
   · exact vef r m l (e+1) hm (by omega) x hx
end
theorem Pl.qi (p:Pl):∀ x ∈ p.qe Mo.one,x.2.qg:=Pl.xz p _ Mo.one_nonneg
theorem Pl.yr (p:Pl):p.nf.Can:=Pl.xB _
theorem Pl.yM (p:Pl) (k:Mo):ydk (p.nf.qe Mo.one) k=ydk (p.qe Mo.one) k:=
 ((kew (ud2 _) (fun _ hx=>(zd0 hx).1)).2 k).trans (xd5 p.qi k)
theorem Pl.qR {p:Pl} (h:p.Can):p.nf=p:=Pl.zK p.yr h p.yM
mutual
def Pl.sz : Pl -> Nat
 | .mk _ _ _ cs=>zdx cs+1
def zdx : List Pl -> Nat
 | []=>0
 | c :: r=>c.sz+zdx r
end
mutual
def Pl.dm : Pl -> Nat
 | .mk _ _ d cs=>max d.length (xd8 cs)
def xd8 : List Pl -> Nat
 | []=>0
 | c :: r=>max c.dm (xd8 r)
end
theorem keh {cs:List Pl} {c:Pl} (h:c ∈ cs):c.sz<=zdx cs:=by
 induction cs with
 | nil=>cases h
 | cons x r ih =>
   rcases pI.1 h with rfl | h
   · unfold zdx; omega
   · have:=ih h; unfold zdx; omega
theorem Pl.yW {p c:Pl} (h:c ∈ p.cs):c.sz < p.sz:=by
 cases p with
 | mk l n d cs =>
   have h1:c.sz<=zdx cs:=keh (cs:=cs) h;have h2:(Pl.mk l n d cs).sz=zdx cs+1:=by rw [Pl.sz]
   omega
theorem gfz (cs:List Pl):cs.length<=zdx cs:=by
 induction cs with
 | nil=>exact pf _
 | cons x r ih=>cases x; unfold zdx Pl.sz; simp only [py]; omega
theorem yf0 {cs:List Pl} {c:Pl} (h:c ∈ cs):c.dm<=xd8 cs:=by
 induction cs with
 | nil=>cases h
 | cons x r ih =>
   rcases pI.1 h with rfl | h
   · unfold xd8; omega
   · have:=ih h; unfold xd8; omega
theorem Pl.yA (p:Pl):p.ds.length<=p.dm:=by
 cases p with
 | mk l n d cs =>
   have h2:(Pl.mk l n d cs).dm=max d.length (xd8 cs):=by rw [Pl.dm]
   have h3:(Pl.mk l n d cs).ds=d:=rfl;rw [h3]; omega
theorem Mo.yX {m:Mo} {l e E:Int} (h:m.a<=E/\m.b<=E/\m.c<=E/\m.d<=E) (he:e<=E):(m.put l e).a<=E/\(m.put l e).b<=E/\(m.put l e).c<=E/\(m.put l e).d<=E:=by
 unfold Mo.put; split <;> (try split) <;> (try split) <;> simp_all
def Mo.le (m:Mo) (E:Int):Prop:=m.a<=E/\m.b<=E/\m.c<=E/\m.d<=E
theorem Mo.le.get {m:Mo} {E:Int} (h:m.le E) (i:Int):m.get i<=E:=by
 unfold Mo.le at h; unfold Mo.get; split <;> (try split) <;> (try split) <;> omega
theorem Mo.le.put {m:Mo} {E:Int} (h:m.le E) (l e:Int) (he:e<=E):(m.put l e).le E:=Mo.yX h he
theorem Mo.le.mono {m:Mo} {E E':Int} (h:m.le E) (he:E<=E'):m.le E':=by unfold Mo.le at *; omega
end Go.Proofs.YtheefiaoimbeiaaGreatDoor
