/- Products of polynomials of one level, plain: as recpoly.mul goes. No program in sight. -/
import Derived.Test.YtklnlgnnlmdibaaGreatMq16
set_option linter.unusedSimpArgs false
set_option linter.unusedVariables false

namespace Go.Proofs.YtklnlgnnlmdibaaGreat
def Pl.at_ (cs:List Pl) (i:Nat):Pl:=cs.getD i Pl.zero
def qo (ps qs:List Pl) (l:List (Nat × Nat)) (k:Nat):List Pl:=(l.filter fun x=>decide (x.1+x.2=k)).map fun x=>(Pl.at_ ps x.1).mul (Pl.at_ qs x.2)
theorem xas (ps qs:List Pl) (l r:List (Nat × Nat)) (k:Nat):qo ps qs (l ++ r) k=qo ps qs l k ++ qo ps qs r k:=by
 unfold qo;rw [List.filter_append,List.map_append]
theorem ka3 (ps qs:List Pl) (i j k:Nat):qo ps qs [(i,j)] k=if i+j=k then [(Pl.at_ ps i).mul (Pl.at_ qs j)] else []:=by
 unfold qo
 by_cases h:i+j=k
 · simp [h]
 · simp [h]
def wal (x : Rat) (f : Nat -> Nat -> Rat) : List (Nat × Nat) -> Rat
 | []=>0
 | (i,j) :: r=>x ^ (i+j) * f i j+wal x f r
theorem kcu (x:Rat) (c:Rat):∀ (t n:Nat),t < n->hsm x (fun k=>if t=k then c else 0) n=x ^ t * c:=by
 intro t
 induction t with
 | zero =>
   intro n hn;obtain ⟨m,rfl⟩:∃ m,n=m+1:=⟨n - 1,by omega⟩;have e:(fun k:Nat=>if 0=k+1 then c else 0)=fun _=>0:=by funext k; rw [if_neg (by omega)]
   rw [hsm,e,gas,if_pos rfl];simp
   grind
 | succ t ih =>
   intro n hn;obtain ⟨m,rfl⟩:∃ m,n=m+1:=⟨n - 1,by omega⟩;have e:(fun k:Nat=>if t+1=k+1 then c else 0)=fun k=>if t=k then c else 0:=by
    funext k
    by_cases h:t=k
    · rw [if_pos (by omega),if_pos h]
    · rw [if_neg (by omega),if_neg h]
   rw [hsm,e,ih m (by omega),if_neg (by omega),Rat.pow_succ]
   grind
theorem xcd (x:Rat) (ρ:Int->Rat) (ps qs:List Pl) (N:Nat) (l:List (Nat × Nat)) (h:∀ y ∈ l,y.1+y.2 < N) :
 hsm x (fun k=>yx ρ (qo ps qs l k)) N=wal x (fun i j=>(Pl.at_ ps i).val ρ * (Pl.at_ qs j).val ρ) l:=by
 induction l with
 | nil =>
   rw [wal,<- gas x N]
   congr 1
 | cons y l ih =>
   obtain ⟨i,j⟩:=y;have e:(fun k=>yx ρ (qo ps qs ((i,j) :: l) k))=fun k=>(if i+j=k then (Pl.at_ ps i).val ρ * (Pl.at_ qs j).val ρ else 0)+yx ρ (qo ps qs l k):=by
    funext k
    rw [show ((i,j) :: l)=[(i,j)] ++ l from rfl,xas,ja6,ka3]
    congr 1
    by_cases hk:i+j=k
    · rw [if_pos hk,if_pos hk,yx,yx,Pl.mul_val]; grind
    · rw [if_neg hk,if_neg hk,yx]
   rw [e,vbz,ih fun z hz=>h z (by simp [hz]),kcu x _ (i+j) N (h (i,j) (by simp)),wal]
theorem ybv (x:Rat) (f:Nat->Nat->Rat) (a b:List (Nat × Nat)):wal x f (a ++ b)=wal x f a+wal x f b:=by
 induction a with
 | nil=>simp [wal]; grind
 | cons y a ih=>obtain ⟨i,j⟩:=y; simp only [List.cons_append,wal,ih]; grind
def yag (x : Rat) (f : Nat -> Rat) : List Nat -> Rat
 | []=>0
 | i :: r=>x ^ i * f i+yag x f r
theorem zbw (x:Rat) (f:Nat->Rat) (a b:List Nat):yag x f (a ++ b)=yag x f a+yag x f b:=by
 induction a with
 | nil=>simp [yag]; grind
 | cons y a ih=>simp only [List.cons_append,yag,ih]; grind
def gp (a b:List Nat):List (Nat × Nat):=a.flatMap fun i=>b.map fun j=>(i,j)
theorem wb3 (x:Rat) (f g:Nat->Rat) (a b:List Nat):wal x (fun i j=>f i * g j) (gp a b)=yag x f a * yag x g b:=by
 unfold gp
 induction a with
 | nil=>simp [wal,yag]
 | cons i a ih =>
   rw [List.flatMap_cons,ybv,ih,yag];have:wal x (fun i j=>f i * g j) (b.map fun j=>(i,j))=x ^ i * f i * yag x g b:=by
    clear ih
    induction b with
    | nil=>simp [wal,yag]
    | cons j b ihb=>rw [List.map_cons,wal,ihb,yag,war]; grind
   rw [this]
   grind
theorem wbp (ρ:Int->Rat) (l:Int) (cs:List Pl) (hc:∀ c ∈ cs,c.Can):yag (ρ l) (fun i=>(Pl.at_ cs i).val ρ) (prs cs cs.length)=ve ρ l cs:=by
 have key:∀ k,k<=cs.length->yag (ρ l) (fun i=>(Pl.at_ cs i).val ρ) (prs cs k)=ve ρ l (cs.take k):=by
  intro k
  induction k with
  | zero=>intro _; simp [prs,yag,ve]
  | succ k ih =>
    intro hk;have pI:k < cs.length:=by omega
    rw [xba cs k pI,zbw,ih (by omega),List.take_succ_eq_append_getElem pI];have aJ:∀ (a:List Pl) (c:Pl),ve ρ l (a ++ [c])=ve ρ l a+ρ l ^ a.length * c.val ρ:=by
     intro a c
     induction a with
     | nil=>simp [ve]; grind
     | cons y a iha=>rw [List.cons_append,ve,ve,iha,List.length_cons,Rat.pow_succ]; grind
    rw [aJ,List.length_take,Nat.min_eq_left (by omega)];have aO:Pl.at_ cs k=cs[k]:=by unfold Pl.at_; rw [List.getD_eq_getElem?_getD,List.getElem?_eq_getElem pI]; rfl
    by_cases hz:cs[k].isZ=true
    · rw [if_pos hz,(Pl.zero_isZ (hc _ (List.getElem_mem pI))).1 hz,Pl.zero_val,yag]; grind
    · rw [if_neg hz,yag,yag,aO]; grind
 have:=key cs.length (Nat.le_refl _);rw [List.take_length] at this;exact this
theorem Pl.mul_level {p q:Pl} (hp:p.Can) (hq:q.Can) (h0:0 < p.lv) (he:p.lv=q.lv) :
 p.mul q=gaa p.lv ((List.range (p.cs.length+q.cs.length - 1)).map fun k=>uy (qo p.cs q.cs (gp (prs p.cs p.cs.length) (prs q.cs q.cs.length)) k)):=by
 obtain ⟨l,n,d,ps⟩:=p;obtain ⟨l',n',d',qs⟩:=q
 change l=l' at he
 subst he;simp only [Pl.cs,Pl.lv] at *;have h4:l<=4:=hp.lv_nonneg.2;have dD:=(hp.kids h0).2.2.2.1;have hqk:=(hq.kids h0).2.2.2.1;have vM:=(hp.kids h0).2.2.1;have Ie:=(hq.kids h0).2.2.1;have aO:∀ (cs:List Pl),qp l cs->∀ i,(Pl.at_ cs i).Can/\(Pl.at_ cs i).lv<=l - 1:=fun cs hk i=>by
  unfold Pl.at_;rw [List.getD_eq_getElem?_getD];cases hi:cs[i]? with
  | none=>exact ⟨Pl.zero_can,by show (0:Int)<=l - 1; omega⟩
  | some c=>have:=hk.mem c (List.mem_of_getElem? hi); exact ⟨this.2,by simp only [Option.getD_some]; omega⟩
 have hk:qp l ((List.range (ps.length+qs.length - 1)).map fun k=>uy (qo ps qs (gp (prs ps ps.length) (prs qs qs.length)) k)):=uae fun c hc=>by
  obtain ⟨k,-,rfl⟩:=List.mem_map.1 hc;have h1:=xb0 (l:=qo ps qs (gp (prs ps ps.length) (prs qs qs.length)) k) (n:=l - 1) (fun r hr=>by
   unfold qo at hr;obtain ⟨x,-,rfl⟩:=List.mem_map.1 hr
   exact ⟨Pl.mul_can _ _,Pl.mul_lv (aO ps dD x.1).1 (aO qs hqk x.2).1 (aO ps dD x.1).2 (aO qs hqk x.2).2 (by omega)⟩) (by omega) (by omega)
  exact ⟨by omega,jat _⟩
 obtain ⟨g1,-,g3⟩:=xa2 h0 h4 hk;refine Pl.val_uniq (Pl.mul_can _ _) g1 fun ρ=>?_
 rw [g3,ybj];simp only [qat];rw [xcd,wb3,wbp ρ l ps fun c hc=>(dD.mem c hc).2,wbp ρ l qs fun c hc=>(hqk.mem c hc).2,Pl.mul_val,Pl.mk_val ρ _ _ _ h0 h4,Pl.mk_val ρ _ _ _ h0 h4];intro y hy;unfold gp at hy;obtain ⟨i,hi,hy⟩:=List.mem_flatMap.1 hy;obtain ⟨j,hj,rfl⟩:=List.mem_map.1 hy;have h1:i < ps.length:=by unfold prs at hi; have:=(List.mem_filter.1 hi).1; simpa using this
 have h2:j < qs.length:=by unfold prs at hj; have:=(List.mem_filter.1 hj).1; simpa using this
 simp only;omega
theorem Pl.mul_nr {p q:Pl} (hp:p.Can) (hq:q.Can):(p.mul q).nr<=p.nr * q.nr:=by
 have h1:=Pl.ofS_nr (xal (p.terms Mo.one) (q.terms Mo.one));rw [wbn,Pl.terms_nr p _ hp,Pl.terms_nr q _ hq] at h1;exact h1
def snr (cs : List Pl) : List Nat -> Nat
 | []=>0
 | i :: r=>(Pl.at_ cs i).nr+snr cs r
theorem yb2 (cs:List Pl) (a b:List Nat):snr cs (a ++ b)=snr cs a+snr cs b:=by
 induction a with
 | nil=>simp [snr]
 | cons y a ih=>simp only [List.cons_append,snr,ih]; omega
theorem wbx (cs:List Pl) (k:Nat) (hk:k<=cs.length):snr cs (prs cs k)<=ul (cs.take k):=by
 induction k with
 | zero=>simp [prs,snr]
 | succ k ih =>
   have pI:k < cs.length:=by omega
   have aO:Pl.at_ cs k=cs[k]:=by unfold Pl.at_; rw [List.getD_eq_getElem?_getD,List.getElem?_eq_getElem pI]; rfl
   rw [xba cs k pI,yb2,List.take_succ_eq_append_getElem pI,wa7];have:=ih (by omega)
   split
   · simp only [snr,ul]; omega
   · simp only [snr,ul,aO]; omega
theorem zcl {ps qs:List Pl} (hp:∀ i,(Pl.at_ ps i).Can) (hq:∀ i,(Pl.at_ qs i).Can) (k:Nat) (a b:List Nat):lnr (qo ps qs (gp a b) k)<=snr ps a * snr qs b:=by
 have h1:∀ l:List (Nat × Nat),lnr (qo ps qs l k)<=(l.map fun x=>(Pl.at_ ps x.1).nr * (Pl.at_ qs x.2).nr).sum:=by
  intro l
  induction l with
  | nil=>simp [qo,lnr]
  | cons x l ih =>
    rw [show x :: l=[x] ++ l from rfl,xas,vbd,List.map_append,List.sum_append];obtain ⟨i,j⟩:=x;rw [ka3];have:=Pl.mul_nr (hp i) (hq j)
    split
    · simp only [lnr,List.map_cons,List.map_nil,List.sum_cons,List.sum_nil]; omega
    · simp only [lnr]; omega
 refine Nat.le_trans (h1 _) ?_;unfold gp
 induction a with
 | nil=>simp [snr]
 | cons i a ih =>
   rw [List.flatMap_cons,List.map_append,List.sum_append,snr,Nat.add_mul];have:((b.map fun j=>(i,j)).map fun x=>(Pl.at_ ps x.1).nr * (Pl.at_ qs x.2).nr).sum=(Pl.at_ ps i).nr * snr qs b:=by
    clear ih
    induction b with
    | nil=>simp [snr]
    | cons j b ihb=>simp only [List.map_cons,List.sum_cons,snr] at ihb ⊢; rw [ihb,Nat.mul_add]
   omega
theorem wbi (ps qs:List Pl) (l:List (Nat × Nat)) (k:Nat):(qo ps qs l k).length<=l.length:=by
 unfold qo;rw [List.length_map];exact List.length_filter_le _ _
theorem jbd (a b:List Nat):(gp a b).length=a.length * b.length:=by
 unfold gp
 induction a with
 | nil=>simp
 | cons i a ih=>rw [List.flatMap_cons,List.length_append,ih,List.length_map,List.length_cons,Nat.add_mul]; omega
theorem gca {cs:List Pl} {n i:Nat} (h:i ∈ prs cs n):i < n:=by
 unfold prs at h;have:=(List.mem_filter.1 h).1;simpa using this
theorem xb4 (ps qs:List Pl) (l:List (Nat × Nat)) (i j k:Nat):qo ps qs (l ++ [(i,j)]) k=if i+j=k then qo ps qs l k ++ [(Pl.at_ ps i).mul (Pl.at_ qs j)] else qo ps qs l k:=by
 rw [xas,ka3]
 split
 · rfl
 · rw [List.append_nil]
def Pl.pow (p : Pl) : Nat -> Pl
 | 0=>Pl.const 1
 | n+1=>(p.pow n).mul p
theorem Pl.pow_can (p : Pl) : ∀ n, (p.pow n).Can
 | 0=>zq 1
 | _+1=>Pl.mul_can _ _
theorem Pl.pow_val (ρ:Int->Rat) (p:Pl) (n:Nat):(p.pow n).val ρ=p.val ρ ^ n:=by
 induction n with
 | zero=>rw [Pl.pow,Pl.const_val]; simp
 | succ n ih=>rw [Pl.pow,Pl.mul_val,ih,Rat.pow_succ]
theorem Pl.pow_twice (p:Pl) (n:Nat):(p.pow n).mul (p.pow n)=p.pow (2 * n):=Pl.val_uniq (Pl.mul_can _ _) (Pl.pow_can _ _) fun ρ=>by
 rw [Pl.mul_val,Pl.pow_val,Pl.pow_val,Nat.two_mul,war]
theorem Fit.pow {p:Pl} {E D:Nat} (h:Fit p E D) (n:Nat):Fit (p.pow n) (n * E) (n * D+1):=by
 induction n with
 | zero=>exact Fit.const (by rw [Nat.zero_mul]; decide)
 | succ n ih=>exact (ih.mul h).mono (by rw [Nat.succ_mul]; omega) (by rw [Nat.succ_mul]; omega)
theorem Fit.pow_le {p:Pl} {E D n m:Nat} (h:Fit p E D) (hn:n<=m):Fit (p.pow n) (m * E) (m * D+1):=
 (h.pow n).mono (Nat.mul_le_mul_right _ hn) (Nat.add_le_add_right (Nat.mul_le_mul_right _ hn) 1)
theorem zcp (n k:Nat):n / 2 ^ k=2 * (n / 2 ^ (k+1))+n / 2 ^ k % 2:=by
 have:n / 2 ^ (k+1)=n / 2 ^ k / 2:=by rw [Nat.pow_succ,Nat.div_div_eq_div_mul]
 omega
theorem ycw (n k:Nat):n &&& 2 ^ k=2 ^ k * (n / 2 ^ k % 2):=by
 apply Nat.eq_of_testBit_eq;intro i;have h1:n.testBit k=decide (n / 2 ^ k % 2=1):=Nat.testBit_eq_decide_div_mod_eq;rw [Nat.testBit_and,Nat.testBit_two_pow]
 by_cases hi:k=i
 · subst hi;rw [h1];rcases Nat.mod_two_eq_zero_or_one (n / 2 ^ k) with h | h <;> rw [h] <;> simp [Nat.testBit_two_pow]
 · rcases Nat.mod_two_eq_zero_or_one (n / 2 ^ k) with h | h <;> rw [h] <;> simp [Nat.testBit_two_pow,hi]
def Pl.opp (p:Pl):Pl:=p.mul (Pl.const (-1))
theorem Pl.opp_can (p:Pl):p.opp.Can:=Pl.mul_can _ _
theorem Pl.opp_val (ρ:Int->Rat) (p:Pl):p.opp.val ρ=- p.val ρ:=by unfold Pl.opp; rw [Pl.mul_val,Pl.const_val]; push_cast; grind
theorem Pl.opp_opp {p:Pl} (h:p.Can):p.opp.opp=p:=Pl.val_uniq (Pl.opp_can _) h fun ρ=>by rw [Pl.opp_val,Pl.opp_val]; grind
theorem Fit.opp {p:Pl} {E D:Nat} (h:Fit p E D):Fit p.opp E (D+1):=h.mul (F:=0) (G:=1) (Fit.const (by decide))
open Go.RowKit
def jcp (n:Int) (w:World) (e:Ending) (w':World):Prop:=e=.returned (.int .i64 n)/\Ext w w'
inductive Mx where
 | mk (kind rel:Int) (p:Pl) (ks:List Mx)
section
variable {w w':World} {p q:Nat->Prop}
end
section
variable {base:Nat} {W W':World} {v:Value} {l:List Mx}
end
end Go.Proofs.YtklnlgnnlmdibaaGreat

set_option maxRecDepth 100000
set_option maxHeartbeats 8000000
namespace Go.Proofs.YtklnlgnnlmdibaaGreat
open Go.RowKit
theorem wbg (m:Mo) (l e:Int) (a b:List Pl):xe m l e (a ++ b)=xe m l e a ++ xe m l (e+a.length) b:=by
 induction a generalizing e with
 | nil=>simp [xe]
 | cons x r ih =>
   simp only [List.cons_append,xe,ih,List.append_assoc,List.length_cons];rw [show e+1+(r.length:Int)=e+((r.length+1:Nat):Int) by omega]
theorem kbp (m:Mo) (l e:Int) (cs:List Pl) (k:Nat) (hk:k < cs.length):xe m l e (cs.take (k+1))=xe m l e (cs.take k) ++ cs[k].terms (m.put l (e+k)):=by
 rw [List.take_succ_eq_append_getElem hk,wbg,List.length_take,Nat.min_eq_left (by omega)];simp only [xe,List.append_nil]
theorem xau (l:List Pl) (k:Nat) (hk:k < l.length):uk (l.take k)+l[k].sz+uk (l.drop (k+1))=uk l:=by
 have h2:uk l=uk (l.take k)+uk (l.drop k):=by rw [<- vbv,List.take_append_drop]
 rw [h2,xcb l k hk]; omega
theorem Mo.put_get (m:Mo) (l:Int):m.put l (m.get l)=m:=by
 unfold Mo.put Mo.get; split <;> (try split) <;> (try split) <;> rfl
def uah (k:Option Nat) (base:Nat) (tv:Value) (l:Sp) (w:World) (e:Ending) (w':World):Prop:=
 ∃ tv',e=.returned tv'/\TsV k base w' tv' l/\w.grownBy w' tv.ownBlock/\(∀ v ds,jd w v ds->jd w' v ds)/\(tv'.ownBlock=tv.ownBlock\/∀ R,tv'.ownBlock=some R->w.heap.size<=R)
def wbf (w0:World) (q:Nat->Prop) (L n:Nat):Prop:=∀ (p:Pl) (v:Value) (m:Mo) (E:Int) (l:Sp) (tv:Value) (w:World),p.sz < n->p.dm<=L->PlV w0 q p v->Ext w0 w->TsV (some L) w0.heap.size w tv l->m.nonneg->m.le E->E+p.sz<=4611686018427387904->l.length+p.sz<=1099511627776->Calls Tryz.prog 80 #[tv,v,moV m] w (uah (some L) w0.heap.size tv (l ++ p.terms m) w)
theorem gbs {w0 w:World} {q:Nat->Prop} {L:Nat} (p:Pl) (v:Value) (m:Mo) (l:Sp) (tv:Value) (ig:p.dm<=L) (h:PlV w0 q p v) (aC:Ext w0 w) (ht:TsV (some L) w0.heap.size w tv l) (hlen:l.length+p.sz<=1099511627776) (hl:p.lv<=0):Calls Tryz.prog 80 #[tv,v,moV m] w (uah (some L) w0.heap.size tv (l ++ p.terms m) w):=by
 have F6:=p.dm_ds;have hsz:=p.sz_len;obtain ⟨A0,n0,c0,A,c,rfl,au,dY,eF,h4⟩:=h.open_;obtain ⟨lv,ng,ds,cs⟩:=p;simp only [Pl.cs,Pl.ds,Pl.lv,Pl.neg,plV] at *;have qO:(Pl.mk lv ng ds cs).terms m=[(sgn ng (val ds),m)]:=by rw [Pl.terms,if_pos hl]
 rw [qO];obtain ⟨W,hW⟩:=n_m ((w.alloc (.cells #[.int .i64 lv,.bool ng,.slice A0 n0 c0,.slice A cs.length c] 35)).alloc (.cells #[.int .i64 m.a,.int .i64 m.b,.int .i64 m.c,.int .i64 m.d] 75));have ai:Ext w W:=by rw [<- hW]; exact ((Ext.refl w).alloc _).alloc _
 have dE:W.heap.size=w.heap.size+1+1:=by rw [<- hW]; simp
 have bG:jb W w.heap.size (.mk lv ng ds cs) (.slice A0 n0 c0) (.slice A cs.length c):=by rw [<- hW]; exact (jb.new w (.mk lv ng ds cs) _ _ _).ext ((Ext.refl _).alloc _) (by simp)
 have iI:vw W (w.heap.size+1) m:=by
  have:=vw.new (w.alloc (.cells #[.int .i64 lv,.bool ng,.slice A0 n0 c0,.slice A cs.length c] 35)) m 75;rw [hW] at this;simpa using this
 obtain ⟨b0,b1,b2,b3⟩:=bG;obtain ⟨d0,d1,d2,d3⟩:=iI;simp only [Pl.lv,Pl.neg] at b0 b1;have aar:=aC.size;have dZ:Cf W (some L) (.agg #[.bool ng,.slice A0 n0 c0]) (sgn ng (val ds)):=⟨ng,_,ds,rfl,au.ext (aC.trans ai),rfl,by omega⟩;obtain ⟨v4,w4,aH,t4,g4,n4,o4⟩:=(ht.ext ai).push (by have:=ai.size; omega) dZ m (by omega) 41;have HF:Hid (uah (some L) w0.heap.size tv (l ++ [(sgn ng (val ds),m)]) w (.returned v4) w4):=by
  refine ⟨v4,rfl,t4,⟨g4.os.trans ai.below.os,g4.tape.trans ai.below.tape,g4.output.trans ai.below.output,Nat.le_trans ai.size g4.size,fun i hi ak=>(World.grownBy.block g4 i (Nat.lt_of_lt_of_le hi ai.size) ak).trans (ai.below.block i hi)⟩,fun v ds hv=>n4 v ds (hv.ext ai),?_⟩;rcases o4 with o4 | o4
  · exact .inl o4
  · right
    intro R hR;rw [o4] at hR;injection hR with hR
    have:=ai.size;omega
 have OO:decide (lv<=0)=true:=decide_eq_true hl;obtain ⟨At,ct,rfl,-,-⟩:=ht.len;clear t4 g4 n4 o4 ht h au h4 dZ;unfold moV;rw [dE] at aH;go_enter Tryz.func80,Tryz.ntmps80
 go_wp2_with (at_builtin
              refine wpList_append_run rfl (.tmp 14) (.tmp 19) _ _ rfl _ _ _ _ rfl rfl aH ?_)
 clear aH;go_ret;exact HF.out
theorem wbs {w0 w:World} {q:Nat->Prop} {L:Nat} (p:Pl) (v:Value) (m:Mo) (l:Sp) (tv:Value) (h:PlV w0 q p v) (aC:Ext w0 w) (ht:TsV (some L) w0.heap.size w tv l) (hl:4 < p.lv):Calls Tryz.prog 80 #[tv,v,moV m] w (uah (some L) w0.heap.size tv (l ++ p.terms m) w):=by
 obtain ⟨A0,n0,c0,A,c,rfl,au,dY,eF,h4⟩:=h.open_;obtain ⟨lv,ng,ds,cs⟩:=p;simp only [Pl.cs,Pl.ds,Pl.lv,Pl.neg,plV] at *;have qO:(Pl.mk lv ng ds cs).terms m=[]:=by rw [Pl.terms,if_neg (by omega),if_pos hl]
 rw [qO,List.append_nil];have HF:Hid (∀ o o',uah (some L) w0.heap.size tv l w (.returned tv) ((w.alloc o).alloc o')):=fun o o'=>by
  have ai:Ext w ((w.alloc o).alloc o'):=((Ext.refl w).alloc _).alloc _;refine ⟨tv,rfl,ht.ext ai,⟨ai.below.os,ai.below.tape,ai.below.output,ai.size,fun i hi _=>ai.below.block i hi⟩,fun v ds hv=>hv.ext ai,.inl rfl⟩
 have OO:decide (lv<=0)=false:=decide_eq_false (by omega);have ajX:decide (lv > 4)=true:=decide_eq_true (by omega);obtain ⟨At,ct,rfl,-,-⟩:=ht.len;clear ht h au h4;unfold moV;go_enter Tryz.func80,Tryz.ntmps80;go_wp2_with fail;go_ret;exact HF.out _ _
def jaf (w0 w:World) (L:Nat) (p:Pl) (s A:Value) (m:Mo) (tv:Value) (l0:Sp) (k:Nat) (nN:Value) (wr:World):Prop:=
 TsV (some L) w0.heap.size wr nN (l0 ++ xe m p.lv (m.get p.lv) (p.cs.take k))/\(∃ e,vw wr (w.heap.size+1) (m.put p.lv e))/\(∀ i,wr.frozen? ⟨w.heap.size+1,i,none⟩=false)/\jb wr w.heap.size p s A/\w.grownBy wr tv.ownBlock/\(∀ v ds,jd w v ds->jd wr v ds)/\(nN.ownBlock=tv.ownBlock\/∀ R,nN.ownBlock=some R->w.heap.size+2<=R)/\w.heap.size+2<=wr.heap.size
theorem jaf.ext0 {w0 w:World} {L:Nat} {p:Pl} {s A:Value} {m:Mo} {tv:Value} {l0 l1:Sp} {k:Nat} {nN:Value} {wr:World} (h:jaf w0 w L p s A m tv l0 k nN wr) (hx:Ext w0 w) (ht:TsV (some L) w0.heap.size w tv l1):Ext w0 wr:=by
 obtain ⟨-,-,-,-,h5,-⟩:=h;exact Below.grown hx h5 hx.size (fun g e=>(ht.own e).1)
theorem vw.set_ {w:World} {g:Nat} {m:Mo} {l e:Int} (h:vw w g (m.put l e)) (hl:l=1\/l=2\/l=3\/l=4) (e':Int):vw (w.setCell ⟨g,(l - 1).toNat,none⟩ (.int .i64 e')) g (m.put l e')/\(∀ v ds,jd w v ds->jd (w.setCell ⟨g,(l - 1).toNat,none⟩ (.int .i64 e')) v ds):=by
 obtain ⟨h0,h1,h2,h3⟩:=h;rcases hl with rfl | rfl | rfl | rfl
 · refine ⟨⟨World.cell?_setCell_same _ _ _ h0,?_,?_,?_⟩,fun v ds hv=>hv.box h0 rfl _⟩ <;> (rw [World.cell?_setCell_other _ _ _ _ (by simp)]; first | exact h1 | exact h2 | exact h3)
 · refine ⟨⟨?_,World.cell?_setCell_same _ _ _ h1,?_,?_⟩,fun v ds hv=>hv.box h1 rfl _⟩ <;> (rw [World.cell?_setCell_other _ _ _ _ (by simp)]; first | exact h0 | exact h2 | exact h3)
 · refine ⟨⟨?_,?_,World.cell?_setCell_same _ _ _ h2,?_⟩,fun v ds hv=>hv.box h2 rfl _⟩ <;> (rw [World.cell?_setCell_other _ _ _ _ (by simp)]; first | exact h0 | exact h1 | exact h3)
 · refine ⟨⟨?_,?_,?_,World.cell?_setCell_same _ _ _ h3⟩,fun v ds hv=>hv.box h3 rfl _⟩ <;> (rw [World.cell?_setCell_other _ _ _ _ (by simp)]; first | exact h0 | exact h1 | exact h2)
theorem jaf.step {w0 w:World} {L:Nat} {p:Pl} {s A:Value} {m:Mo} {tv:Value} {l0:Sp} {k:Nat} {nN:Value} {wr:World} (h:jaf w0 w L p s A m tv l0 k nN wr) (hx:Ext w0 w) (ht:TsV (some L) w0.heap.size w tv l0) (hl:p.lv=1\/p.lv=2\/p.lv=3\/p.lv=4) (hk:k < p.cs.length) (o:Obj) :
 ∀ W1,W1=(wr.alloc o).setCell ⟨w.heap.size+1,(p.lv - 1).toNat,none⟩ (.int .i64 (m.get p.lv+k))->TsV (some L) w0.heap.size W1 nN (l0 ++ xe m p.lv (m.get p.lv) (p.cs.take k))/\vw W1 (w.heap.size+1) (m.put p.lv (m.get p.lv+k))/\Ext w0 W1/\(∀ i,W1.cell? ⟨wr.heap.size,i,none⟩=(wr.alloc o).cell? ⟨wr.heap.size,i,none⟩) /\
   ∀ e w2,uah (some L) w0.heap.size nN ((l0 ++ xe m p.lv (m.get p.lv) (p.cs.take k)) ++ p.cs[k].terms (m.put p.lv (m.get p.lv+k))) W1 e w2->∃ ER A2 c2,e=.returned ER/\ER=.slice A2 (l0 ++ xe m p.lv (m.get p.lv) (p.cs.take (k+1))).length c2/\jaf w0 w L p s A m tv l0 (k+1) ER w2:=by
 intro W1 aT;have aC:=h.ext0 hx ht;obtain ⟨h1,⟨e,h2⟩,h3,h4,h5,h6,h7,h8⟩:=h;have fZ:Ext wr (wr.alloc o):=(Ext.refl wr).alloc o;obtain ⟨m1,m2⟩:=(h2.ext fZ (by omega)).set_ hl (m.get p.lv+k);rw [<- aT] at m1 m2;have hsz:W1.heap.size=wr.heap.size+1:=by rw [aT]; simp [World.setCell]
 have mZ:∀ R,nN.ownBlock=some R->R ≠ w.heap.size+1/\R ≠ w.heap.size/\R < wr.heap.size:=by
  intro R hR;have af:=(h1.own hR).2;rcases h7 with h7 | h7
  · rw [h7] at hR;have:=(ht.own hR).2;omega
  · have:=h7 R hR; omega
 have gY:∀ b,b ≠ w.heap.size+1->b < wr.heap.size->W1.heap[b]?=wr.heap[b]?:=fun b hb af=>by
  rw [aT,Below.heap_setCell _ _ _ b hb];exact fZ.below.block b af
 have au:∀ v ds,jd wr v ds->jd W1 v ds:=fun v ds hv=>m2 v ds (hv.ext fZ)
 have Ht:=hx.size;refine ⟨h1.turn (fun R hR=>gY R (mZ R hR).1 (mZ R hR).2.2) au,m1,?_,?_,?_⟩
 · rw [aT]; exact (aC.alloc o).setCell (by show w0.heap.size<=w.heap.size+1; omega) _
 · intro i;rw [aT,World.cell?_setCell_other _ _ _ _ (by intro e; injection e; omega)]
 · rintro e w2 ⟨ER,rfl,t2,g2,n2,o2⟩;rw [List.append_assoc,<- kbp _ _ _ _ k hk] at t2;have gJ:=g2.size;obtain ⟨A2,c2,e2,-,-⟩:=t2.len;have jK:∀ b,b < W1.heap.size->nN.ownBlock ≠ some b->w2.heap[b]?=W1.heap[b]?:=fun b hb ak=>World.grownBy.block g2 b hb (fun e=>ak e.symm)
   refine ⟨ER,A2,c2,rfl,e2,t2,⟨_,m1.turn (jK _ (by omega) (fun e=>(mZ _ e).1 rfl))⟩,fun i=>?_,h4.turn ((jK _ (by omega) (fun e=>(mZ _ e).2.1 rfl)).trans (gY _ (by omega) (by omega))),⟨?_,?_,?_,by omega,fun b hb ak=>?_⟩,fun v ds hv=>n2 v ds (au v ds (h6 v ds hv)),?_,by omega⟩
   · have:w2.frozen? ⟨w.heap.size+1,i,none⟩=W1.frozen? ⟨w.heap.size+1,i,none⟩:=World.frozen?_of_block (a:=⟨w.heap.size+1,i,none⟩) (jK _ (by show w.heap.size+1 < _; omega) (fun e=>(mZ _ e).1 rfl));rw [this,aT,World.frozen?_setCell,fZ.frozen (p:=⟨w.heap.size+1,i,none⟩) (by show w.heap.size+1 < _; omega)];exact h3 i
   · rw [g2.os,aT]; exact h5.os
   · rw [g2.tape,aT]; exact h5.tape
   · rw [g2.output,aT]; exact h5.output
   · have Bf:=h5.size
     by_cases UC:nN.ownBlock=some b
     · rcases h7 with h7 | h7
       · exact absurd (h7.symm.trans UC).symm ak
       · have:=h7 b UC; omega
     · rw [jK b (by omega) UC,gY b (by omega) (by omega)];exact World.grownBy.block h5 b hb ak
   · rcases o2 with o2 | o2
     · rcases h7 with h7 | h7
       · exact .inl (o2.trans h7)
       · exact .inr (fun R hR=>h7 R (o2.symm.trans hR))
     · exact .inr (fun R hR=>by have:=o2 R hR; omega)
end Go.Proofs.YtklnlgnnlmdibaaGreat
