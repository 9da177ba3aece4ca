/- Products of polynomials of one level, plain: as recpoly.mul goes. No program in sight. -/
import Derived.Test.YtcepajijiabkmaaGreatMq16
set_option linter.unusedSimpArgs false
set_option linter.unusedVariables false

namespace Go.Proofs.YtcepajijiabkmaaGreat
def Pl.at_ (cs:List Pl) (i:Nat):Pl:=cs.getD i Pl.zero
def zo (ps qs:List Pl) (l:List (Nat × Nat)) (k:Nat):List Pl:=(l.filter fun x=>decide (x.1+x.2=k)).map fun x=>(Pl.at_ ps x.1).mul (Pl.at_ qs x.2)
theorem yat (ps qs:List Pl) (l r:List (Nat × Nat)) (k:Nat):zo ps qs (l ++ r) k=zo ps qs l k ++ zo ps qs r k:=by
 unfold zo;rw [List.filter_append,List.map_append]
theorem ua4 (ps qs:List Pl) (i j k:Nat):zo ps qs [(i,j)] k=if i+j=k then [(Pl.at_ ps i).mul (Pl.at_ qs j)] else []:=by
 unfold zo
 by_cases h:i+j=k
 · simp [h]
 · simp [h]
def wal (x : Rat) (f : Nat -> Nat -> Rat) : List (Nat × Nat) -> Rat
 | []=>0
 | (i,j) :: r=>x ^ (i+j) * f i j+wal x f r
theorem xc2 (x:Rat) (c:Rat):∀ (t n:Nat),t < n->hsm x (fun k=>if t=k then c else 0) n=x ^ t * c:=by
 intro t
 induction t with
 | zero =>
   intro n hn;obtain ⟨m,rfl⟩:∃ m,n=m+1:=⟨n - 1,by omega⟩;have e:(fun k:Nat=>if 0=k+1 then c else 0)=fun _=>0:=by funext k; rw [if_neg (by omega)]
   rw [hsm,e,vat,if_pos rfl];simp
   grind
 | succ t ih =>
   intro n hn;obtain ⟨m,rfl⟩:∃ m,n=m+1:=⟨n - 1,by omega⟩;have e:(fun k:Nat=>if t+1=k+1 then c else 0)=fun k=>if t=k then c else 0:=by
    funext k
    by_cases h:t=k
    · rw [if_pos (by omega),if_pos h]
    · rw [if_neg (by omega),if_neg h]
   rw [hsm,e,ih m (by omega),if_neg (by omega),Rat.pow_succ]
   grind
theorem wck (x:Rat) (ρ:Int->Rat) (ps qs:List Pl) (N:Nat) (l:List (Nat × Nat)) (h:∀ y ∈ l,y.1+y.2 < N) :
 hsm x (fun k=>ww ρ (zo ps qs l k)) N=wal x (fun i j=>(Pl.at_ ps i).val ρ * (Pl.at_ qs j).val ρ) l:=by
 induction l with
 | nil =>
   rw [wal,<- vat x N]
   congr 1
 | cons y l ih =>
   obtain ⟨i,j⟩:=y;have e:(fun k=>ww ρ (zo ps qs ((i,j) :: l) k))=fun k=>(if i+j=k then (Pl.at_ ps i).val ρ * (Pl.at_ qs j).val ρ else 0)+ww ρ (zo ps qs l k):=by
    funext k
    rw [show ((i,j) :: l)=[(i,j)] ++ l from rfl,yat,za8,ua4]
    congr 1
    by_cases hk:i+j=k
    · rw [if_pos hk,if_pos hk,ww,ww,Pl.mul_val]; grind
    · rw [if_neg hk,if_neg hk,ww]
   rw [e,vb7,ih fun z hz=>h z (by simp [hz]),xc2 x _ (i+j) N (h (i,j) (by simp)),wal]
theorem ub1 (x:Rat) (f:Nat->Nat->Rat) (a b:List (Nat × Nat)):wal x f (a ++ b)=wal x f a+wal x f b:=by
 induction a with
 | nil=>simp [wal]; grind
 | cons y a ih=>obtain ⟨i,j⟩:=y; simp only [List.cons_append,wal,ih]; grind
def yaf (x : Rat) (f : Nat -> Rat) : List Nat -> Rat
 | []=>0
 | i :: r=>x ^ i * f i+yaf x f r
theorem wb2 (x:Rat) (f:Nat->Rat) (a b:List Nat):yaf x f (a ++ b)=yaf x f a+yaf x f b:=by
 induction a with
 | nil=>simp [yaf]; grind
 | cons y a ih=>simp only [List.cons_append,yaf,ih]; grind
def jq (a b:List Nat):List (Nat × Nat):=a.flatMap fun i=>b.map fun j=>(i,j)
theorem xcb (x:Rat) (f g:Nat->Rat) (a b:List Nat):wal x (fun i j=>f i * g j) (jq a b)=yaf x f a * yaf x g b:=by
 unfold jq
 induction a with
 | nil=>simp [wal,yaf]
 | cons i a ih =>
   rw [List.flatMap_cons,ub1,ih,yaf];have:wal x (fun i j=>f i * g j) (b.map fun j=>(i,j))=x ^ i * f i * yaf x g b:=by
    clear ih
    induction b with
    | nil=>simp [wal,yaf]
    | cons j b ihb=>rw [List.map_cons,wal,ihb,yaf,zat]; grind
   rw [this]
   grind
theorem xbu (ρ:Int->Rat) (l:Int) (cs:List Pl) (hc:∀ c ∈ cs,c.Can):yaf (ρ l) (fun i=>(Pl.at_ cs i).val ρ) (prs cs cs.length)=qf ρ l cs:=by
 have key:∀ k,k<=cs.length->yaf (ρ l) (fun i=>(Pl.at_ cs i).val ρ) (prs cs k)=qf ρ l (cs.take k):=by
  intro k
  induction k with
  | zero=>intro _; simp [prs,yaf,qf]
  | succ k ih =>
    intro hk;have lN:k < cs.length:=by omega
    rw [xbc cs k lN,wb2,ih (by omega),List.take_succ_eq_append_getElem lN];have aH:∀ (a:List Pl) (c:Pl),qf ρ l (a ++ [c])=qf ρ l a+ρ l ^ a.length * c.val ρ:=by
     intro a c
     induction a with
     | nil=>simp [qf]; grind
     | cons y a iha=>rw [List.cons_append,qf,qf,iha,List.length_cons,Rat.pow_succ]; grind
    rw [aH,List.length_take,Nat.min_eq_left (by omega)];have aK:Pl.at_ cs k=cs[k]:=by unfold Pl.at_; rw [List.getD_eq_getElem?_getD,List.getElem?_eq_getElem lN]; rfl
    by_cases hz:cs[k].isZ=true
    · rw [if_pos hz,(Pl.zero_isZ (hc _ (List.getElem_mem lN))).1 hz,Pl.zero_val,yaf]; grind
    · rw [if_neg hz,yaf,yaf,aK]; grind
 have:=key cs.length (Nat.le_refl _);rw [List.take_length] at this;exact this
theorem Pl.mul_level {p q:Pl} (hp:p.Can) (hq:q.Can) (h0:0 < p.lv) (he:p.lv=q.lv) :
 p.mul q=uaa p.lv ((List.range (p.cs.length+q.cs.length - 1)).map fun k=>xy (zo p.cs q.cs (jq (prs p.cs p.cs.length) (prs q.cs q.cs.length)) k)):=by
 obtain ⟨l,n,d,ps⟩:=p;obtain ⟨l',n',d',qs⟩:=q
 change l=l' at he
 subst he;simp only [Pl.cs,Pl.lv] at *;have h4:l<=4:=hp.lv_nonneg.2;have gU:=(hp.kids h0).2.2.2.1;have WC:=(hq.kids h0).2.2.2.1;have zZ:=(hp.kids h0).2.2.1;have yJ:=(hq.kids h0).2.2.1;have aK:∀ (cs:List Pl),gp l cs->∀ i,(Pl.at_ cs i).Can/\(Pl.at_ cs i).lv<=l - 1:=fun cs hk i=>by
  unfold Pl.at_;rw [List.getD_eq_getElem?_getD];cases hi:cs[i]? with
  | none=>exact ⟨Pl.zero_can,by show (0:Int)<=l - 1; omega⟩
  | some c=>have:=hk.mem c (List.mem_of_getElem? hi); exact ⟨this.2,by simp only [Option.getD_some]; omega⟩
 have hk:gp l ((List.range (ps.length+qs.length - 1)).map fun k=>xy (zo ps qs (jq (prs ps ps.length) (prs qs qs.length)) k)):=zae fun c hc=>by
  obtain ⟨k,-,rfl⟩:=List.mem_map.1 hc;have h1:=qb8 (l:=zo ps qs (jq (prs ps ps.length) (prs qs qs.length)) k) (n:=l - 1) (fun r hr=>by
   unfold zo at hr;obtain ⟨x,-,rfl⟩:=List.mem_map.1 hr
   exact ⟨Pl.mul_can _ _,Pl.mul_lv (aK ps gU x.1).1 (aK qs WC x.2).1 (aK ps gU x.1).2 (aK qs WC x.2).2 (by omega)⟩) (by omega) (by omega)
  exact ⟨by omega,yau _⟩
 obtain ⟨g1,-,g3⟩:=za4 h0 h4 hk;refine Pl.val_uniq (Pl.mul_can _ _) g1 fun ρ=>?_
 rw [g3,wbl];simp only [zau];rw [wck,xcb,xbu ρ l ps fun c hc=>(gU.mem c hc).2,xbu ρ l qs fun c hc=>(WC.mem c hc).2,Pl.mul_val,Pl.mk_val ρ _ _ _ h0 h4,Pl.mk_val ρ _ _ _ h0 h4];intro y hy;unfold jq at hy;obtain ⟨i,hi,hy⟩:=List.mem_flatMap.1 hy;obtain ⟨j,hj,rfl⟩:=List.mem_map.1 hy;have h1:i < ps.length:=by unfold prs at hi; have:=(List.mem_filter.1 hi).1; simpa using this
 have h2:j < qs.length:=by unfold prs at hj; have:=(List.mem_filter.1 hj).1; simpa using this
 simp only;omega
theorem Pl.mul_nr {p q:Pl} (hp:p.Can) (hq:q.Can):(p.mul q).nr<=p.nr * q.nr:=by
 have h1:=Pl.ofS_nr (xal (p.terms Mo.one) (q.terms Mo.one));rw [ubr,Pl.terms_nr p _ hp,Pl.terms_nr q _ hq] at h1;exact h1
def snr (cs : List Pl) : List Nat -> Nat
 | []=>0
 | i :: r=>(Pl.at_ cs i).nr+snr cs r
theorem zca (cs:List Pl) (a b:List Nat):snr cs (a ++ b)=snr cs a+snr cs b:=by
 induction a with
 | nil=>simp [snr]
 | cons y a ih=>simp only [List.cons_append,snr,ih]; omega
theorem jb5 (cs:List Pl) (k:Nat) (hk:k<=cs.length):snr cs (prs cs k)<=ql (cs.take k):=by
 induction k with
 | zero=>simp [prs,snr]
 | succ k ih =>
   have lN:k < cs.length:=by omega
   have aK:Pl.at_ cs k=cs[k]:=by unfold Pl.at_; rw [List.getD_eq_getElem?_getD,List.getElem?_eq_getElem lN]; rfl
   rw [xbc cs k lN,zca,List.take_succ_eq_append_getElem lN,ka9];have:=ih (by omega)
   split
   · simp only [snr,ql]; omega
   · simp only [snr,ql,aK]; omega
theorem ycs {ps qs:List Pl} (hp:∀ i,(Pl.at_ ps i).Can) (hq:∀ i,(Pl.at_ qs i).Can) (k:Nat) (a b:List Nat):lnr (zo ps qs (jq a b) k)<=snr ps a * snr qs b:=by
 have h1:∀ l:List (Nat × Nat),lnr (zo ps qs l k)<=(l.map fun x=>(Pl.at_ ps x.1).nr * (Pl.at_ qs x.2).nr).sum:=by
  intro l
  induction l with
  | nil=>simp [zo,lnr]
  | cons x l ih =>
    rw [show x :: l=[x] ++ l from rfl,yat,xbg,List.map_append,List.sum_append];obtain ⟨i,j⟩:=x;rw [ua4];have:=Pl.mul_nr (hp i) (hq j)
    split
    · simp only [lnr,List.map_cons,List.map_nil,List.sum_cons,List.sum_nil]; omega
    · simp only [lnr]; omega
 refine Nat.le_trans (h1 _) ?_;unfold jq
 induction a with
 | nil=>simp [snr]
 | cons i a ih =>
   rw [List.flatMap_cons,List.map_append,List.sum_append,snr,Nat.add_mul];have:((b.map fun j=>(i,j)).map fun x=>(Pl.at_ ps x.1).nr * (Pl.at_ qs x.2).nr).sum=(Pl.at_ ps i).nr * snr qs b:=by
    clear ih
    induction b with
    | nil=>simp [snr]
    | cons j b ihb=>simp only [List.map_cons,List.sum_cons,snr] at ihb ⊢; rw [ihb,Nat.mul_add]
   omega
theorem ubl (ps qs:List Pl) (l:List (Nat × Nat)) (k:Nat):(zo ps qs l k).length<=l.length:=by
 unfold zo;rw [List.length_map];exact List.length_filter_le _ _
theorem zbg (a b:List Nat):(jq a b).length=a.length * b.length:=by
 unfold jq
 induction a with
 | nil=>simp
 | cons i a ih=>rw [List.flatMap_cons,List.length_append,ih,List.length_map,List.length_cons,Nat.add_mul]; omega
theorem wci {cs:List Pl} {n i:Nat} (h:i ∈ prs cs n):i < n:=by
 unfold prs at h;have:=(List.mem_filter.1 h).1;simpa using this
theorem jcb (ps qs:List Pl) (l:List (Nat × Nat)) (i j k:Nat):zo ps qs (l ++ [(i,j)]) k=if i+j=k then zo ps qs l k ++ [(Pl.at_ ps i).mul (Pl.at_ qs j)] else zo ps qs l k:=by
 rw [yat,ua4]
 split
 · rfl
 · rw [List.append_nil]
def Pl.pow (p : Pl) : Nat -> Pl
 | 0=>Pl.const 1
 | n+1=>(p.pow n).mul p
theorem Pl.pow_can (p : Pl) : ∀ n, (p.pow n).Can
 | 0=>ut 1
 | _+1=>Pl.mul_can _ _
theorem Pl.pow_val (ρ:Int->Rat) (p:Pl) (n:Nat):(p.pow n).val ρ=p.val ρ ^ n:=by
 induction n with
 | zero=>rw [Pl.pow,Pl.const_val]; simp
 | succ n ih=>rw [Pl.pow,Pl.mul_val,ih,Rat.pow_succ]
theorem Pl.pow_twice (p:Pl) (n:Nat):(p.pow n).mul (p.pow n)=p.pow (2 * n):=Pl.val_uniq (Pl.mul_can _ _) (Pl.pow_can _ _) fun ρ=>by
 rw [Pl.mul_val,Pl.pow_val,Pl.pow_val,Nat.two_mul,zat]
theorem Fit.pow {p:Pl} {E D:Nat} (h:Fit p E D) (n:Nat):Fit (p.pow n) (n * E) (n * D+1):=by
 induction n with
 | zero=>exact Fit.const (by rw [Nat.zero_mul]; decide)
 | succ n ih=>exact (ih.mul h).mono (by rw [Nat.succ_mul]; omega) (by rw [Nat.succ_mul]; omega)
theorem Fit.pow_le {p:Pl} {E D n m:Nat} (h:Fit p E D) (hn:n<=m):Fit (p.pow n) (m * E) (m * D+1):=
 (h.pow n).mono (Nat.mul_le_mul_right _ hn) (Nat.add_le_add_right (Nat.mul_le_mul_right _ hn) 1)
theorem gcw (n k:Nat):n / 2 ^ k=2 * (n / 2 ^ (k+1))+n / 2 ^ k % 2:=by
 have:n / 2 ^ (k+1)=n / 2 ^ k / 2:=by rw [Nat.pow_succ,Nat.div_div_eq_div_mul]
 omega
theorem vc3 (n k:Nat):n &&& 2 ^ k=2 ^ k * (n / 2 ^ k % 2):=by
 apply Nat.eq_of_testBit_eq;intro i;have h1:n.testBit k=decide (n / 2 ^ k % 2=1):=Nat.testBit_eq_decide_div_mod_eq;rw [Nat.testBit_and,Nat.testBit_two_pow]
 by_cases hi:k=i
 · subst hi;rw [h1];rcases Nat.mod_two_eq_zero_or_one (n / 2 ^ k) with h | h <;> rw [h] <;> simp [Nat.testBit_two_pow]
 · rcases Nat.mod_two_eq_zero_or_one (n / 2 ^ k) with h | h <;> rw [h] <;> simp [Nat.testBit_two_pow,hi]
def Pl.opp (p:Pl):Pl:=p.mul (Pl.const (-1))
theorem Pl.opp_can (p:Pl):p.opp.Can:=Pl.mul_can _ _
theorem Pl.opp_val (ρ:Int->Rat) (p:Pl):p.opp.val ρ=- p.val ρ:=by unfold Pl.opp; rw [Pl.mul_val,Pl.const_val]; push_cast; grind
theorem Pl.opp_opp {p:Pl} (h:p.Can):p.opp.opp=p:=Pl.val_uniq (Pl.opp_can _) h fun ρ=>by rw [Pl.opp_val,Pl.opp_val]; grind
theorem Fit.opp {p:Pl} {E D:Nat} (h:Fit p E D):Fit p.opp E (D+1):=h.mul (F:=0) (G:=1) (Fit.const (by decide))
open Go.RowKit
def xa6 (n:Int) (w:World) (e:Ending) (w':World):Prop:=e=.returned (.int .i64 n)/\Ext w w'
inductive Mx where
 | mk (kind rel:Int) (p:Pl) (ks:List Mx)
section
variable {w w':World} {p q:Nat->Prop}
end
section
variable {base:Nat} {W W':World} {v:Value} {l:List Mx}
end
end Go.Proofs.YtcepajijiabkmaaGreat

set_option maxRecDepth 100000
set_option maxHeartbeats 8000000
namespace Go.Proofs.YtcepajijiabkmaaGreat
open Go.RowKit
theorem qbj (m:Mo) (l e:Int) (a b:List Pl):xe m l e (a ++ b)=xe m l e a ++ xe m l (e+a.length) b:=by
 induction a generalizing e with
 | nil=>simp [xe]
 | cons x r ih =>
   simp only [List.cons_append,xe,ih,List.append_assoc,List.length_cons];rw [show e+1+(r.length:Int)=e+((r.length+1:Nat):Int) by omega]
theorem vbt (m:Mo) (l e:Int) (cs:List Pl) (k:Nat) (hk:k < cs.length):xe m l e (cs.take (k+1))=xe m l e (cs.take k) ++ cs[k].terms (m.put l (e+k)):=by
 rw [List.take_succ_eq_append_getElem hk,qbj,List.length_take,Nat.min_eq_left (by omega)];simp only [xe,List.append_nil]
theorem xav (l:List Pl) (k:Nat) (hk:k < l.length):xk (l.take k)+l[k].sz+xk (l.drop (k+1))=xk l:=by
 have h2:xk l=xk (l.take k)+xk (l.drop k):=by rw [<- yb2,List.take_append_drop]
 rw [h2,jcj l k hk]; omega
theorem Mo.put_get (m:Mo) (l:Int):m.put l (m.get l)=m:=by
 unfold Mo.put Mo.get; split <;> (try split) <;> (try split) <;> rfl
def zah (k:Option Nat) (base:Nat) (tv:Value) (l:Sp) (w:World) (e:Ending) (w':World):Prop:=
 ∃ tv',e=.returned tv'/\TsV k base w' tv' l/\w.grownBy w' tv.ownBlock/\(∀ v ds,jb w v ds->jb w' v ds)/\(tv'.ownBlock=tv.ownBlock\/∀ R,tv'.ownBlock=some R->w.heap.size<=R)
def qbi (w0:World) (q:Nat->Prop) (L n:Nat):Prop:=∀ (p:Pl) (v:Value) (m:Mo) (E:Int) (l:Sp) (tv:Value) (w:World),p.sz < n->p.dm<=L->PlV w0 q p v->Ext w0 w->TsV (some L) w0.heap.size w tv l->m.nonneg->m.le E->E+p.sz<=4611686018427387904->l.length+p.sz<=1099511627776->Calls Tryz.prog 65 #[tv,v,moV m] w (zah (some L) w0.heap.size tv (l ++ p.terms m) w)
theorem xby {w0 w:World} {q:Nat->Prop} {L:Nat} (p:Pl) (v:Value) (m:Mo) (l:Sp) (tv:Value) (fG:p.dm<=L) (h:PlV w0 q p v) (aF:Ext w0 w) (ht:TsV (some L) w0.heap.size w tv l) (hlen:l.length+p.sz<=1099511627776) (hl:p.lv<=0):Calls Tryz.prog 65 #[tv,v,moV m] w (zah (some L) w0.heap.size tv (l ++ p.terms m) w):=by
 have xC:=p.dm_ds;have hsz:=p.sz_len;obtain ⟨A0,n0,c0,A,c,rfl,ak,dY,dK,h4⟩:=h.open_;obtain ⟨lv,ng,ds,cs⟩:=p;simp only [Pl.cs,Pl.ds,Pl.lv,Pl.neg,plV] at *;have oh:(Pl.mk lv ng ds cs).terms m=[(sgn ng (val ds),m)]:=by rw [Pl.terms,if_pos hl]
 rw [oh];obtain ⟨W,hW⟩:=n_m ((w.alloc (.cells #[.int .i64 lv,.bool ng,.slice A0 n0 c0,.slice A cs.length c] 33)).alloc (.cells #[.int .i64 m.a,.int .i64 m.b,.int .i64 m.c,.int .i64 m.d] 61));have ag:Ext w W:=by rw [<- hW]; exact ((Ext.refl w).alloc _).alloc _
 have bY:W.heap.size=w.heap.size+1+1:=by rw [<- hW]; simp
 have bJ:jc W w.heap.size (.mk lv ng ds cs) (.slice A0 n0 c0) (.slice A cs.length c):=by rw [<- hW]; exact (jc.new w (.mk lv ng ds cs) _ _ _).ext ((Ext.refl _).alloc _) (by simp)
 have iw:vw W (w.heap.size+1) m:=by
  have:=vw.new (w.alloc (.cells #[.int .i64 lv,.bool ng,.slice A0 n0 c0,.slice A cs.length c] 33)) m 61;rw [hW] at this;simpa using this
 obtain ⟨b0,b1,b2,b3⟩:=bJ;obtain ⟨d0,d1,d2,d3⟩:=iw;simp only [Pl.lv,Pl.neg] at b0 b1;have VR:=aF.size;have dE:Cf W (some L) (.agg #[.bool ng,.slice A0 n0 c0]) (sgn ng (val ds)):=⟨ng,_,ds,rfl,ak.ext (aF.trans ag),rfl,by omega⟩;obtain ⟨v4,w4,ax,t4,g4,n4,o4⟩:=(ht.ext ag).push (by have:=ag.size; omega) dE m (by omega) 23;have HF:Hid (zah (some L) w0.heap.size tv (l ++ [(sgn ng (val ds),m)]) w (.returned v4) w4):=by
  refine ⟨v4,rfl,t4,⟨g4.os.trans ag.below.os,g4.tape.trans ag.below.tape,g4.output.trans ag.below.output,Nat.le_trans ag.size g4.size,fun i hi au=>(World.grownBy.block g4 i (Nat.lt_of_lt_of_le hi ag.size) au).trans (ag.below.block i hi)⟩,fun v ds hv=>n4 v ds (hv.ext ag),?_⟩;rcases o4 with o4 | o4
  · exact .inl o4
  · right
    intro R hR;rw [o4] at hR;injection hR with hR
    have:=ag.size;omega
 have Lj:decide (lv<=0)=true:=decide_eq_true hl;obtain ⟨At,ct,rfl,-,-⟩:=ht.len;clear t4 g4 n4 o4 ht h ak h4 dE;unfold moV;rw [bY] at ax;go_enter Tryz.func65,Tryz.ntmps65
 go_wp2_with (at_builtin
              refine wpList_append_run rfl (.tmp 14) (.tmp 19) _ _ rfl _ _ _ _ rfl rfl ax ?_)
 clear ax;go_ret;exact HF.out
theorem qby {w0 w:World} {q:Nat->Prop} {L:Nat} (p:Pl) (v:Value) (m:Mo) (l:Sp) (tv:Value) (h:PlV w0 q p v) (aF:Ext w0 w) (ht:TsV (some L) w0.heap.size w tv l) (hl:4 < p.lv):Calls Tryz.prog 65 #[tv,v,moV m] w (zah (some L) w0.heap.size tv (l ++ p.terms m) w):=by
 obtain ⟨A0,n0,c0,A,c,rfl,ak,dY,dK,h4⟩:=h.open_;obtain ⟨lv,ng,ds,cs⟩:=p;simp only [Pl.cs,Pl.ds,Pl.lv,Pl.neg,plV] at *;have oh:(Pl.mk lv ng ds cs).terms m=[]:=by rw [Pl.terms,if_neg (by omega),if_pos hl]
 rw [oh,List.append_nil];have HF:Hid (∀ o o',zah (some L) w0.heap.size tv l w (.returned tv) ((w.alloc o).alloc o')):=fun o o'=>by
  have ag:Ext w ((w.alloc o).alloc o'):=((Ext.refl w).alloc _).alloc _;refine ⟨tv,rfl,ht.ext ag,⟨ag.below.os,ag.below.tape,ag.below.output,ag.size,fun i hi _=>ag.below.block i hi⟩,fun v ds hv=>hv.ext ag,.inl rfl⟩
 have Lj:decide (lv<=0)=false:=decide_eq_false (by omega);have afy:decide (lv > 4)=true:=decide_eq_true (by omega);obtain ⟨At,ct,rfl,-,-⟩:=ht.len;clear ht h ak h4;unfold moV;go_enter Tryz.func65,Tryz.ntmps65;go_wp2_with fail;go_ret;exact HF.out _ _
def gae (w0 w:World) (L:Nat) (p:Pl) (s A:Value) (m:Mo) (tv:Value) (l0:Sp) (k:Nat) (kT:Value) (wr:World):Prop:=
 TsV (some L) w0.heap.size wr kT (l0 ++ xe m p.lv (m.get p.lv) (p.cs.take k))/\(∃ e,vw wr (w.heap.size+1) (m.put p.lv e))/\(∀ i,wr.frozen? ⟨w.heap.size+1,i,none⟩=false)/\jc wr w.heap.size p s A/\w.grownBy wr tv.ownBlock/\(∀ v ds,jb w v ds->jb wr v ds)/\(kT.ownBlock=tv.ownBlock\/∀ R,kT.ownBlock=some R->w.heap.size+2<=R)/\w.heap.size+2<=wr.heap.size
theorem gae.ext0 {w0 w:World} {L:Nat} {p:Pl} {s A:Value} {m:Mo} {tv:Value} {l0 l1:Sp} {k:Nat} {kT:Value} {wr:World} (h:gae w0 w L p s A m tv l0 k kT wr) (hx:Ext w0 w) (ht:TsV (some L) w0.heap.size w tv l1):Ext w0 wr:=by
 obtain ⟨-,-,-,-,h5,-⟩:=h;exact Below.grown hx h5 hx.size (fun g e=>(ht.own e).1)
theorem vw.set_ {w:World} {g:Nat} {m:Mo} {l e:Int} (h:vw w g (m.put l e)) (hl:l=1\/l=2\/l=3\/l=4) (e':Int):vw (w.setCell ⟨g,(l - 1).toNat,none⟩ (.int .i64 e')) g (m.put l e')/\(∀ v ds,jb w v ds->jb (w.setCell ⟨g,(l - 1).toNat,none⟩ (.int .i64 e')) v ds):=by
 obtain ⟨h0,h1,h2,h3⟩:=h;rcases hl with rfl | rfl | rfl | rfl
 · refine ⟨⟨World.cell?_setCell_same _ _ _ h0,?_,?_,?_⟩,fun v ds hv=>hv.box h0 rfl _⟩ <;> (rw [World.cell?_setCell_other _ _ _ _ (by simp)]; first | exact h1 | exact h2 | exact h3)
 · refine ⟨⟨?_,World.cell?_setCell_same _ _ _ h1,?_,?_⟩,fun v ds hv=>hv.box h1 rfl _⟩ <;> (rw [World.cell?_setCell_other _ _ _ _ (by simp)]; first | exact h0 | exact h2 | exact h3)
 · refine ⟨⟨?_,?_,World.cell?_setCell_same _ _ _ h2,?_⟩,fun v ds hv=>hv.box h2 rfl _⟩ <;> (rw [World.cell?_setCell_other _ _ _ _ (by simp)]; first | exact h0 | exact h1 | exact h3)
 · refine ⟨⟨?_,?_,?_,World.cell?_setCell_same _ _ _ h3⟩,fun v ds hv=>hv.box h3 rfl _⟩ <;> (rw [World.cell?_setCell_other _ _ _ _ (by simp)]; first | exact h0 | exact h1 | exact h2)
theorem gae.step {w0 w:World} {L:Nat} {p:Pl} {s A:Value} {m:Mo} {tv:Value} {l0:Sp} {k:Nat} {kT:Value} {wr:World} (h:gae w0 w L p s A m tv l0 k kT wr) (hx:Ext w0 w) (ht:TsV (some L) w0.heap.size w tv l0) (hl:p.lv=1\/p.lv=2\/p.lv=3\/p.lv=4) (hk:k < p.cs.length) (o:Obj) :
 ∀ W1,W1=(wr.alloc o).setCell ⟨w.heap.size+1,(p.lv - 1).toNat,none⟩ (.int .i64 (m.get p.lv+k))->TsV (some L) w0.heap.size W1 kT (l0 ++ xe m p.lv (m.get p.lv) (p.cs.take k))/\vw W1 (w.heap.size+1) (m.put p.lv (m.get p.lv+k))/\Ext w0 W1/\(∀ i,W1.cell? ⟨wr.heap.size,i,none⟩=(wr.alloc o).cell? ⟨wr.heap.size,i,none⟩) /\
   ∀ e w2,zah (some L) w0.heap.size kT ((l0 ++ xe m p.lv (m.get p.lv) (p.cs.take k)) ++ p.cs[k].terms (m.put p.lv (m.get p.lv+k))) W1 e w2->∃ CX A2 c2,e=.returned CX/\CX=.slice A2 (l0 ++ xe m p.lv (m.get p.lv) (p.cs.take (k+1))).length c2/\gae w0 w L p s A m tv l0 (k+1) CX w2:=by
 intro W1 aP;have aF:=h.ext0 hx ht;obtain ⟨h1,⟨e,h2⟩,h3,h4,h5,h6,h7,h8⟩:=h;have iM:Ext wr (wr.alloc o):=(Ext.refl wr).alloc o;obtain ⟨m1,m2⟩:=(h2.ext iM (by omega)).set_ hl (m.get p.lv+k);rw [<- aP] at m1 m2;have hsz:W1.heap.size=wr.heap.size+1:=by rw [aP]; simp [World.setCell]
 have kK:∀ R,kT.ownBlock=some R->R ≠ w.heap.size+1/\R ≠ w.heap.size/\R < wr.heap.size:=by
  intro R hR;have af:=(h1.own hR).2;rcases h7 with h7 | h7
  · rw [h7] at hR;have:=(ht.own hR).2;omega
  · have:=h7 R hR; omega
 have iQ:∀ b,b ≠ w.heap.size+1->b < wr.heap.size->W1.heap[b]?=wr.heap[b]?:=fun b hb af=>by
  rw [aP,Below.heap_setCell _ _ _ b hb];exact iM.below.block b af
 have ak:∀ v ds,jb wr v ds->jb W1 v ds:=fun v ds hv=>m2 v ds (hv.ext iM)
 have zF:=hx.size;refine ⟨h1.turn (fun R hR=>iQ R (kK R hR).1 (kK R hR).2.2) ak,m1,?_,?_,?_⟩
 · rw [aP]; exact (aF.alloc o).setCell (by show w0.heap.size<=w.heap.size+1; omega) _
 · intro i;rw [aP,World.cell?_setCell_other _ _ _ _ (by intro e; injection e; omega)]
 · rintro e w2 ⟨CX,rfl,t2,g2,n2,o2⟩;rw [List.append_assoc,<- vbt _ _ _ _ k hk] at t2;have dL:=g2.size;obtain ⟨A2,c2,e2,-,-⟩:=t2.len;have iF:∀ b,b < W1.heap.size->kT.ownBlock ≠ some b->w2.heap[b]?=W1.heap[b]?:=fun b hb au=>World.grownBy.block g2 b hb (fun e=>au e.symm)
   refine ⟨CX,A2,c2,rfl,e2,t2,⟨_,m1.turn (iF _ (by omega) (fun e=>(kK _ e).1 rfl))⟩,fun i=>?_,h4.turn ((iF _ (by omega) (fun e=>(kK _ e).2.1 rfl)).trans (iQ _ (by omega) (by omega))),⟨?_,?_,?_,by omega,fun b hb au=>?_⟩,fun v ds hv=>n2 v ds (ak v ds (h6 v ds hv)),?_,by omega⟩
   · have:w2.frozen? ⟨w.heap.size+1,i,none⟩=W1.frozen? ⟨w.heap.size+1,i,none⟩:=World.frozen?_of_block (a:=⟨w.heap.size+1,i,none⟩) (iF _ (by show w.heap.size+1 < _; omega) (fun e=>(kK _ e).1 rfl));rw [this,aP,World.frozen?_setCell,iM.frozen (p:=⟨w.heap.size+1,i,none⟩) (by show w.heap.size+1 < _; omega)];exact h3 i
   · rw [g2.os,aP]; exact h5.os
   · rw [g2.tape,aP]; exact h5.tape
   · rw [g2.output,aP]; exact h5.output
   · have Lp:=h5.size
     by_cases Qp:kT.ownBlock=some b
     · rcases h7 with h7 | h7
       · exact absurd (h7.symm.trans Qp).symm au
       · have:=h7 b Qp; omega
     · rw [iF b (by omega) Qp,iQ b (by omega) (by omega)];exact World.grownBy.block h5 b hb au
   · rcases o2 with o2 | o2
     · rcases h7 with h7 | h7
       · exact .inl (o2.trans h7)
       · exact .inr (fun R hR=>h7 R (o2.symm.trans hR))
     · exact .inr (fun R hR=>by have:=o2 R hR; omega)
end Go.Proofs.YtcepajijiabkmaaGreat
