/- Products of polynomials of one level, plain: as recpoly.mul goes. No program in sight. -/
import Derived.Test.YtheefiaoimbeiaaGreatDoorMp15
import Derived.Test.YtheefiaoimbeiaaGreatDoorMp6
import Derived.Sort.Grow
set_option linter.unusedSimpArgs false
set_option linter.unusedVariables false

namespace Go.Proofs.YtheefiaoimbeiaaGreatDoor
open Lib (hid)
def Pl.at_ (cs:List Pl) (i:Nat):Pl:=cs.getD i Pl.zero
def vdo (ps qs:List Pl) (l:List (Nat × Nat)) (k:Nat):List Pl:=(l.filter fun x=>decide (x.1+x.2=k)).map fun x=>(Pl.at_ ps x.1).mul (Pl.at_ qs x.2)
theorem jec (ps qs:List Pl) (l r:List (Nat × Nat)) (k:Nat):vdo ps qs (l ++ r) k=vdo ps qs l k ++ vdo ps qs r k:=by
 unfold vdo;rw [tz,rC]
theorem gej (ps qs:List Pl) (i j k:Nat):vdo ps qs [(i,j)] k=if i+j=k then [(Pl.at_ ps i).mul (Pl.at_ qs j)] else []:=by
 unfold vdo
 by_cases h:i+j=k
 · simp [h]
 · simp [h]
def wd6 (x : Rat) (f : Nat -> Nat -> Rat) : List (Nat × Nat) -> Rat
 | []=>0
 | (i,j) :: r=>x ^ (i+j) * f i j+wd6 x f r
theorem wgf (x:Rat) (c:Rat):∀ (t n:Nat),t < n->hsm x (fun k=>if t=k then c else 0) n=x ^ t * c:=by
 intro t
 induction t with
 | zero =>
   intro n hn;obtain ⟨m,rfl⟩:∃ m,n=m+1:=⟨n - 1,by omega⟩;have e:(fun k:Nat=>if 0=k+1 then c else 0)=fun _=>0:=by funext k; rw [if_neg (by omega)]
   rw [hsm,e,uec,if_pos rfl];simp
   grind
 | succ t ih =>
   intro n hn;obtain ⟨m,rfl⟩:∃ m,n=m+1:=⟨n - 1,by omega⟩;have e:(fun k:Nat=>if t+1=k+1 then c else 0)=fun k=>if t=k then c else 0:=by
    funext k
    by_cases h:t=k
    · rw [if_pos (by omega),if_pos h]
    · rw [if_neg (by omega),if_neg h]
   rw [hsm,e,ih m (by omega),if_neg (by omega),sJ]
   grind
theorem zfs (x:Rat) (ρ:Int->Rat) (ps qs:List Pl) (N:Nat) (l:List (Nat × Nat)) (h:∀ y ∈ l,y.1+y.2 < N) :
 hsm x (fun k=>yds ρ (vdo ps qs l k)) N=wd6 x (fun i j=>(Pl.at_ ps i).val ρ * (Pl.at_ qs j).val ρ) l:=by
 induction l with
 | nil =>
   rw [wd6,<- uec x N]
   congr 1
 | cons y l ih =>
   obtain ⟨i,j⟩:=y;have e:(fun k=>yds ρ (vdo ps qs ((i,j) :: l) k))=fun k=>(if i+j=k then (Pl.at_ ps i).val ρ * (Pl.at_ qs j).val ρ else 0)+yds ρ (vdo ps qs l k):=by
    funext k
    rw [show ((i,j) :: l)=[(i,j)] ++ l from rfl,jec,uem,gej]
    congr 1
    by_cases hk:i+j=k
    · rw [if_pos hk,if_pos hk,yds,yds,Pl.qB]; grind
    · rw [if_neg hk,if_neg hk,yds]
   rw [e,wfd,ih fun z hz=>h z (by simp [hz]),wgf x _ (i+j) N (h (i,j) (by simp)),wd6]
theorem zfa (x:Rat) (f:Nat->Nat->Rat) (a b:List (Nat × Nat)):wd6 x f (a ++ b)=wd6 x f a+wd6 x f b:=by
 induction a with
 | nil=>simp [wd6]; grind
 | cons y a ih=>obtain ⟨i,j⟩:=y; simp only [rj,wd6,ih]; grind
def kd0 (x : Rat) (f : Nat -> Rat) : List Nat -> Rat
 | []=>0
 | i :: r=>x ^ i * f i+kd0 x f r
theorem ufa (x:Rat) (f:Nat->Rat) (a b:List Nat):kd0 x f (a ++ b)=kd0 x f a+kd0 x f b:=by
 induction a with
 | nil=>simp [kd0]; grind
 | cons y a ih=>simp only [rj,kd0,ih]; grind
def qdp (a b:List Nat):List (Nat × Nat):=a.flatMap fun i=>b.map fun j=>(i,j)
theorem jfh (x:Rat) (f g:Nat->Rat) (a b:List Nat):wd6 x (fun i j=>f i * g j) (qdp a b)=kd0 x f a * kd0 x g b:=by
 unfold qdp
 induction a with
 | nil=>simp [wd6,kd0]
 | cons i a ih =>
   rw [rG,zfa,ih,kd0];have:wd6 x (fun i j=>f i * g j) (b.map fun j=>(i,j))=x ^ i * f i * kd0 x g b:=by
    clear ih
    induction b with
    | nil=>simp [wd6,kd0]
    | cons j b ihb=>rw [rL,wd6,ihb,kd0,qec]; grind
   rw [this]
   grind
theorem ye5 (ρ:Int->Rat) (l:Int) (cs:List Pl) (hc:∀ c ∈ cs,c.Can):kd0 (ρ l) (fun i=>(Pl.at_ cs i).val ρ) (prs cs cs.length)=wdk ρ l cs:=by
 have key:∀ k,k<=cs.length->kd0 (ρ l) (fun i=>(Pl.at_ cs i).val ρ) (prs cs k)=wdk ρ l (cs.take k):=by
  intro k
  induction k with
  | zero=>intro _; simp [prs,kd0,wdk]
  | succ k ih =>
    intro hk;have hk':k < cs.length:=by omega
    rw [kep cs k hk',ufa,ih (by omega),pg hk'];have ab2:∀ (a:List Pl) (c:Pl),wdk ρ l (a ++ [c])=wdk ρ l a+ρ l ^ a.length * c.val ρ:=by
     intro a c
     induction a with
     | nil=>simp [wdk]; grind
     | cons y a iha=>rw [rj,wdk,wdk,iha,py,sJ]; grind
    rw [ab2,px,rh (by omega)];have hat:Pl.at_ cs k=cs[k]:=by unfold Pl.at_; rw [pB,pq hk']; rfl
    by_cases hz:cs[k].xw=true
    · rw [if_pos hz,(Pl.qN (hc _ (pt hk'))).1 hz,Pl.qS,kd0]; grind
    · rw [if_neg hz,kd0,kd0,hat]; grind
 have:=key cs.length (pf _);rw [pw] at this;exact this
theorem Pl.zZ {p q:Pl} (hp:p.Can) (hq:q.Can) (h0:0 < p.lv) (he:p.lv=q.lv) :
 p.mul q=wdx p.lv ((List.range (p.cs.length+q.cs.length - 1)).map fun k=>jdt (vdo p.cs q.cs (qdp (prs p.cs p.cs.length) (prs q.cs q.cs.length)) k)):=by
 obtain ⟨l,n,d,ps⟩:=p;obtain ⟨l',n',d',qs⟩:=q
 change l=l' at he
 subst he;simp only [Pl.cs,Pl.lv] at *;have h4:l<=4:=hp.qp.2;have hpk:=(hp.kids h0).2.2.2.1;have hqk:=(hq.kids h0).2.2.2.1;have hp2:=(hp.kids h0).2.2.1;have hq2:=(hq.kids h0).2.2.1;have hat:∀ (cs:List Pl),wdp l cs->∀ i,(Pl.at_ cs i).Can/\(Pl.at_ cs i).lv<=l - 1:=fun cs hk i=>by
  unfold Pl.at_;rw [pB];cases hi:cs[i]? with
  | none=>exact ⟨Pl.qA,by show (0:Int)<=l - 1; omega⟩
  | some c=>have:=hk.mem c (rH hi); exact ⟨this.2,by simp only [Option.getD_some]; omega⟩
 have hk:wdp l ((List.range (ps.length+qs.length - 1)).map fun k=>jdt (vdo ps qs (qdp (prs ps ps.length) (prs qs qs.length)) k)):=vd5 fun c hc=>by
  obtain ⟨k,-,rfl⟩:=sF.1 hc;have h1:=ufe (l:=vdo ps qs (qdp (prs ps ps.length) (prs qs qs.length)) k) (n:=l - 1) (fun r hr=>by
   unfold vdo at hr;obtain ⟨x,-,rfl⟩:=sF.1 hr
   exact ⟨Pl.qy _ _,Pl.yt (hat ps hpk x.1).1 (hat qs hqk x.2).1 (hat ps hpk x.1).2 (hat qs hqk x.2).2 (by omega)⟩) (by omega) (by omega)
  exact ⟨by omega,xed _⟩
 obtain ⟨g1,-,g3⟩:=vex h0 h4 hk;refine Pl.qH (Pl.qy _ _) g1 fun ρ=>?_
 rw [g3,xey];simp only [yed];rw [zfs,jfh,ye5 ρ l ps fun c hc=>(hpk.mem c hc).2,ye5 ρ l qs fun c hc=>(hqk.mem c hc).2,Pl.qB,Pl.mk_val ρ _ _ _ h0 h4,Pl.mk_val ρ _ _ _ h0 h4];intro y hy;unfold qdp at hy;obtain ⟨i,hi,hy⟩:=tu.1 hy;obtain ⟨j,hj,rfl⟩:=sF.1 hy;have h1:i < ps.length:=by unfold prs at hi; have:=(sL.1 hi).1; simpa using this
 have h2:j < qs.length:=by unfold prs at hj; have:=(sL.1 hj).1; simpa using this
 simp only;omega
theorem Pl.zm {p q:Pl} (hp:p.Can) (hq:q.Can):(p.mul q).nr<=p.nr * q.nr:=by
 have h1:=Pl.zk (jd6 (p.qe Mo.one) (q.qe Mo.one));rw [je3,Pl.qX p _ hp,Pl.qX q _ hq] at h1;exact h1
def snr (cs : List Pl) : List Nat -> Nat
 | []=>0
 | i :: r=>(Pl.at_ cs i).nr+snr cs r
theorem kfg (cs:List Pl) (a b:List Nat):snr cs (a ++ b)=snr cs a+snr cs b:=by
 induction a with
 | nil=>simp [snr]
 | cons y a ih=>simp only [rj,snr,ih]; omega
theorem kfc (cs:List Pl) (k:Nat) (hk:k<=cs.length):snr cs (prs cs k)<=jdu (cs.take k):=by
 induction k with
 | zero=>simp [prs,snr]
 | succ k ih =>
   have hk':k < cs.length:=by omega
   have hat:Pl.at_ cs k=cs[k]:=by unfold Pl.at_; rw [pB,pq hk']; rfl
   rw [kep cs k hk',kfg,pg hk',xen];have:=ih (by omega)
   split
   · simp only [snr,jdu]; omega
   · simp only [snr,jdu,hat]; omega
theorem jfy {ps qs:List Pl} (hp:∀ i,(Pl.at_ ps i).Can) (hq:∀ i,(Pl.at_ qs i).Can) (k:Nat) (a b:List Nat):lnr (vdo ps qs (qdp a b) k)<=snr ps a * snr qs b:=by
 have h1:∀ l:List (Nat × Nat),lnr (vdo ps qs l k)<=(l.map fun x=>(Pl.at_ ps x.1).nr * (Pl.at_ qs x.2).nr).sum:=by
  intro l
  induction l with
  | nil=>simp [vdo,lnr]
  | cons x l ih =>
    rw [show x :: l=[x] ++ l from rfl,jec,xes,rC,si];obtain ⟨i,j⟩:=x;rw [gej];have:=Pl.zm (hp i) (hq j)
    split
    · simp only [lnr,rL,List.map_nil,List.sum_cons,List.sum_nil]; omega
    · simp only [lnr]; omega
 refine po (h1 _) ?_;unfold qdp
 induction a with
 | nil=>simp [snr]
 | cons i a ih =>
   rw [rG,rC,si,snr,pT];have:((b.map fun j=>(i,j)).map fun x=>(Pl.at_ ps x.1).nr * (Pl.at_ qs x.2).nr).sum=(Pl.at_ ps i).nr * snr qs b:=by
    clear ih
    induction b with
    | nil=>simp [snr]
    | cons j b ihb=>simp only [rL,List.sum_cons,snr] at ihb ⊢; rw [ihb,pD]
   omega
theorem yey (ps qs:List Pl) (l:List (Nat × Nat)) (k:Nat):(vdo ps qs l k).length<=l.length:=by
 unfold vdo;rw [pC];exact te _ _
theorem ger (a b:List Nat):(qdp a b).length=a.length * b.length:=by
 unfold qdp
 induction a with
 | nil=>simp
 | cons i a ih=>rw [rG,pz,ih,pC,py,pT]; omega
theorem wfo {cs:List Pl} {n i:Nat} (h:i ∈ prs cs n):i < n:=by
 unfold prs at h;have:=(sL.1 h).1;simpa using this
theorem vfh (ps qs:List Pl) (l:List (Nat × Nat)) (i j k:Nat):vdo ps qs (l ++ [(i,j)]) k=if i+j=k then vdo ps qs l k ++ [(Pl.at_ ps i).mul (Pl.at_ qs j)] else vdo ps qs l k:=by
 rw [jec,gej]
 split
 · rfl
 · rw [tm]
def Pl.pow (p : Pl) : Nat -> Pl
 | 0=>Pl.const 1
 | n+1=>(p.pow n).mul p
theorem Pl.xR (p : Pl) : ∀ n, (p.pow n).Can
 | 0=>yd0 1
 | _+1=>Pl.qy _ _
theorem Pl.zh (ρ:Int->Rat) (p:Pl) (n:Nat):(p.pow n).val ρ=p.val ρ ^ n:=by
 induction n with
 | zero=>rw [Pl.pow,Pl.qC]; simp
 | succ n ih=>rw [Pl.pow,Pl.qB,ih,sJ]
theorem Pl.zW (p:Pl) (n:Nat):(p.pow n).mul (p.pow n)=p.pow (2 * n):=Pl.qH (Pl.qy _ _) (Pl.xR _ _) fun ρ=>by
 rw [Pl.qB,Pl.zh,Pl.zh,Nat.two_mul,qec]
theorem Fit.pow {p:Pl} {E D:Nat} (h:Fit p E D) (n:Nat):Fit (p.pow n) (n * E) (n * D+1):=by
 induction n with
 | zero=>exact Fit.const (by rw [tc]; decide)
 | succ n ih=>exact (ih.mul h).mono (by rw [Nat.succ_mul]; omega) (by rw [Nat.succ_mul]; omega)
theorem Fit.yZ {p:Pl} {E D n m:Nat} (h:Fit p E D) (hn:n<=m):Fit (p.pow n) (m * E) (m * D+1):=
 (h.pow n).mono (pE _ hn) (Nat.add_le_add_right (pE _ hn) 1)
theorem jf6 (n k:Nat):n / 2 ^ k=2 * (n / 2 ^ (k+1))+n / 2 ^ k % 2:=by
 have:n / 2 ^ (k+1)=n / 2 ^ k / 2:=by rw [pP,Nat.div_div_eq_div_mul]
 omega
theorem ygi (n k:Nat):n &&& 2 ^ k=2 ^ k * (n / 2 ^ k % 2):=by
 apply Nat.eq_of_testBit_eq;intro i;have h1:n.testBit k=decide (n / 2 ^ k % 2=1):=uu;rw [Nat.testBit_and,Nat.testBit_two_pow]
 by_cases hi:k=i
 · subst hi;rw [h1];rcases Nat.mod_two_eq_zero_or_one (n / 2 ^ k) with h | h <;> rw [h] <;> simp [Nat.testBit_two_pow]
 · rcases Nat.mod_two_eq_zero_or_one (n / 2 ^ k) with h | h <;> rw [h] <;> simp [Nat.testBit_two_pow,hi]
def Pl.xJ (p:Pl):Pl:=p.mul (Pl.const (-1))
theorem Pl.yJ (p:Pl):p.xJ.Can:=Pl.qy _ _
theorem Pl.zi (ρ:Int->Rat) (p:Pl):p.xJ.val ρ=- p.val ρ:=by unfold Pl.xJ; rw [Pl.qB,Pl.qC]; push_cast; grind
theorem Fit.xJ {p:Pl} {E D:Nat} (h:Fit p E D):Fit p.xJ E (D+1):=h.mul (F:=0) (G:=1) (Fit.const (by decide))
open Go.RowKit
inductive Mx where
 | mk (kind rel:Int) (p:Pl) (ks:List Mx)
def Mx.kind : Mx -> Int
 | .mk k _ _ _=>k
def Mx.rel : Mx -> Int
 | .mk _ r _ _=>r
def Mx.p : Mx -> Pl
 | .mk _ _ p _=>p
def Mx.ks : Mx -> List Mx
 | .mk _ _ _ ks=>ks
def mxV (m:Mx) (s A K:Value):Value:=.agg #[.int .i64 m.kind,.int .i64 m.rel,.int .i64 m.p.lv,.bool m.p.neg,s,A,K]
def vei (w:World) (ad:Addr) (m:Mx) (s A K:Value):Prop:=
 w.cell? ad=some (.int .i64 m.kind)/\w.cell? ⟨ad.block,ad.off+1,none⟩=some (.int .i64 m.rel)/\w.cell? ⟨ad.block,ad.off+2,none⟩=some (.int .i64 m.p.lv)/\w.cell? ⟨ad.block,ad.off+3,none⟩=some (.bool m.p.neg)/\w.cell? ⟨ad.block,ad.off+4,none⟩=some s/\w.cell? ⟨ad.block,ad.off+5,none⟩=some A/\w.cell? ⟨ad.block,ad.off+6,none⟩=some K
mutual
def MxV (w : World) (q : Nat -> Prop) : Mx -> Value -> Prop
 | .mk k r p ks,v=>∃ s A K c,v=.agg #[.int .i64 k,.int .i64 r,.int .i64 p.lv,.bool p.neg,s,A,.slice K ks.length c]/\PlV w q p (plV p s A)/\ks.length<=c/\c<=9223372036854775807/\zdr w q ks K 0
def zdr (w : World) (q : Nat -> Prop) : List Mx -> Option Addr -> Nat -> Prop
 | [],_,_=>True
 | t :: r,A,j=>(∃ ad s B K,A=some ad/\ad.block < w.heap.size/\q ad.block/\vei w (ad.add (j * 7)) t s B K/\MxV w q t (mxV t s B K))/\zdr w q r A (j+1)
end
section
variable {w w':World} {p q:Nat->Prop}
theorem zdr.qt (l:List Mx):∀ (A:Option Addr) (j:Nat),zdr w p l A j->∀ i (h:i < l.length),∃ ad s B K,A=some ad/\ad.block < w.heap.size/\p ad.block/\vei w (ad.add ((j+i) * 7)) l[i] s B K/\MxV w p l[i] (mxV l[i] s B K):=by
 induction l with
 | nil=>intro A j h i hi; simp at hi
 | cons t r ih =>
   intro A j h i hi;unfold zdr at h;cases i with
   | zero=>exact h.1
   | succ i =>
     have:=ih A (j+1) h.2 i (by simpa using hi);rw [show j+(i+1)=j+1+i by omega];exact this
theorem vei.same {ad:Addr} {t:Mx} {s A K:Value} (h:vei w ad t s A K) (k0:w'.cell? ad=w.cell? ad) (k:∀ n,n < 7->w'.cell? ⟨ad.block,ad.off+n,none⟩=w.cell? ⟨ad.block,ad.off+n,none⟩):vei w' ad t s A K:=by
 obtain ⟨h0,h1,h2,h3,h4,h5,h6⟩:=h;exact ⟨k0.trans h0,(k 1 (by omega)).trans h1,(k 2 (by omega)).trans h2,(k 3 (by omega)).trans h3,(k 4 (by omega)).trans h4,(k 5 (by omega)).trans h5,(k 6 (by omega)).trans h6⟩
theorem vei.ext {ad:Addr} {t:Mx} {s A K:Value} (h:vei w ad t s A K) (hx:Ext w w') (hb:ad.block < w.heap.size):vei w' ad t s A K:=h.same (hx.cell hb) (fun n _=>hx.cell (p:=⟨ad.block,ad.off+n,none⟩) hb)
mutual
theorem MxV.ql (hs : w.heap.size <= w'.heap.size) (hn : ∀ v ds, zb1 w v ds -> zb1 w' v ds) (hc : ∀ b, b < w.heap.size -> p b -> q b /\ w'.heap[b]? = w.heap[b]?) : ∀ (t : Mx) (v : Value), MxV w p t v -> MxV w' q t v
 | .mk k r pl ks,v,h=>by
   unfold MxV at h ⊢;obtain ⟨s,A,K,c,e,h1,h2,h3,h4⟩:=h;exact ⟨s,A,K,c,e,PlV.qO hs hn hc h1,h2,h3,zdr.ql hs hn hc ks K 0 h4⟩
theorem zdr.ql (hs : w.heap.size <= w'.heap.size) (hn : ∀ v ds, zb1 w v ds -> zb1 w' v ds) (hc : ∀ b, b < w.heap.size -> p b -> q b /\ w'.heap[b]? = w.heap[b]?) : ∀ (l : List Mx) (A : Option Addr) (j : Nat), zdr w p l A j -> zdr w' q l A j
 | [],A,j,h=>by unfold zdr; trivial
 | t :: r,A,j,h=>by
   unfold zdr at h ⊢;obtain ⟨⟨ad,s,B,K,e,hb,hpb,h1,h2⟩,h3⟩:=h;obtain ⟨hq,hk⟩:=hc _ hb hpb;exact ⟨⟨ad,s,B,K,e,pr hb hs,hq,h1.same (ph (by rw [zc1]; exact hk)) (fun n _=>ph (a:=⟨(ad.add (j * 7)).block,(ad.add (j * 7)).off+n,none⟩) (by show w'.heap[(ad.add (j * 7)).block]?=_; rw [zc1]; exact hk)),MxV.ql hs hn hc t _ h2⟩,zdr.ql hs hn hc r A (j+1) h3⟩
end
theorem MxV.qO {t:Mx} {v:Value} (hs:w.heap.size<=w'.heap.size) (hn:∀ v ds,zb1 w v ds->zb1 w' v ds) (hc:∀ b,b < w.heap.size->p b->q b/\w'.heap[b]?=w.heap[b]?) (h:MxV w p t v):MxV w' q t v:=MxV.ql hs hn hc t v h
theorem MxV.ext {t:Mx} {v:Value} (h:MxV w p t v) (hx:Ext w w'):MxV w' p t v:=MxV.ql hx.size (fun _ _ h=>h.ext hx) (fun b hb hp=>⟨hp,hx.below.block b hb⟩) t v h
theorem zdr.ext {l:List Mx} {A:Option Addr} {j:Nat} (h:zdr w p l A j) (hx:Ext w w'):zdr w' p l A j:=zdr.ql hx.size (fun _ _ h=>h.ext hx) (fun b hb hp=>⟨hp,hx.below.block b hb⟩) l A j h
theorem MxV.mono {t:Mx} {v:Value} (h:MxV w p t v) (hp:∀ b,p b->q b):MxV w q t v:=MxV.ql (pf _) (fun _ _ h=>h) (fun b _ h=>⟨hp b h,rfl⟩) t v h
theorem MxV.open_ {t:Mx} {v:Value} (h:MxV w p t v):∃ A0 n0 c0 A n1 c1 K c,v=mxV t (.slice A0 n0 c0) (.slice A n1 c1) (.slice K t.ks.length c)/\PlV w p t.p (plV t.p (.slice A0 n0 c0) (.slice A n1 c1))/\t.ks.length<=c/\c<=9223372036854775807/\zdr w p t.ks K 0:=by
 cases t with
 | mk k r pl ks =>
   unfold MxV at h;obtain ⟨s,A,K,c,e,h1,h2,h3,h4⟩:=h;obtain ⟨A0,n0,c0,A1,c1,e2,-,-⟩:=h1.open_;unfold plV at e2;simp only [rS,rX,ru,and_true,true_and] at e2;obtain ⟨rfl,rfl⟩:=e2;exact ⟨A0,n0,c0,A1,_,c1,K,c,e,h1,h2,h3,h4⟩
theorem MxV.mk {t:Mx} {s A:Value} {K:Option Addr} {c:Nat} (h1:PlV w p t.p (plV t.p s A)) (h2:t.ks.length<=c) (h3:c<=9223372036854775807) (h4:zdr w p t.ks K 0):MxV w p t (mxV t s A (.slice K t.ks.length c)):=by
 cases t with
 | mk k r pl ks=>unfold MxV; exact ⟨s,A,K,c,rfl,h1,h2,h3,h4⟩
theorem zdr.kid {l:List Mx} {A:Option Addr} (h:zdr w p l A 0) (k:Nat) (hk:k < l.length):∃ ad A0 n0 c0 A1 n1 c1 K n2 c2,A=some ad/\ad.block < w.heap.size/\vei w (ad.add (k * 7)) l[k] (.slice A0 n0 c0) (.slice A1 n1 c1) (.slice K n2 c2)/\MxV w p l[k] (mxV l[k] (.slice A0 n0 c0) (.slice A1 n1 c1) (.slice K n2 c2)):=by
 obtain ⟨ad,s,B,K,e,hb,-,h1,h2⟩:=zdr.qt l A 0 h k hk;rw [pH] at h1;obtain ⟨A0,n0,c0,A1,n1,c1,K',c',e2,-,-⟩:=h2.open_;unfold mxV at e2;simp only [rS,rX,ru,and_true,true_and] at e2;obtain ⟨rfl,rfl,rfl⟩:=e2;exact ⟨ad,A0,n0,c0,A1,n1,c1,K',_,c',e,hb,h1,h2⟩
end
end Go.Proofs.YtheefiaoimbeiaaGreatDoor

namespace Go.Proofs.YtheefiaoimbeiaaGreatDoor
open Lib (hid)
open Go.RowKit
mutual
def Mx.sz : Mx -> Nat
 | .mk _ _ _ ks=>zef ks+1
def zef : List Mx -> Nat
 | []=>0
 | t :: r=>t.sz+zef r
end
theorem xf1 {l:List Mx} {t:Mx} (h:t ∈ l):t.sz<=zef l:=by
 induction l with
 | nil=>cases h
 | cons x r ih =>
   rcases pI.1 h with rfl | h
   · rw [zef]; omega
   · have:=ih h; rw [zef]; omega
theorem qf1 (l:List Mx):l.length<=zef l:=by
 induction l with
 | nil=>exact pf _
 | cons x r ih=>cases x; rw [zef,Mx.sz]; simp only [py]; omega
def udu (w:World) (g:Nat) (m:Mx) (s A K:Value):Prop:=
 w.cell? ⟨g,0,none⟩=some (.int .i64 m.kind)/\w.cell? ⟨g,1,none⟩=some (.int .i64 m.rel)/\w.cell? ⟨g,2,none⟩=some (.int .i64 m.p.lv)/\w.cell? ⟨g,3,none⟩=some (.bool m.p.neg)/\w.cell? ⟨g,4,none⟩=some s/\w.cell? ⟨g,5,none⟩=some A/\w.cell? ⟨g,6,none⟩=some K
theorem udu.ql {w w':World} {g:Nat} {m:Mx} {s A K:Value} (h:udu w g m s A K) (hb:w'.heap[g]?=w.heap[g]?):udu w' g m s A K:=by
 obtain ⟨h0,h1,h2,h3,h4,h5,h6⟩:=h;have k:∀ i,w'.cell? ⟨g,i,none⟩=w.cell? ⟨g,i,none⟩:=fun i=>ph (a:=⟨g,i,none⟩) hb
 exact ⟨(k _).trans h0,(k _).trans h1,(k _).trans h2,(k _).trans h3,(k _).trans h4,(k _).trans h5,(k _).trans h6⟩
theorem udu.ext {w w':World} {g:Nat} {m:Mx} {s A K:Value} (h:udu w g m s A K) (hx:Ext w w') (hg:g < w.heap.size):udu w' g m s A K:=h.ql (hx.below.block g hg)
theorem udu.new (w:World) (m:Mx) (s A K:Value) (T:TypeId):udu (w.alloc (.cells #[.int .i64 m.kind,.int .i64 m.rel,.int .i64 m.p.lv,.bool m.p.neg,s,A,K] T)) w.heap.size m s A K:=by
 refine ⟨?_,?_,?_,?_,?_,?_,?_⟩ <;> simp [go_sem]
def vf7 (q:Nat->Prop) (m:Mx) (w:World) (e:Ending) (w':World):Prop:=∃ v,e=.returned v/\MxV w' q m v/\Ext w w'
def gdn (w:World) (g:Nat):Prop:=udu w g (.mk 0 0 Pl.zero []) (.slice none 0 0) (.slice none 0 0) (.slice none 0 0)/\∀ i,w.frozen? ⟨g,i,none⟩=false
theorem gdn.ext {w w':World} {g:Nat} (h:gdn w g) (hx:Ext w w') (hg:g < w.heap.size):gdn w' g:=⟨h.1.ext hx hg,fun i=>(hx.frozen (p:=⟨g,i,none⟩) hg).trans (h.2 i)⟩
theorem gdn.new (w:World) (T:TypeId):gdn (w.alloc (.cells #[.int .i64 0,.int .i64 0,.int .i64 0,.bool false,.slice none 0 0,.slice none 0 0,.slice none 0 0] T)) w.heap.size:=
 ⟨udu.new w (.mk 0 0 Pl.zero []) _ _ _ T,fun i=>by simp [go_sem]⟩
theorem wet {W:World} {g:Nat} {m m':Mx} {A0 A1 K0 B0 B1 K1:Option Addr} {n0 c0 n1 c1 n2 c2 m0 d0 m1 d1 m2 d2:Nat} (h:udu W g m (.slice A0 n0 c0) (.slice A1 n1 c1) (.slice K0 n2 c2)) :
 (∀ v ds,zb1 W v ds->zb1 (((((((W.setCell ⟨g,0,none⟩ (.int .i64 m'.kind)).setCell ⟨g,1,none⟩ (.int .i64 m'.rel)).setCell ⟨g,2,none⟩ (.int .i64 m'.p.lv)).setCell ⟨g,3,none⟩ (.bool m'.p.neg)).setCell ⟨g,4,none⟩ (.slice B0 m0 d0)).setCell ⟨g,5,none⟩ (.slice B1 m1 d1)).setCell ⟨g,6,none⟩ (.slice K1 m2 d2)) v ds) /\
 (∀ b,b ≠ g->(((((((W.setCell ⟨g,0,none⟩ (.int .i64 m'.kind)).setCell ⟨g,1,none⟩ (.int .i64 m'.rel)).setCell ⟨g,2,none⟩ (.int .i64 m'.p.lv)).setCell ⟨g,3,none⟩ (.bool m'.p.neg)).setCell ⟨g,4,none⟩ (.slice B0 m0 d0)).setCell ⟨g,5,none⟩ (.slice B1 m1 d1)).setCell ⟨g,6,none⟩ (.slice K1 m2 d2)).heap[b]?=W.heap[b]?):=by
 obtain ⟨h0,h1,h2,h3,h4,h5,h6⟩:=h;refine ⟨fun v ds hv=>?_,fun b hb=>?_⟩
 · refine ((((((hv.box h0 rfl _).box (u:=.int .i64 m.rel) ?_ rfl _).box (u:=.int .i64 m.p.lv) ?_ rfl _).box (u:=.bool m.p.neg) ?_ rfl _).box (u:=.slice A0 n0 c0) ?_ rfl _).box (u:=.slice A1 n1 c1) ?_ rfl _).box (u:=.slice K0 n2 c2) ?_ rfl _
   all_goals
    repeat rw [pe _ _ _ _ (by simp)]
    first | exact h1 | exact h2 | exact h3 | exact h4 | exact h5 | exact h6
 · have hb':b ≠ (⟨g,0,none⟩:Addr).block:=hb
   repeat rw [Below.heap_setCell _ _ _ b (by exact hb)]
theorem uf5 {w W:World} {g:Nat} {m:Mx} {q q':Nat->Prop} {A0 A1 K:Option Addr} {n0 c0 n1 c1 n2 c2:Nat} (hx:Ext w W) (hg:w.heap.size<=g) (hz:gdn W g) (hp:MxV W q m (mxV m (.slice A0 n0 c0) (.slice A1 n1 c1) (.slice K n2 c2))) (hq:∀ b,b < W.heap.size->q b->b ≠ g/\q' b) :
 vf7 q' m w (.returned (mxV m (.slice A0 n0 c0) (.slice A1 n1 c1) (.slice K n2 c2))) (((((((W.setCell ⟨g,0,none⟩ (.int .i64 m.kind)).setCell ⟨g,1,none⟩ (.int .i64 m.rel)).setCell ⟨g,2,none⟩ (.int .i64 m.p.lv)).setCell ⟨g,3,none⟩ (.bool m.p.neg)).setCell ⟨g,4,none⟩ (.slice A0 n0 c0)).setCell ⟨g,5,none⟩ (.slice A1 n1 c1)).setCell ⟨g,6,none⟩ (.slice K n2 c2)):=by
 obtain ⟨hn,hb⟩:=wet (m':=m) (B0:=A0) (m0:=n0) (d0:=c0) (B1:=A1) (m1:=n1) (d1:=c1) (K1:=K) (m2:=n2) (d2:=c2) hz.1;refine ⟨_,rfl,MxV.qO (by simp [World.setCell]) hn (fun b hlt hqb=>⟨(hq b hlt hqb).2,hb b (hq b hlt hqb).1⟩) hp,((((((hx.setCell hg _).setCell hg _).setCell hg _).setCell hg _).setCell hg _).setCell hg _).setCell hg _⟩
section
variable {base:Nat} {W W':World} {v:Value} {l:List Mx}
end
end Go.Proofs.YtheefiaoimbeiaaGreatDoor

set_option maxRecDepth 100000
set_option maxHeartbeats 8000000
namespace Go.Proofs.YtheefiaoimbeiaaGreatDoor
open Lib (hid)
open Go.RowKit
def ygq (w0:World) (q:Nat->Prop) (n:Nat):Prop:=∀ (p:Pl) (v:Value) (w:World),p.sz < n->p.Can->p.sz<=1099511627776->p.dm<=35184372088832->PlV w0 q p v->Ext w0 w->Calls Tryz.prog 95 #[v] w (gdl (fun b=>w.heap.size<=b) p w)
theorem xft {w0 w:World} {q:Nat->Prop} (p:Pl) (v:Value) (af7:p.Can) (hdm:p.dm<=35184372088832) (h:PlV w0 q p v) (hx0:Ext w0 w) (hl:p.lv=0):Calls Tryz.prog 95 #[v] w (gdl (fun b=>w.heap.size<=b) p w):=by
 have hds:=p.yA;obtain ⟨A0,n0,c0,A,c,rfl,abM,hl1,hl2,h4⟩:=h.open_;obtain ⟨l,ng,ds,cs⟩:=p
 change l=0 at hl
 subst hl;simp only [Pl.cs,Pl.ds,Pl.lv,Pl.neg,plV] at *;have hc2:cs=[]/\ds=dg (val ds)/\(ds=[]->ng=false):=by
  unfold Pl.Can at af7;rcases af7 with h | h
  · exact h.2
  · omega
 obtain ⟨rfl,hdg,hng⟩:=hc2;have arf:ng=decide (sgn ng (val ds) < 0):=by
  rw [wem,<- hdg];cases ng
  · rfl
  · have:0 < ds.length:=List.length_pos_iff.2 (fun e=>by have:=hng e; cases this);simp [this]
 have HNG:=hid arf;have HDG:=hid hdg;obtain ⟨W,hW⟩:=n_m ((w.alloc (.cells #[.int .i64 0,.bool ng,.slice A0 n0 c0,.slice A ([]:List Pl).length c] 44)).alloc (.cells #[.int .i64 0,.bool false,.slice none 0 0,.slice none 0 0] 44));have hWx:Ext w W:=by rw [<- hW]; exact ((Ext.refl w).alloc _).alloc _
 have hWs:W.heap.size=w.heap.size+1+1:=by rw [<- hW]; simp
 have hz:zdl W (w.heap.size+1):=by
  have:=zdl.new (w.alloc (.cells #[.int .i64 0,.bool ng,.slice A0 n0 c0,.slice A ([]:List Pl).length c] 44)) 44;rw [hW] at this;simpa using this
 have awX:=hid (abM.ext (hx0.trans hWx));have HWX:=hid hWx;have HZ:=hid hz;clear h h4 abM hx0 af7 hng hdg arf hWx hz;go_enter Tryz.func95,Tryz.ntmps95;go_wp2_with fail;rw [pQ] at hW;rw [hW];clear hW;refine (qd7 _ (sgn ng (val ds)) ds.length W ⟨ng,_,ds,rfl,awX.out,rfl,pf _⟩ (by omega)).mono ?_;rintro e w1 ⟨x,rfl,⟨v1,rfl,hv1⟩,x1⟩;rw [gdo,<- HDG.out] at hv1;rw [<- HNG.out];obtain ⟨⟨z0,z1,z2,z3⟩,zf⟩:=HZ.out.ext x1 (by omega);have hws:=x1.size;have HF:Hid (∀ A' n' c',v1=.slice A' n' c'->gdl (fun b=>w.heap.size<=b) (.mk 0 ng ds []) w (.returned (plV (.mk 0 ng ds []) (.slice A' n' c') (.slice none 0 0))) ((((w1.setCell ⟨w.heap.size+1,0,none⟩ (.int .i64 0)).setCell ⟨w.heap.size+1,1,none⟩ (.bool ng)).setCell ⟨w.heap.size+1,2,none⟩ (.slice A' n' c')).setCell ⟨w.heap.size+1,3,none⟩ (.slice none 0 0))):=by
  intro A' n' c' e;subst e;exact zdm (p:=.mk 0 ng ds []) (q:=fun _=>False) (HWX.out.trans x1) (by omega) (HZ.out.ext x1 (by omega)) (PlV.mk (t:=.mk 0 ng ds []) hv1 (pf _) (by simp [Pl.cs]) (by unfold Pl.cs jdk; trivial)) (fun b _ h=>h.elim)
 obtain ⟨A1,d1,rfl,-⟩:=hv1;have HF2:=hid (HF.out _ _ _ rfl);clear HF x1 HZ;go_wp2_with fail;exact bodyPost_ret (v:=plV (.mk 0 ng ds []) (.slice A1 ds.length d1) (.slice none 0 0)) (by simp [results,Tryz.results95,go_sem,z0,z1,z2,z3,plV,Pl.lv,Pl.neg]) rfl HF2.out
theorem vgh (w0:World) (q:Nat->Prop) (n:Nat):ygq w0 q n:=by
 induction n with
 | zero=>intro p v w h; omega
 | succ n ih =>
 intro p v w hn af7 agD hdm h hx0
 by_cases hl:p.lv=0
 · exact xft p v af7 hdm h hx0 hl
 obtain ⟨A0,n0,c0,A,c,rfl,abM,hl1,hl2,h4⟩:=h.open_;obtain ⟨l,ng,ds,cs⟩:=p;simp only [Pl.cs,Pl.ds,Pl.lv,Pl.neg,plV] at *;have hk:=af7.kids (by have:=af7.qp.1; simp only [Pl.lv] at this; omega);obtain ⟨rfl,rfl,hlen,hcs,-⟩:=hk;have aqP:(Pl.mk l false [] cs).sz=zdx cs+1:=by rw [Pl.sz]
 have avT:xd8 cs<=(Pl.mk l false [] cs).dm:=by rw [Pl.dm]; exact Nat.le_max_right _ _
 have hlb:=gfz cs;have IH:=hid ih;have H4:=hid h4;have HX0:=hid hx0;have HSZ:Hid (∀ k (hk:k < cs.length),cs[k].sz < n/\cs[k].Can/\cs[k].sz<=1099511627776/\cs[k].dm<=35184372088832):=by
  have:∀ k (hk:k < cs.length),cs[k].sz < n/\cs[k].Can/\cs[k].sz<=1099511627776/\cs[k].dm<=35184372088832:=fun k hk=>by
   have h1:=keh (pt hk);have h2:=yf0 (pt hk);exact ⟨by omega,(hcs.mem _ (pt hk)).2,by omega,by omega⟩
  exact this
 have hlz:(l == 0)=false:=by simpa using hl
 have hcb:cs.length<=1099511627776:=by omega
 clear h h4 ih hx0 abM af7 hcs avT hdm hlb;obtain ⟨W,hW⟩:=n_m ((w.alloc (.cells #[.int .i64 l,.bool false,.slice A0 n0 c0,.slice A cs.length c] 44)).alloc (.cells #[.int .i64 0,.bool false,.slice none 0 0,.slice none 0 0] 44));have hWx:Ext w W:=by rw [<- hW]; exact ((Ext.refl w).alloc _).alloc _
 have hWs:W.heap.size=w.heap.size+1+1:=by rw [<- hW]; simp
 have hbx:jdm W w.heap.size (.mk l false [] cs) (.slice A0 n0 c0) (.slice A cs.length c):=by rw [<- hW]; exact (jdm.new w (.mk l false [] cs) _ _ _).ext ((Ext.refl _).alloc _) (by simp)
 have hz:zdl W (w.heap.size+1):=by
  have:=zdl.new (w.alloc (.cells #[.int .i64 l,.bool false,.slice A0 n0 c0,.slice A cs.length c] 44)) 44;rw [hW] at this;simpa using this
 obtain ⟨V,hmk,hVx,hVs,aaC⟩:=jd9 (cs.length:Int) (by omega) (by omega) W;rw [rV] at hmk aaC;have HWX:=hid hWx;have HVX:=hid hVx;have alp:=aaC (fun b=>w.heap.size+1+1<=b);rw [hWs] at hmk alp;have aeB:=hid alp;have HBX:=hid hbx;have HZ:=hid hz;obtain ⟨b0,b1,b2,b3⟩:=id hbx;obtain ⟨d0,d1,d2,d3⟩:=hbx.ext hVx (by omega);simp only [Pl.lv,Pl.neg] at b0 b1 d0 d1;clear hWx hVx aaC alp hbx hz;go_enter Tryz.func95,Tryz.ntmps95;go_wp2_with fail;clear hW hmk b0 b1 b2 b3 d0 d1 d2 d3
 go_loopw [20] (fun iv wr=>∃ k:Nat,k<=cs.length/\iv=.int .i64 k/\Hid ((∃ L:List Pl,L.length=cs.length/\L.take k=cs.take k/\yd9 wr (fun b=>w.heap.size+1+1<=b) (w.heap.size+1+1) L)/\Ext W wr)) (fun iv _=>cs.length - (intOf iv).toNat)
 case atStart=>exact ⟨0,pM _,rfl,⟨⟨_,rp,by simp,aeB.out⟩,HVX.out⟩⟩
 case round =>
  obtain ⟨k,hk,rfl,⟨⟨L,hLl,hLt,aaC⟩,hx⟩⟩:=hrel;have HX:=hid hx;have acn:=hid aaC;have HLT:=hid hLt;obtain ⟨b0,b1,b2,b3⟩:=HBX.out.ext hx (by omega);simp only [Pl.lv,Pl.neg] at b0 b1;have amZ:w.heap.size+1+1 < wr.heap.size:=aaC.1;clear hx aaC hLt HVX aeB
  by_cases hlt:k < cs.length
  · obtain ⟨ad,B0,m0,e0,B1,m1,e1,rfl,abW,hnd,hkt⟩:=jdk.kid H4.out k hlt;have hxx:Ext w0 wr:=(HX0.out.trans HWX.out).trans HX.out;obtain ⟨a0,a1,a2,a3⟩:=hnd.ext hxx (by rw [zc1]; exact abW);obtain ⟨akC,alk,aoB,aqQ⟩:=HSZ.out k hlt;have HC:=hid (fun W' (hxW:Ext wr W')=>IH.out cs[k] _ W' akC alk aoB aqQ hkt (hxx.trans hxW));have ahg:Hid ((L.set k cs[k]).take (k+1)=cs.take (k+1)):=kd1 L cs k HLT.out (by omega) hlt;generalize cs[k]=ck at *;clear hnd hkt abW akC alk aoB aqQ hxx HLT;go_wp2_with fail;refine (HC.out _ ((Ext.refl _).alloc _)).mono ?_;rintro e w2 ⟨v2,rfl,p2,x2⟩;have x2':Ext wr w2:=((Ext.refl wr).alloc _).trans x2;obtain ⟨C0,j0,f0,C1,f1,rfl,-⟩:=id p2.open_;have hr2:=acn.out.ext x2';obtain ⟨D0,n2,g0,D1,n3,g1,⟨r0,r1,r2,r3⟩,-⟩:=hr2.2.2 k (by omega);have hfr:=hr2.2.1;have hst:=(hr2.qG k (by omega) ck (p2.mono fun b hb=>by
     have hb':wr.heap.size+1<=b:=by simpa using hb
     exact ⟨by omega,by omega⟩)).1
    simp only at r0 r1 r2 r3;have HST:=hid hst;have X2:=hid (HX.out.trans x2');unfold plV;clear hr2 hst p2 x2 x2' HC acn a0 a1 a2 a3 b0 b1 b2 b3;go_wp2_with fail
    go_roundw
    case rel=>exact ⟨k+1,by omega,by go_num,⟨_,by rw [pN]; exact hLl,ahg.out,HST.out⟩,(((X2.out.setCell (by show W.heap.size<=w.heap.size+1+1; omega) _).setCell (by show W.heap.size<=w.heap.size+1+1; omega) _).setCell (by show W.heap.size<=w.heap.size+1+1; omega) _).setCell (by show W.heap.size<=w.heap.size+1+1; omega) _⟩
    case measure=>simp [intOf]; omega
  · have hke:k=cs.length:=by omega
    have hLe:L=cs:=by
     have h:=HLT.out;rw [hke,pw,<- hLl,pw] at h;exact h
    obtain ⟨⟨z0,z1,z2,z3⟩,zf⟩:=HZ.out.ext HX.out (by omega);have acb:=acn.out.fin (pf _);rw [hLe] at acb;have HF:=hid (zdm (p:=.mk l false [] cs) (q':=fun b=>w.heap.size<=b) (HWX.out.trans HX.out) (rY _) (HZ.out.ext HX.out (by omega)) (PlV.mk (t:=.mk l false [] cs) (c:=cs.length) (zb1.nil _) (pf _) (by omega) acb) (fun b _ hb=>⟨by omega,by omega⟩));clear acb acn HLT hLe HZ;go_wp2_with fail;exact bodyPost_ret (v:=plV (.mk l false [] cs) (.slice none 0 0) (.slice (some ⟨w.heap.size+1+1,0,none⟩) cs.length cs.length)) (by simp [results,Tryz.results95,go_sem,z0,z1,z2,z3,plV,Pl.lv,Pl.neg]) rfl HF.out
theorem ud8 {w:World} {q:Nat->Prop} (p:Pl) (v:Value) (af7:p.Can) (hsz:p.sz<=1099511627776) (hdm:p.dm<=35184372088832) (h:PlV w q p v):Calls Tryz.prog 95 #[v] w (gdl (fun b=>w.heap.size<=b) p w):=
 vgh w q (p.sz+1) p v w (pO _) af7 hsz hdm h (Ext.refl w)
open Go.Sort
theorem vdm.qG {T k base:Nat} {W:World} {g c n:Nat} {xs:List Value} (h:vdm T k base W (.slice (some ⟨g,0,none⟩) n c) n xs) (j:Nat) (hj:j < n * k) (u:Value) (hu:wdo u=false) :
 vdm T k base (W.setCell ⟨g,j,none⟩ u) (.slice (some ⟨g,0,none⟩) n c) n (xs.set j u):=by
 obtain ⟨⟨h1,h2⟩,h3⟩:=h;rcases h2 with ⟨h2,-⟩ | ⟨g',cap,cur,e,hb,hg,hc,hm,hs,ht⟩
 · cases h2
 injection e with e1 e2 e3
 injection e1 with e1
 injection e1 with e1
 subst e1 e3;have anV:(W.setCell ⟨g,j,none⟩ u).heap[g]?=some (.cells (cur.setIfInBounds j u) T (0,0)):=by
  simp [World.setCell,sN,hg]
 refine ⟨⟨by rw [pN]; exact h1,.inr ⟨g,c,cur.setIfInBounds j u,rfl,hb,anV,hc,hm,by simpa using hs,?_⟩⟩,?_⟩
 · rw [Array.toList_setIfInBounds,List.take_set,ht]
 · intro R cur' T' fr e hb' u' hu';have hR:g=R:=by simpa [Value.ownBlock] using e
   rw [<- hR,anV] at hb';injection hb' with hb'
   injection hb' with hb'
   rw [<- hb',Array.toList_setIfInBounds] at hu';rcases List.mem_or_eq_of_mem_set hu' with hu' | rfl
   · exact h3 g cur T (0,0) rfl hg u' hu'
   · exact hu
end Go.Proofs.YtheefiaoimbeiaaGreatDoor
