/- Products of polynomials of one level, plain: as recpoly.mul goes. No program in sight. -/
import Derived.Test.YtaedbimbbeploaaGreatDoorMb14
import Derived.Test.YtaedbimbbeploaaGreatDoorMb16
import Derived.Test.YtaedbimbbeploaaGreatDoorMb9
set_option linter.unusedSimpArgs false
set_option linter.unusedVariables false
namespace Go.Proofs.YtaedbimbbeploaaGreatDoor
def Pl.at_ (cs:List Pl) (i:Nat):Pl:=cs.getD i Pl.zero
def jl (ps qs:List Pl) (l:List (Nat × Nat)) (k:Nat):List Pl:=(l.filter fun x=>decide (x.1+x.2=k)).map fun x=>(Pl.at_ ps x.1).mul (Pl.at_ qs x.2)
theorem zat (ps qs:List Pl) (l r:List (Nat × Nat)) (k:Nat):jl ps qs (l ++ r) k=jl ps qs l k ++ jl ps qs r k:=by
 unfold jl;rw [List.filter_append,List.map_append]
theorem ka0 (ps qs:List Pl) (i j k:Nat):jl ps qs [(i,j)] k=if i+j=k then [(Pl.at_ ps i).mul (Pl.at_ qs j)] else []:=by
 unfold jl
 by_cases h:i+j=k
 · simp [h]
 · simp [h]
def xan (x : Rat) (f : Nat -> Nat -> Rat) : List (Nat × Nat) -> Rat
 | []=>0
 | (i,j) :: r=>x ^ (i+j) * f i j+xan x f r
theorem xcu (x:Rat) (c:Rat):∀ (t n:Nat),t < n->hsm x (fun k=>if t=k then c else 0) n=x ^ t * c:=by
 intro t
 induction t with
 | zero =>
   intro n hn;obtain ⟨m,rfl⟩:∃ m,n=m+1:=⟨n - 1,by omega⟩;have e:(fun k:Nat=>if 0=k+1 then c else 0)=fun _=>0:=by funext k; rw [if_neg (by omega)]
   rw [hsm,e,jat,if_pos rfl];simp
   grind
 | succ t ih =>
   intro n hn;obtain ⟨m,rfl⟩:∃ m,n=m+1:=⟨n - 1,by omega⟩;have e:(fun k:Nat=>if t+1=k+1 then c else 0)=fun k=>if t=k then c else 0:=by
    funext k
    by_cases h:t=k
    · rw [if_pos (by omega),if_pos h]
    · rw [if_neg (by omega),if_neg h]
   rw [hsm,e,ih m (by omega),if_neg (by omega),Rat.pow_succ]
   grind
theorem qcb (x:Rat) (ρ:Int->Rat) (ps qs:List Pl) (N:Nat) (l:List (Nat × Nat)) (h:∀ y ∈ l,y.1+y.2 < N) :
 hsm x (fun k=>yz ρ (jl ps qs l k)) N=xan x (fun i j=>(Pl.at_ ps i).val ρ * (Pl.at_ qs j).val ρ) l:=by
 induction l with
 | nil =>
   rw [xan,<- jat x N]
   congr 1
 | cons y l ih =>
   obtain ⟨i,j⟩:=y;have e:(fun k=>yz ρ (jl ps qs ((i,j) :: l) k))=fun k=>(if i+j=k then (Pl.at_ ps i).val ρ * (Pl.at_ qs j).val ρ else 0)+yz ρ (jl ps qs l k):=by
    funext k
    rw [show ((i,j) :: l)=[(i,j)] ++ l from rfl,zat,ga3,ka0]
    congr 1
    by_cases hk:i+j=k
    · rw [if_pos hk,if_pos hk,yz,yz,Pl.mul_val]; grind
    · rw [if_neg hk,if_neg hk,yz]
   rw [e,ubx,ih fun z hz=>h z (by simp [hz]),xcu x _ (i+j) N (h (i,j) (by simp)),xan]
theorem vbt (x:Rat) (f:Nat->Nat->Rat) (a b:List (Nat × Nat)):xan x f (a ++ b)=xan x f a+xan x f b:=by
 induction a with
 | nil=>simp [xan]; grind
 | cons y a ih=>obtain ⟨i,j⟩:=y; simp only [List.cons_append,xan,ih]; grind
def zah (x : Rat) (f : Nat -> Rat) : List Nat -> Rat
 | []=>0
 | i :: r=>x ^ i * f i+zah x f r
theorem vbu (x:Rat) (f:Nat->Rat) (a b:List Nat):zah x f (a ++ b)=zah x f a+zah x f b:=by
 induction a with
 | nil=>simp [zah]; grind
 | cons y a ih=>simp only [List.cons_append,zah,ih]; grind
def gq (a b:List Nat):List (Nat × Nat):=a.flatMap fun i=>b.map fun j=>(i,j)
theorem xb1 (x:Rat) (f g:Nat->Rat) (a b:List Nat):xan x (fun i j=>f i * g j) (gq a b)=zah x f a * zah x g b:=by
 unfold gq
 induction a with
 | nil=>simp [xan,zah]
 | cons i a ih =>
   rw [List.flatMap_cons,vbt,ih,zah];have:xan x (fun i j=>f i * g j) (b.map fun j=>(i,j))=x ^ i * f i * zah x g b:=by
    clear ih
    induction b with
    | nil=>simp [xan,zah]
    | cons j b ihb=>rw [List.map_cons,xan,ihb,zah,gas]; grind
   rw [this]
   grind
theorem zbo (ρ:Int->Rat) (l:Int) (cs:List Pl) (hc:∀ c ∈ cs,c.Can):zah (ρ l) (fun i=>(Pl.at_ cs i).val ρ) (prs cs cs.length)=qh ρ l cs:=by
 have key:∀ k,k<=cs.length->zah (ρ l) (fun i=>(Pl.at_ cs i).val ρ) (prs cs k)=qh ρ l (cs.take k):=by
  intro k
  induction k with
  | zero=>intro _; simp [prs,zah,qh]
  | succ k ih =>
    intro hk;have hk':k < cs.length:=by omega
    rw [qa7 cs k hk',vbu,ih (by omega),List.take_succ_eq_append_getElem hk'];have hval:∀ (a:List Pl) (c:Pl),qh ρ l (a ++ [c])=qh ρ l a+ρ l ^ a.length * c.val ρ:=by
     intro a c
     induction a with
     | nil=>simp [qh]; grind
     | cons y a iha=>rw [List.cons_append,qh,qh,iha,List.length_cons,Rat.pow_succ]; grind
    rw [hval,List.length_take,Nat.min_eq_left (by omega)];have hat:Pl.at_ cs k=cs[k]:=by unfold Pl.at_; rw [List.getD_eq_getElem?_getD,List.getElem?_eq_getElem hk']; rfl
    by_cases hz:cs[k].isZ=true
    · rw [if_pos hz,(Pl.zero_isZ (hc _ (List.getElem_mem hk'))).1 hz,Pl.zero_val,zah]; grind
    · rw [if_neg hz,zah,zah,hat]; grind
 have:=key cs.length (Nat.le_refl _);rw [List.take_length] at this;exact this
theorem Pl.mul_level {p q:Pl} (hp:p.Can) (hq:q.Can) (h0:0 < p.lv) (he:p.lv=q.lv) :
 p.mul q=gaf p.lv ((List.range (p.cs.length+q.cs.length - 1)).map fun k=>zaa (jl p.cs q.cs (gq (prs p.cs p.cs.length) (prs q.cs q.cs.length)) k)):=by
 obtain ⟨l,n,d,ps⟩:=p;obtain ⟨l',n',d',qs⟩:=q
 change l=l' at he
 subst he;simp only [Pl.cs,Pl.lv] at *;have h4:l<=4:=hp.lv_nonneg.2;have hpk:=(hp.kids h0).2.2.2.1;have hqk:=(hq.kids h0).2.2.2.1;have hp2:=(hp.kids h0).2.2.1;have hq2:=(hq.kids h0).2.2.1;have hat:∀ (cs:List Pl),zt l cs->∀ i,(Pl.at_ cs i).Can/\(Pl.at_ cs i).lv<=l - 1:=fun cs hk i=>by
  unfold Pl.at_;rw [List.getD_eq_getElem?_getD];cases hi:cs[i]? with
  | none=>exact ⟨Pl.zero_can,by show (0:Int)<=l - 1; omega⟩
  | some c=>have:=hk.mem c (List.mem_of_getElem? hi); exact ⟨this.2,by simp only [Option.getD_some]; omega⟩
 have hk:zt l ((List.range (ps.length+qs.length - 1)).map fun k=>zaa (jl ps qs (gq (prs ps ps.length) (prs qs qs.length)) k)):=wag fun c hc=>by
  obtain ⟨k,-,rfl⟩:=List.mem_map.1 hc;have h1:=jby (l:=jl ps qs (gq (prs ps ps.length) (prs qs qs.length)) k) (n:=l - 1) (fun r hr=>by
   unfold jl at hr;obtain ⟨x,-,rfl⟩:=List.mem_map.1 hr
   exact ⟨Pl.mul_can _ _,Pl.mul_lv (hat ps hpk x.1).1 (hat qs hqk x.2).1 (hat ps hpk x.1).2 (hat qs hqk x.2).2 (by omega)⟩) (by omega) (by omega)
  exact ⟨by omega,gat _⟩
 obtain ⟨g1,-,g3⟩:=qbe h0 h4 hk;refine Pl.val_uniq (Pl.mul_can _ _) g1 fun ρ=>?_
 rw [g3,vbf];simp only [uat];rw [qcb,xb1,zbo ρ l ps fun c hc=>(hpk.mem c hc).2,zbo ρ l qs fun c hc=>(hqk.mem c hc).2,Pl.mul_val,Pl.mk_val ρ _ _ _ h0 h4,Pl.mk_val ρ _ _ _ h0 h4];intro y hy;unfold gq at hy;obtain ⟨i,hi,hy⟩:=List.mem_flatMap.1 hy;obtain ⟨j,hj,rfl⟩:=List.mem_map.1 hy;have h1:i < ps.length:=by unfold prs at hi; have:=(List.mem_filter.1 hi).1; simpa using this
 have h2:j < qs.length:=by unfold prs at hj; have:=(List.mem_filter.1 hj).1; simpa using this
 simp only;omega
theorem Pl.mul_nr {p q:Pl} (hp:p.Can) (hq:q.Can):(p.mul q).nr<=p.nr * q.nr:=by
 have h1:=Pl.ofS_nr (gam (p.terms Mo.one) (q.terms Mo.one));rw [wbl,Pl.terms_nr p _ hp,Pl.terms_nr q _ hq] at h1;exact h1
def snr (cs : List Pl) : List Nat -> Nat
 | []=>0
 | i :: r=>(Pl.at_ cs i).nr+snr cs r
theorem gbz (cs:List Pl) (a b:List Nat):snr cs (a ++ b)=snr cs a+snr cs b:=by
 induction a with
 | nil=>simp [snr]
 | cons y a ih=>simp only [List.cons_append,snr,ih]; omega
theorem kbw (cs:List Pl) (k:Nat) (hk:k<=cs.length):snr cs (prs cs k)<=xab (cs.take k):=by
 induction k with
 | zero=>simp [prs,snr]
 | succ k ih =>
   have hk':k < cs.length:=by omega
   have hat:Pl.at_ cs k=cs[k]:=by unfold Pl.at_; rw [List.getD_eq_getElem?_getD,List.getElem?_eq_getElem hk']; rfl
   rw [qa7 cs k hk',gbz,List.take_succ_eq_append_getElem hk',ga4];have:=ih (by omega)
   split
   · simp only [snr,xab]; omega
   · simp only [snr,xab,hat]; omega
theorem jcg {ps qs:List Pl} (hp:∀ i,(Pl.at_ ps i).Can) (hq:∀ i,(Pl.at_ qs i).Can) (k:Nat) (a b:List Nat):lnr (jl ps qs (gq a b) k)<=snr ps a * snr qs b:=by
 have h1:∀ l:List (Nat × Nat),lnr (jl ps qs l k)<=(l.map fun x=>(Pl.at_ ps x.1).nr * (Pl.at_ qs x.2).nr).sum:=by
  intro l
  induction l with
  | nil=>simp [jl,lnr]
  | cons x l ih =>
    rw [show x :: l=[x] ++ l from rfl,zat,yba,List.map_append,List.sum_append];obtain ⟨i,j⟩:=x;rw [ka0];have:=Pl.mul_nr (hp i) (hq j)
    split
    · simp only [lnr,List.map_cons,List.map_nil,List.sum_cons,List.sum_nil]; omega
    · simp only [lnr]; omega
 refine Nat.le_trans (h1 _) ?_;unfold gq
 induction a with
 | nil=>simp [snr]
 | cons i a ih =>
   rw [List.flatMap_cons,List.map_append,List.sum_append,snr,Nat.add_mul];have:((b.map fun j=>(i,j)).map fun x=>(Pl.at_ ps x.1).nr * (Pl.at_ qs x.2).nr).sum=(Pl.at_ ps i).nr * snr qs b:=by
    clear ih
    induction b with
    | nil=>simp [snr]
    | cons j b ihb=>simp only [List.map_cons,List.sum_cons,snr] at ihb ⊢; rw [ihb,Nat.mul_add]
   omega
theorem kbf (ps qs:List Pl) (l:List (Nat × Nat)) (k:Nat):(jl ps qs l k).length<=l.length:=by
 unfold jl;rw [List.length_map];exact List.length_filter_le _ _
theorem ka9 (a b:List Nat):(gq a b).length=a.length * b.length:=by
 unfold gq
 induction a with
 | nil=>simp
 | cons i a ih=>rw [List.flatMap_cons,List.length_append,ih,List.length_map,List.length_cons,Nat.add_mul]; omega
theorem qb8 {cs:List Pl} {n i:Nat} (h:i ∈ prs cs n):i < n:=by
 unfold prs at h;have:=(List.mem_filter.1 h).1;simpa using this
theorem kb1 (ps qs:List Pl) (l:List (Nat × Nat)) (i j k:Nat):jl ps qs (l ++ [(i,j)]) k=if i+j=k then jl ps qs l k ++ [(Pl.at_ ps i).mul (Pl.at_ qs j)] else jl ps qs l k:=by
 rw [zat,ka0]
 split
 · rfl
 · rw [List.append_nil]
/- Powers of canonical polynomials, plain. No program in sight. -/
def Pl.pow (p : Pl) : Nat -> Pl
 | 0=>Pl.const 1
 | n+1=>(p.pow n).mul p
theorem Pl.pow_can (p : Pl) : ∀ n, (p.pow n).Can
 | 0=>kad 1
 | _+1=>Pl.mul_can _ _
theorem Pl.pow_val (ρ:Int->Rat) (p:Pl) (n:Nat):(p.pow n).val ρ=p.val ρ ^ n:=by
 induction n with
 | zero=>rw [Pl.pow,Pl.const_val]; simp
 | succ n ih=>rw [Pl.pow,Pl.mul_val,ih,Rat.pow_succ]
theorem Pl.pow_twice (p:Pl) (n:Nat):(p.pow n).mul (p.pow n)=p.pow (2 * n):=Pl.val_uniq (Pl.mul_can _ _) (Pl.pow_can _ _) fun ρ=>by
 rw [Pl.mul_val,Pl.pow_val,Pl.pow_val,Nat.two_mul,gas]
theorem Fit.pow {p:Pl} {E D:Nat} (h:Fit p E D) (n:Nat):Fit (p.pow n) (n * E) (n * D+1):=by
 induction n with
 | zero=>exact Fit.const (by rw [Nat.zero_mul]; decide)
 | succ n ih=>exact (ih.mul h).mono (by rw [Nat.succ_mul]; omega) (by rw [Nat.succ_mul]; omega)
theorem Fit.pow_le {p:Pl} {E D n m:Nat} (h:Fit p E D) (hn:n<=m):Fit (p.pow n) (m * E) (m * D+1):=
 (h.pow n).mono (Nat.mul_le_mul_right _ hn) (Nat.add_le_add_right (Nat.mul_le_mul_right _ hn) 1)
theorem zco (n k:Nat):n / 2 ^ k=2 * (n / 2 ^ (k+1))+n / 2 ^ k % 2:=by
 have:n / 2 ^ (k+1)=n / 2 ^ k / 2:=by rw [Nat.pow_succ,Nat.div_div_eq_div_mul]
 omega
theorem jcv (n k:Nat):n &&& 2 ^ k=2 ^ k * (n / 2 ^ k % 2):=by
 apply Nat.eq_of_testBit_eq;intro i;have h1:n.testBit k=decide (n / 2 ^ k % 2=1):=Nat.testBit_eq_decide_div_mod_eq;rw [Nat.testBit_and,Nat.testBit_two_pow]
 by_cases hi:k=i
 · subst hi;rw [h1];rcases Nat.mod_two_eq_zero_or_one (n / 2 ^ k) with h | h <;> rw [h] <;> simp [Nat.testBit_two_pow]
 · rcases Nat.mod_two_eq_zero_or_one (n / 2 ^ k) with h | h <;> rw [h] <;> simp [Nat.testBit_two_pow,hi]
/- The negative of a canonical polynomial, plain. No program in sight. -/
def Pl.opp (p:Pl):Pl:=p.mul (Pl.const (-1))
theorem Pl.opp_can (p:Pl):p.opp.Can:=Pl.mul_can _ _
theorem Pl.opp_val (ρ:Int->Rat) (p:Pl):p.opp.val ρ=- p.val ρ:=by unfold Pl.opp; rw [Pl.mul_val,Pl.const_val]; push_cast; grind
theorem Fit.opp {p:Pl} {E D:Nat} (h:Fit p E D):Fit p.opp E (D+1):=h.mul (F:=0) (G:=1) (Fit.const (by decide))
/- The plain law of products at equal levels: what is known of the parts that are added. No program in sight. -/
open Go.RowKit
theorem ybb {p:Pl} {E D:Nat} (hp:Fit p E D) (h0:0 < p.lv) (i:Nat):Fit (Pl.at_ p.cs i) E D:=by
 unfold Pl.at_;rw [List.getD_eq_getElem?_getD];rcases Nat.lt_or_ge i p.cs.length with h | h
 · rw [List.getElem?_eq_getElem h];obtain ⟨l,n,d,cs⟩:=p;exact hp.kid h0 (List.getElem_mem h)
 · rw [List.getElem?_eq_none h];exact Fit.zero
theorem jb1 {p q:Pl} {E D F G:Nat} (hp:Fit p E D) (hq:Fit q F G) (h0:0 < p.lv) (h0':0 < q.lv) (hlp:p.cs.length<=901) (hlq:q.cs.length<=901) (k:Nat) :
 (∀ r ∈ jl p.cs q.cs (gq (prs p.cs p.cs.length) (prs q.cs q.cs.length)) k,r.Can/\r.ex (E+F))/\lnr (jl p.cs q.cs (gq (prs p.cs p.cs.length) (prs q.cs q.cs.length)) k) < B32 ^ (D+G)/\(jl p.cs q.cs (gq (prs p.cs p.cs.length) (prs q.cs q.cs.length)) k).length<=1000000:=by
 refine ⟨fun r hr=>?_,?_,?_⟩
 · unfold jl at hr;obtain ⟨x,-,rfl⟩:=List.mem_map.1 hr;have h:=(ybb hp h0 x.1).mul (ybb hq h0' x.2);exact ⟨h.can,h.ex⟩
 · have h1:=jcg (fun i=>(ybb hp h0 i).can) (fun i=>(ybb hq h0' i).can) k (prs p.cs p.cs.length) (prs q.cs q.cs.length);have h2:=kbw p.cs p.cs.length (Nat.le_refl _);have h3:=kbw q.cs q.cs.length (Nat.le_refl _);rw [List.take_length] at h2 h3;have h4:xab p.cs < B32 ^ D:=by
    have:=hp.nr;obtain ⟨l,n,d,cs⟩:=p;rw [Pl.nr,if_neg (by simp only [Pl.lv] at h0; omega)] at this;exact this
   have h5:xab q.cs < B32 ^ G:=by
    have:=hq.nr;obtain ⟨l,n,d,cs⟩:=q;rw [Pl.nr,if_neg (by simp only [Pl.lv] at h0'; omega)] at this;exact this
   rw [Nat.pow_add];refine Nat.lt_of_le_of_lt h1 (Nat.lt_of_le_of_lt (Nat.mul_le_mul h2 h3) ?_);exact Nat.mul_lt_mul'' h4 h5
 · refine Nat.le_trans (kbf _ _ _ _) ?_;rw [ka9];have h1:=xaw p.cs p.cs.length;have h2:=xaw q.cs q.cs.length;exact Nat.le_trans (Nat.mul_le_mul (Nat.le_trans h1 hlp) (Nat.le_trans h2 hlq)) (by decide)
end Go.Proofs.YtaedbimbbeploaaGreatDoor
