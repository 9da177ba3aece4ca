/- Products of polynomials of one level, plain: as recpoly.mul goes. No program in sight. -/
import Derived.Test.YtcepajijiabkmaaGreatMp16
set_option linter.unusedSimpArgs false
set_option linter.unusedVariables false

namespace Go.Proofs.YtcepajijiabkmaaGreat
def Pl.at_ (cs:List Pl) (i:Nat):Pl:=cs.getD i Pl.zero
def zo (ps qs:List Pl) (l:List (Nat × Nat)) (k:Nat):List Pl:=(l.filter fun x=>decide (x.1+x.2=k)).map fun x=>(Pl.at_ ps x.1).mul (Pl.at_ qs x.2)
theorem wau (ps qs:List Pl) (l r:List (Nat × Nat)) (k:Nat):zo ps qs (l ++ r) k=zo ps qs l k ++ zo ps qs r k:=by
 unfold zo;rw [uE,ux]
theorem va6 (ps qs:List Pl) (i j k:Nat):zo ps qs [(i,j)] k=if i+j=k then [(Pl.at_ ps i).mul (Pl.at_ qs j)] else []:=by
 unfold zo
 by_cases h:i+j=k
 · simp [h]
 · simp [h]
def kan (x : Rat) (f : Nat -> Nat -> Rat) : List (Nat × Nat) -> Rat
 | []=>0
 | (i,j) :: r=>x ^ (i+j) * f i j+kan x f r
theorem vc7 (x:Rat) (c:Rat):∀ (t n:Nat),t < n->hsm x (fun k=>if t=k then c else 0) n=x ^ t * c:=by
 intro t
 induction t with
 | zero =>
   intro n hn;obtain ⟨m,rfl⟩:∃ m,n=m+1:=⟨n - 1,by omega⟩;have e:(fun k:Nat=>if 0=k+1 then c else 0)=fun _=>0:=by funext k; rw [if_neg (by omega)]
   rw [hsm,e,kav,if_pos rfl];simp
   grind
 | succ t ih =>
   intro n hn;obtain ⟨m,rfl⟩:∃ m,n=m+1:=⟨n - 1,by omega⟩;have e:(fun k:Nat=>if t+1=k+1 then c else 0)=fun k=>if t=k then c else 0:=by
    funext k
    by_cases h:t=k
    · rw [if_pos (by omega),if_pos h]
    · rw [if_neg (by omega),if_neg h]
   rw [hsm,e,ih m (by omega),if_neg (by omega),Pr]
   grind
theorem qco (x:Rat) (ρ:Int->Rat) (ps qs:List Pl) (N:Nat) (l:List (Nat × Nat)) (h:∀ y ∈ l,y.1+y.2 < N) :
 hsm x (fun k=>zy ρ (zo ps qs l k)) N=kan x (fun i j=>(Pl.at_ ps i).val ρ * (Pl.at_ qs j).val ρ) l:=by
 induction l with
 | nil =>
   rw [kan,<- kav x N]
   congr 1
 | cons y l ih =>
   obtain ⟨i,j⟩:=y;have e:(fun k=>zy ρ (zo ps qs ((i,j) :: l) k))=fun k=>(if i+j=k then (Pl.at_ ps i).val ρ * (Pl.at_ qs j).val ρ else 0)+zy ρ (zo ps qs l k):=by
    funext k
    rw [show ((i,j) :: l)=[(i,j)] ++ l from rfl,wau,ga9,va6]
    congr 1
    by_cases hk:i+j=k
    · rw [if_pos hk,if_pos hk,zy,zy,Pl.qD]; grind
    · rw [if_neg hk,if_neg hk,zy]
   rw [e,uca,ih fun z hz=>h z (by simp [hz]),vc7 x _ (i+j) N (h (i,j) (by simp)),kan]
theorem zb5 (x:Rat) (f:Nat->Nat->Rat) (a b:List (Nat × Nat)):kan x f (a ++ b)=kan x f a+kan x f b:=by
 induction a with
 | nil=>simp [kan]; grind
 | cons y a ih=>obtain ⟨i,j⟩:=y; simp only [rI,kan,ih]; grind
def vag (x : Rat) (f : Nat -> Rat) : List Nat -> Rat
 | []=>0
 | i :: r=>x ^ i * f i+vag x f r
theorem wb5 (x:Rat) (f:Nat->Rat) (a b:List Nat):vag x f (a ++ b)=vag x f a+vag x f b:=by
 induction a with
 | nil=>simp [vag]; grind
 | cons y a ih=>simp only [rI,vag,ih]; grind
def zq (a b:List Nat):List (Nat × Nat):=a.flatMap fun i=>b.map fun j=>(i,j)
theorem zce (x:Rat) (f g:Nat->Rat) (a b:List Nat):kan x (fun i j=>f i * g j) (zq a b)=vag x f a * vag x g b:=by
 unfold zq
 induction a with
 | nil=>simp [kan,vag]
 | cons i a ih =>
   rw [th,zb5,ih,vag];have:kan x (fun i j=>f i * g j) (b.map fun j=>(i,j))=x ^ i * f i * vag x g b:=by
    clear ih
    induction b with
    | nil=>simp [kan,vag]
    | cons j b ihb=>rw [sr,kan,ihb,vag,gau]; grind
   rw [this]
   grind
theorem ubw (ρ:Int->Rat) (l:Int) (cs:List Pl) (hc:∀ c ∈ cs,c.Can):vag (ρ l) (fun i=>(Pl.at_ cs i).val ρ) (prs cs cs.length)=ve ρ l cs:=by
 have key:∀ k,k<=cs.length->vag (ρ l) (fun i=>(Pl.at_ cs i).val ρ) (prs cs k)=ve ρ l (cs.take k):=by
  intro k
  induction k with
  | zero=>intro _; simp [prs,vag,ve]
  | succ k ih =>
    intro hk;have lW:k < cs.length:=by omega
    rw [zbe cs k lW,wb5,ih (by omega),pC lW];have aJ:∀ (a:List Pl) (c:Pl),ve ρ l (a ++ [c])=ve ρ l a+ρ l ^ a.length * c.val ρ:=by
     intro a c
     induction a with
     | nil=>simp [ve]; grind
     | cons y a iha=>rw [rI,ve,ve,iha,pL,Pr]; grind
    rw [aJ,pA,sh (by omega)];have aK:Pl.at_ cs k=cs[k]:=by unfold Pl.at_; rw [pr,po lW]; rfl
    by_cases hz:cs[k].zp=true
    · rw [if_pos hz,(Pl.xj (hc _ (pt lW))).1 hz,Pl.qu,vag]; grind
    · rw [if_neg hz,vag,vag,aK]; grind
 have:=key cs.length (pj _);rw [pP] at this;exact this
theorem Pl.K9 {p q:Pl} (hp:p.Can) (hq:q.Can) (h0:0 < p.lv) (he:p.lv=q.lv) :
 p.mul q=vaa p.lv ((List.range (p.cs.length+q.cs.length - 1)).map fun k=>uy (zo p.cs q.cs (zq (prs p.cs p.cs.length) (prs q.cs q.cs.length)) k)):=by
 obtain ⟨l,n,d,ps⟩:=p;obtain ⟨l',n',d',qs⟩:=q
 change l=l' at he
 subst he;simp only [Pl.cs,Pl.lv] at *;have h4:l<=4:=hp.qq.2;have fP:=(hp.kids h0).2.2.2.1;have ZW:=(hq.kids h0).2.2.2.1;have wR:=(hp.kids h0).2.2.1;have qM:=(hq.kids h0).2.2.1;have aK:∀ (cs:List Pl),qp l cs->∀ i,(Pl.at_ cs i).Can/\(Pl.at_ cs i).lv<=l - 1:=fun cs hk i=>by
  unfold Pl.at_;rw [pr];cases hi:cs[i]? with
  | none=>exact ⟨Pl.qS,by show (0:Int)<=l - 1; omega⟩
  | some c=>have:=hk.mem c (td hi); exact ⟨this.2,by simp only [Pf]; omega⟩
 have hk:qp l ((List.range (ps.length+qs.length - 1)).map fun k=>uy (zo ps qs (zq (prs ps ps.length) (prs qs qs.length)) k)):=zaf fun c hc=>by
  obtain ⟨k,-,rfl⟩:=pZ.1 hc;have h1:=jcb (l:=zo ps qs (zq (prs ps ps.length) (prs qs qs.length)) k) (n:=l - 1) (fun r hr=>by
   unfold zo at hr;obtain ⟨x,-,rfl⟩:=pZ.1 hr
   exact ⟨Pl.q8 _ _,Pl.vR (aK ps fP x.1).1 (aK qs ZW x.2).1 (aK ps fP x.1).2 (aK qs ZW x.2).2 (by omega)⟩) (by omega) (by omega)
  exact ⟨by omega,yaw _⟩
 obtain ⟨g1,-,g3⟩:=qa5 h0 h4 hk;refine Pl.qz (Pl.q8 _ _) g1 fun ρ=>?_
 rw [g3,ubo];simp only [zaw];rw [qco,zce,ubw ρ l ps fun c hc=>(fP.mem c hc).2,ubw ρ l qs fun c hc=>(ZW.mem c hc).2,Pl.qD,Pl.mk_val ρ _ _ _ h0 h4,Pl.mk_val ρ _ _ _ h0 h4];intro y hy;unfold zq at hy;obtain ⟨i,hi,hy⟩:=tg.1 hy;obtain ⟨j,hj,rfl⟩:=pZ.1 hy;have h1:i < ps.length:=by unfold prs at hi; have:=(sq.1 hi).1; simpa using this
 have h2:j < qs.length:=by unfold prs at hj; have:=(sq.1 hj).1; simpa using this
 simp only;omega
theorem Pl.qa2 {p q:Pl} (hp:p.Can) (hq:q.Can):(p.mul q).nr<=p.nr * q.nr:=by
 have h1:=Pl.kA (uam (p.qt Mo.one) (q.qt Mo.one));rw [qbu,Pl.j9 p _ hp,Pl.j9 q _ hq] at h1;exact h1
def snr (cs : List Pl) : List Nat -> Nat
 | []=>0
 | i :: r=>(Pl.at_ cs i).nr+snr cs r
theorem ucc (cs:List Pl) (a b:List Nat):snr cs (a ++ b)=snr cs a+snr cs b:=by
 induction a with
 | nil=>simp [snr]
 | cons y a ih=>simp only [rI,snr,ih]; omega
theorem jb8 (cs:List Pl) (k:Nat) (hk:k<=cs.length):snr cs (prs cs k)<=ql (cs.take k):=by
 induction k with
 | zero=>simp [prs,snr]
 | succ k ih =>
   have lW:k < cs.length:=by omega
   have aK:Pl.at_ cs k=cs[k]:=by unfold Pl.at_; rw [pr,po lW]; rfl
   rw [zbe cs k lW,ucc,pC lW,qbb];have:=ih (by omega)
   split
   · simp only [snr,ql]; omega
   · simp only [snr,ql,aK]; omega
theorem vcv {ps qs:List Pl} (hp:∀ i,(Pl.at_ ps i).Can) (hq:∀ i,(Pl.at_ qs i).Can) (k:Nat) (a b:List Nat):lnr (zo ps qs (zq a b) k)<=snr ps a * snr qs b:=by
 have h1:∀ l:List (Nat × Nat),lnr (zo ps qs l k)<=(l.map fun x=>(Pl.at_ ps x.1).nr * (Pl.at_ qs x.2).nr).sum:=by
  intro l
  induction l with
  | nil=>simp [zo,lnr]
  | cons x l ih =>
    rw [show x :: l=[x] ++ l from rfl,wau,qbi,ux,List.sum_append];obtain ⟨i,j⟩:=x;rw [va6];have:=Pl.qa2 (hp i) (hq j)
    split
    · simp only [lnr,sr,SP,List.sum_cons,List.sum_nil]; omega
    · simp only [lnr]; omega
 refine py (h1 _) ?_;unfold zq
 induction a with
 | nil=>simp [snr]
 | cons i a ih =>
   rw [th,ux,List.sum_append,snr,rN];have:((b.map fun j=>(i,j)).map fun x=>(Pl.at_ ps x.1).nr * (Pl.at_ qs x.2).nr).sum=(Pl.at_ ps i).nr * snr qs b:=by
    clear ih
    induction b with
    | nil=>simp [snr]
    | cons j b ihb=>simp only [sr,List.sum_cons,snr] at ihb ⊢; rw [ihb,ri]
   omega
theorem kbo (ps qs:List Pl) (l:List (Nat × Nat)) (k:Nat):(zo ps qs l k).length<=l.length:=by
 unfold zo;rw [px];exact uc _ _
theorem ybi (a b:List Nat):(zq a b).length=a.length * b.length:=by
 unfold zq
 induction a with
 | nil=>simp
 | cons i a ih=>rw [th,ra,ih,px,pL,rN]; omega
theorem wcl {cs:List Pl} {n i:Nat} (h:i ∈ prs cs n):i < n:=by
 unfold prs at h;have:=(sq.1 h).1;simpa using this
theorem jce (ps qs:List Pl) (l:List (Nat × Nat)) (i j k:Nat):zo ps qs (l ++ [(i,j)]) k=if i+j=k then zo ps qs l k ++ [(Pl.at_ ps i).mul (Pl.at_ qs j)] else zo ps qs l k:=by
 rw [wau,va6]
 split
 · rfl
 · rw [si]
def Pl.pow (p : Pl) : Nat -> Pl
 | 0=>Pl.const 1
 | n+1=>(p.pow n).mul p
theorem Pl.vo (p : Pl) : ∀ n, (p.pow n).Can
 | 0=>zt 1
 | _+1=>Pl.q8 _ _
theorem Pl.yW (ρ:Int->Rat) (p:Pl) (n:Nat):(p.pow n).val ρ=p.val ρ ^ n:=by
 induction n with
 | zero=>rw [Pl.pow,Pl.qT]; simp
 | succ n ih=>rw [Pl.pow,Pl.qD,ih,Pr]
theorem Pl.K6 (p:Pl) (n:Nat):(p.pow n).mul (p.pow n)=p.pow (2 * n):=Pl.qz (Pl.q8 _ _) (Pl.vo _ _) fun ρ=>by
 rw [Pl.qD,Pl.yW,Pl.yW,Nat.two_mul,gau]
theorem Fit.pow {p:Pl} {E D:Nat} (h:Fit p E D) (n:Nat):Fit (p.pow n) (n * E) (n * D+1):=by
 induction n with
 | zero=>exact Fit.const (by rw [sY]; decide)
 | succ n ih=>exact (ih.mul h).mono (by rw [PJ]; omega) (by rw [PJ]; omega)
theorem Fit.qaY {p:Pl} {E D n m:Nat} (h:Fit p E D) (hn:n<=m):Fit (p.pow n) (m * E) (m * D+1):=
 (h.pow n).mono (pE _ hn) (Nat.add_le_add_right (pE _ hn) 1)
theorem jc1 (n k:Nat):n / 2 ^ k=2 * (n / 2 ^ (k+1))+n / 2 ^ k % 2:=by
 have:n / 2 ^ (k+1)=n / 2 ^ k / 2:=by rw [se,Nat.div_div_eq_div_mul]
 omega
theorem yc9 (n k:Nat):n &&& 2 ^ k=2 ^ k * (n / 2 ^ k % 2):=by
 apply Nat.eq_of_testBit_eq;intro i;have h1:n.testBit k=decide (n / 2 ^ k % 2=1):=Ss;rw [Nat.testBit_and,Nat.testBit_two_pow]
 by_cases hi:k=i
 · subst hi;rw [h1];rcases Nat.mod_two_eq_zero_or_one (n / 2 ^ k) with h | h <;> rw [h] <;> simp [Nat.testBit_two_pow]
 · rcases Nat.mod_two_eq_zero_or_one (n / 2 ^ k) with h | h <;> rw [h] <;> simp [Nat.testBit_two_pow,hi]
def Pl.z8 (p:Pl):Pl:=p.mul (Pl.const (-1))
theorem Pl.ye (p:Pl):p.z8.Can:=Pl.q8 _ _
theorem Pl.xV (ρ:Int->Rat) (p:Pl):p.z8.val ρ=- p.val ρ:=by unfold Pl.z8; rw [Pl.qD,Pl.qT]; push_cast; grind
theorem Pl.vp {p:Pl} (h:p.Can):p.z8.z8=p:=Pl.qz (Pl.ye _) h fun ρ=>by rw [Pl.xV,Pl.xV]; grind
theorem Fit.z8 {p:Pl} {E D:Nat} (h:Fit p E D):Fit p.z8 E (D+1):=h.mul (F:=0) (G:=1) (Fit.const (by decide))
open Go.RowKit
def gbf (n:Int) (w:World) (e:Ending) (w':World):Prop:=e=.returned (.int .i64 n)/\Ext w w'
inductive Mx where
 | mk (kind rel:Int) (p:Pl) (ks:List Mx)
section
variable {w w':World} {p q:Nat->Prop}
end
section
variable {base:Nat} {W W':World} {v:Value} {l:List Mx}
end
end Go.Proofs.YtcepajijiabkmaaGreat

set_option maxRecDepth 100000
set_option maxHeartbeats 8000000
namespace Go.Proofs.YtcepajijiabkmaaGreat
open Go.RowKit
theorem vbl (m:Mo) (l e:Int) (a b:List Pl):xe m l e (a ++ b)=xe m l e a ++ xe m l (e+a.length) b:=by
 induction a generalizing e with
 | nil=>simp [xe]
 | cons x r ih =>
   simp only [rI,xe,ih,List.append_assoc,pL];rw [show e+1+(r.length:Int)=e+((r.length+1:Nat):Int) by omega]
theorem ybw (m:Mo) (l e:Int) (cs:List Pl) (k:Nat) (hk:k < cs.length):xe m l e (cs.take (k+1))=xe m l e (cs.take k) ++ cs[k].qt (m.put l (e+k)):=by
 rw [pC hk,vbl,pA,sh (by omega)];simp only [xe,si]
theorem zax (l:List Pl) (k:Nat) (hk:k < l.length):vk (l.take k)+l[k].sz+vk (l.drop (k+1))=vk l:=by
 have h2:vk l=vk (l.take k)+vk (l.drop k):=by rw [<- kb5,wj]
 rw [h2,qcm l k hk]; omega
theorem Mo.vn (m:Mo) (l:Int):m.put l (m.get l)=m:=by
 unfold Mo.put Mo.get; split <;> (try split) <;> (try split) <;> rfl
def jai (k:Option Nat) (base:Nat) (tv:Value) (l:Sp) (w:World) (e:Ending) (w':World):Prop:=
 ∃ tv',e=.returned tv'/\TsV k base w' tv' l/\w.grownBy w' tv.ownBlock/\(∀ v ds,jc w v ds->jc w' v ds)/\(tv'.ownBlock=tv.ownBlock\/∀ R,tv'.ownBlock=some R->w.heap.size<=R)
def kbk (w0:World) (q:Nat->Prop) (L n:Nat):Prop:=∀ (p:Pl) (v:Value) (m:Mo) (E:Int) (l:Sp) (tv:Value) (w:World),p.sz < n->p.dm<=L->PlV w0 q p v->Ext w0 w->TsV (some L) w0.heap.size w tv l->m.qe->m.le E->E+p.sz<=4611686018427387904->l.length+p.sz<=1099511627776->Calls Tryz.prog 65 #[tv,v,moV m] w (jai (some L) w0.heap.size tv (l ++ p.qt m) w)
theorem yb1 {w0 w:World} {q:Nat->Prop} {L:Nat} (p:Pl) (v:Value) (m:Mo) (l:Sp) (tv:Value) (gY:p.dm<=L) (h:PlV w0 q p v) (aC:Ext w0 w) (ht:TsV (some L) w0.heap.size w tv l) (hlen:l.length+p.sz<=1099511627776) (hl:p.lv<=0):Calls Tryz.prog 65 #[tv,v,moV m] w (jai (some L) w0.heap.size tv (l ++ p.qt m) w):=by
 have zB:=p.vd;have hsz:=p.kg;obtain ⟨A0,n0,c0,A,c,rfl,au,dP,dC,h4⟩:=h.open_;obtain ⟨lv,ng,ds,cs⟩:=p;simp only [Pl.cs,Pl.ds,Pl.lv,Pl.neg,plV] at *;have qJ:(Pl.mk lv ng ds cs).qt m=[(sgn ng (val ds),m)]:=by rw [Pl.qt,if_pos hl]
 rw [qJ];obtain ⟨W,hW⟩:=n_m ((w.alloc (.cells #[.int .i64 lv,.bool ng,.slice A0 n0 c0,.slice A cs.length c] 33)).alloc (.cells #[.int .i64 m.a,.int .i64 m.b,.int .i64 m.c,.int .i64 m.d] 61));have ai:Ext w W:=by rw [<- hW]; exact ((Ext.refl w).alloc _).alloc _
 have dG:W.heap.size=w.heap.size+1+1:=by rw [<- hW]; simp
 have bV:jb W w.heap.size (.mk lv ng ds cs) (.slice A0 n0 c0) (.slice A cs.length c):=by rw [<- hW]; exact (jb.new w (.mk lv ng ds cs) _ _ _).ext ((Ext.refl _).alloc _) (by simp)
 have iK:vw W (w.heap.size+1) m:=by
  have:=vw.new (w.alloc (.cells #[.int .i64 lv,.bool ng,.slice A0 n0 c0,.slice A cs.length c] 33)) m 61;rw [hW] at this;simpa using this
 obtain ⟨b0,b1,b2,b3⟩:=bV;obtain ⟨d0,d1,d2,d3⟩:=iK;simp only [Pl.lv,Pl.neg] at b0 b1;have Zy:=aC.size;have eF:Cf W (some L) (.agg #[.bool ng,.slice A0 n0 c0]) (sgn ng (val ds)):=⟨ng,_,ds,rfl,au.ext (aC.trans ai),rfl,by omega⟩;obtain ⟨v4,w4,ak,t4,g4,n4,o4⟩:=(ht.ext ai).push (by have:=ai.size; omega) eF m (by omega) 23;have HF:Hid (jai (some L) w0.heap.size tv (l ++ [(sgn ng (val ds),m)]) w (.returned v4) w4):=by
  refine ⟨v4,rfl,t4,⟨g4.os.trans ai.below.os,g4.tape.trans ai.below.tape,g4.output.trans ai.below.output,py ai.size g4.size,fun i hi ax=>(rr g4 i (pw hi ai.size) ax).trans (ai.below.block i hi)⟩,fun v ds hv=>n4 v ds (hv.ext ai),?_⟩;rcases o4 with o4 | o4
  · exact .inl o4
  · right
    intro R hR;rw [o4] at hR;injection hR with hR
    have:=ai.size;omega
 have Ou:decide (lv<=0)=true:=decide_eq_true hl;obtain ⟨At,ct,rfl,-,-⟩:=ht.len;clear t4 g4 n4 o4 ht h au h4 eF;unfold moV;rw [dG] at ak;go_enter Tryz.func65,Tryz.ntmps65
 go_wp2_with (at_builtin
              refine wpList_append_run rfl (.tmp 14) (.tmp 19) _ _ rfl _ _ _ _ rfl rfl ak ?_)
 clear ak;go_ret;exact HF.out
theorem xb1 {w0 w:World} {q:Nat->Prop} {L:Nat} (p:Pl) (v:Value) (m:Mo) (l:Sp) (tv:Value) (h:PlV w0 q p v) (aC:Ext w0 w) (ht:TsV (some L) w0.heap.size w tv l) (hl:4 < p.lv):Calls Tryz.prog 65 #[tv,v,moV m] w (jai (some L) w0.heap.size tv (l ++ p.qt m) w):=by
 obtain ⟨A0,n0,c0,A,c,rfl,au,dP,dC,h4⟩:=h.open_;obtain ⟨lv,ng,ds,cs⟩:=p;simp only [Pl.cs,Pl.ds,Pl.lv,Pl.neg,plV] at *;have qJ:(Pl.mk lv ng ds cs).qt m=[]:=by rw [Pl.qt,if_neg (by omega),if_pos hl]
 rw [qJ,si];have HF:Hid (∀ o o',jai (some L) w0.heap.size tv l w (.returned tv) ((w.alloc o).alloc o')):=fun o o'=>by
  have ai:Ext w ((w.alloc o).alloc o'):=((Ext.refl w).alloc _).alloc _;refine ⟨tv,rfl,ht.ext ai,⟨ai.below.os,ai.below.tape,ai.below.output,ai.size,fun i hi _=>ai.below.block i hi⟩,fun v ds hv=>hv.ext ai,.inl rfl⟩
 have Ou:decide (lv<=0)=false:=decide_eq_false (by omega);have aiT:decide (lv > 4)=true:=decide_eq_true (by omega);obtain ⟨At,ct,rfl,-,-⟩:=ht.len;clear ht h au h4;unfold moV;go_enter Tryz.func65,Tryz.ntmps65;go_wp2_with fail;go_ret;exact HF.out _ _
def xag (w0 w:World) (L:Nat) (p:Pl) (s A:Value) (m:Mo) (tv:Value) (l0:Sp) (k:Nat) (mZ:Value) (wr:World):Prop:=
 TsV (some L) w0.heap.size wr mZ (l0 ++ xe m p.lv (m.get p.lv) (p.cs.take k))/\(∃ e,vw wr (w.heap.size+1) (m.put p.lv e))/\(∀ i,wr.frozen? ⟨w.heap.size+1,i,none⟩=false)/\jb wr w.heap.size p s A/\w.grownBy wr tv.ownBlock/\(∀ v ds,jc w v ds->jc wr v ds)/\(mZ.ownBlock=tv.ownBlock\/∀ R,mZ.ownBlock=some R->w.heap.size+2<=R)/\w.heap.size+2<=wr.heap.size
theorem xag.qaD {w0 w:World} {L:Nat} {p:Pl} {s A:Value} {m:Mo} {tv:Value} {l0 l1:Sp} {k:Nat} {mZ:Value} {wr:World} (h:xag w0 w L p s A m tv l0 k mZ wr) (hx:Ext w0 w) (ht:TsV (some L) w0.heap.size w tv l1):Ext w0 wr:=by
 obtain ⟨-,-,-,-,h5,-⟩:=h;exact Below.grown hx h5 hx.size (fun g e=>(ht.own e).1)
theorem vw.xD {w:World} {g:Nat} {m:Mo} {l e:Int} (h:vw w g (m.put l e)) (hl:l=1\/l=2\/l=3\/l=4) (e':Int):vw (w.setCell ⟨g,(l - 1).toNat,none⟩ (.int .i64 e')) g (m.put l e')/\(∀ v ds,jc w v ds->jc (w.setCell ⟨g,(l - 1).toNat,none⟩ (.int .i64 e')) v ds):=by
 obtain ⟨h0,h1,h2,h3⟩:=h;rcases hl with rfl | rfl | rfl | rfl
 · refine ⟨⟨pN _ _ _ h0,?_,?_,?_⟩,fun v ds hv=>hv.box h0 rfl _⟩ <;> (rw [ph _ _ _ _ (by simp)]; first | exact h1 | exact h2 | exact h3)
 · refine ⟨⟨?_,pN _ _ _ h1,?_,?_⟩,fun v ds hv=>hv.box h1 rfl _⟩ <;> (rw [ph _ _ _ _ (by simp)]; first | exact h0 | exact h2 | exact h3)
 · refine ⟨⟨?_,?_,pN _ _ _ h2,?_⟩,fun v ds hv=>hv.box h2 rfl _⟩ <;> (rw [ph _ _ _ _ (by simp)]; first | exact h0 | exact h1 | exact h3)
 · refine ⟨⟨?_,?_,?_,pN _ _ _ h3⟩,fun v ds hv=>hv.box h3 rfl _⟩ <;> (rw [ph _ _ _ _ (by simp)]; first | exact h0 | exact h1 | exact h2)
theorem xag.step {w0 w:World} {L:Nat} {p:Pl} {s A:Value} {m:Mo} {tv:Value} {l0:Sp} {k:Nat} {mZ:Value} {wr:World} (h:xag w0 w L p s A m tv l0 k mZ wr) (hx:Ext w0 w) (ht:TsV (some L) w0.heap.size w tv l0) (hl:p.lv=1\/p.lv=2\/p.lv=3\/p.lv=4) (hk:k < p.cs.length) (o:Obj) :
 ∀ W1,W1=(wr.alloc o).setCell ⟨w.heap.size+1,(p.lv - 1).toNat,none⟩ (.int .i64 (m.get p.lv+k))->TsV (some L) w0.heap.size W1 mZ (l0 ++ xe m p.lv (m.get p.lv) (p.cs.take k))/\vw W1 (w.heap.size+1) (m.put p.lv (m.get p.lv+k))/\Ext w0 W1/\(∀ i,W1.cell? ⟨wr.heap.size,i,none⟩=(wr.alloc o).cell? ⟨wr.heap.size,i,none⟩) /\
   ∀ e w2,jai (some L) w0.heap.size mZ ((l0 ++ xe m p.lv (m.get p.lv) (p.cs.take k)) ++ p.cs[k].qt (m.put p.lv (m.get p.lv+k))) W1 e w2->∃ EE A2 c2,e=.returned EE/\EE=.slice A2 (l0 ++ xe m p.lv (m.get p.lv) (p.cs.take (k+1))).length c2/\xag w0 w L p s A m tv l0 (k+1) EE w2:=by
 intro W1 aV;have aC:=h.qaD hx ht;obtain ⟨h1,⟨e,h2⟩,h3,h4,h5,h6,h7,h8⟩:=h;have eU:Ext wr (wr.alloc o):=(Ext.refl wr).alloc o;obtain ⟨m1,m2⟩:=(h2.ext eU (by omega)).xD hl (m.get p.lv+k);rw [<- aV] at m1 m2;have hsz:W1.heap.size=wr.heap.size+1:=by rw [aV]; simp [World.setCell]
 have mP:∀ R,mZ.ownBlock=some R->R ≠ w.heap.size+1/\R ≠ w.heap.size/\R < wr.heap.size:=by
  intro R hR;have af:=(h1.own hR).2;rcases h7 with h7 | h7
  · rw [h7] at hR;have:=(ht.own hR).2;omega
  · have:=h7 R hR; omega
 have hblk:∀ b,b ≠ w.heap.size+1->b < wr.heap.size->W1.heap[b]?=wr.heap[b]?:=fun b hb af=>by
  rw [aV,Below.heap_setCell _ _ _ b hb];exact eU.below.block b af
 have au:∀ v ds,jc wr v ds->jc W1 v ds:=fun v ds hv=>m2 v ds (hv.ext eU)
 have wK:=hx.size;refine ⟨h1.xl (fun R hR=>hblk R (mP R hR).1 (mP R hR).2.2) au,m1,?_,?_,?_⟩
 · rw [aV]; exact (aC.alloc o).setCell (by show w0.heap.size<=w.heap.size+1; omega) _
 · intro i;rw [aV,ph _ _ _ _ (by intro e; injection e; omega)]
 · rintro e w2 ⟨EE,rfl,t2,g2,n2,o2⟩;rw [List.append_assoc,<- ybw _ _ _ _ k hk] at t2;have dR:=g2.size;obtain ⟨A2,c2,e2,-,-⟩:=t2.len;have jR:∀ b,b < W1.heap.size->mZ.ownBlock ≠ some b->w2.heap[b]?=W1.heap[b]?:=fun b hb ax=>rr g2 b hb (fun e=>ax e.symm)
   refine ⟨EE,A2,c2,rfl,e2,t2,⟨_,m1.xl (jR _ (by omega) (fun e=>(mP _ e).1 rfl))⟩,fun i=>?_,h4.xl ((jR _ (by omega) (fun e=>(mP _ e).2.1 rfl)).trans (hblk _ (by omega) (by omega))),⟨?_,?_,?_,by omega,fun b hb ax=>?_⟩,fun v ds hv=>n2 v ds (au v ds (h6 v ds hv)),?_,by omega⟩
   · have:w2.frozen? ⟨w.heap.size+1,i,none⟩=W1.frozen? ⟨w.heap.size+1,i,none⟩:=sL (a:=⟨w.heap.size+1,i,none⟩) (jR _ (by show w.heap.size+1 < _; omega) (fun e=>(mP _ e).1 rfl));rw [this,aV,rm,eU.frozen (p:=⟨w.heap.size+1,i,none⟩) (by show w.heap.size+1 < _; omega)];exact h3 i
   · rw [g2.os,aV]; exact h5.os
   · rw [g2.tape,aV]; exact h5.tape
   · rw [g2.output,aV]; exact h5.output
   · have OB:=h5.size
     by_cases Ug:mZ.ownBlock=some b
     · rcases h7 with h7 | h7
       · exact absurd (h7.symm.trans Ug).symm ax
       · have:=h7 b Ug; omega
     · rw [jR b (by omega) Ug,hblk b (by omega) (by omega)];exact rr h5 b hb ax
   · rcases o2 with o2 | o2
     · rcases h7 with h7 | h7
       · exact .inl (o2.trans h7)
       · exact .inr (fun R hR=>h7 R (o2.symm.trans hR))
     · exact .inr (fun R hR=>by have:=o2 R hR; omega)
end Go.Proofs.YtcepajijiabkmaaGreat
