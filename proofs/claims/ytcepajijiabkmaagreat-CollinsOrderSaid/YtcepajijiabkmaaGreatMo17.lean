/- Products of polynomials of one level, plain: as recpoly.mul goes. No program in sight. -/
import Derived.Test.YtcepajijiabkmaaGreatMo16
set_option linter.all false
namespace Go.Proofs.YtcepajijiabkmaaGreat
def Pl.at_ (cs:List Pl) (i:Nat):Pl:=cs.getD i Pl.zero
def jo (ps qs:List Pl) (l:List (Nat × Nat)) (k:Nat):List Pl:=(l.filter fun x=>decide (x.1+x.2=k)).map fun x=>(Pl.at_ ps x.1).mul (Pl.at_ qs x.2)
theorem xaw (ps qs:List Pl) (l r:List (Nat × Nat)) (k:Nat):jo ps qs (l ++ r) k=jo ps qs l k ++ jo ps qs r k:=by
 unfold jo;rw [tL,uc]
theorem ja8 (ps qs:List Pl) (i j k:Nat):jo ps qs [(i,j)] k=if i+j=k then [(Pl.at_ ps i).mul (Pl.at_ qs j)] else []:=by
 unfold jo
 by_cases h:i+j=k
 · simp [h]
 · simp [h]
def vao (x : Rat) (f : Nat -> Nat -> Rat) : List (Nat × Nat) -> Rat
 | []=>0
 | (i,j) :: r=>x ^ (i+j) * f i j+vao x f r
theorem xdd (x:Rat) (c:Rat):∀ (t n:Nat),t < n->hsm x (fun k=>if t=k then c else 0) n=x ^ t * c:=by
 intro t
 induction t with
 | zero =>
   intro n hn;obtain ⟨m,rfl⟩:∃ m,n=m+1:=⟨n - 1,by omega⟩;have e:(fun k:Nat=>if 0=k+1 then c else 0)=fun _=>0:=by funext k; rw [if_neg (by omega)]
   rw [hsm,e,waw,if_pos rfl];simp
   grind
 | succ t ih =>
   intro n hn;obtain ⟨m,rfl⟩:∃ m,n=m+1:=⟨n - 1,by omega⟩;have e:(fun k:Nat=>if t+1=k+1 then c else 0)=fun k=>if t=k then c else 0:=by
    funext k
    by_cases h:t=k
    · rw [if_pos (by omega),if_pos h]
    · rw [if_neg (by omega),if_neg h]
   rw [hsm,e,ih m (by omega),if_neg (by omega),Pu]
   grind
theorem kct (x:Rat) (ρ:Int->Rat) (ps qs:List Pl) (N:Nat) (l:List (Nat × Nat)) (h:∀ y ∈ l,y.1+y.2 < N) :
 hsm x (fun k=>yz ρ (jo ps qs l k)) N=vao x (fun i j=>(Pl.at_ ps i).val ρ * (Pl.at_ qs j).val ρ) l:=by
 induction l with
 | nil =>
   rw [vao,<- waw x N]
   congr 1
 | cons y l ih =>
   obtain ⟨i,j⟩:=y;have e:(fun k=>yz ρ (jo ps qs ((i,j) :: l) k))=fun k=>(if i+j=k then (Pl.at_ ps i).val ρ * (Pl.at_ qs j).val ρ else 0)+yz ρ (jo ps qs l k):=by
    funext k
    rw [show ((i,j) :: l)=[(i,j)] ++ l from rfl,xaw,zbc,ja8]
    congr 1
    by_cases hk:i+j=k
    · rw [if_pos hk,if_pos hk,yz,yz,Pl.qD]; grind
    · rw [if_neg hk,if_neg hk,yz]
   rw [e,ycf,ih fun z hz=>h z (by simp [hz]),xdd x _ (i+j) N (h (i,j) (by simp)),vao]
theorem zb9 (x:Rat) (f:Nat->Nat->Rat) (a b:List (Nat × Nat)):vao x f (a ++ b)=vao x f a+vao x f b:=by
 induction a with
 | nil=>simp [vao]; grind
 | cons y a ih=>obtain ⟨i,j⟩:=y; simp only [rI,vao,ih]; grind
def zai (x : Rat) (f : Nat -> Rat) : List Nat -> Rat
 | []=>0
 | i :: r=>x ^ i * f i+zai x f r
theorem zca (x:Rat) (f:Nat->Rat) (a b:List Nat):zai x f (a ++ b)=zai x f a+zai x f b:=by
 induction a with
 | nil=>simp [zai]; grind
 | cons y a ih=>simp only [rI,zai,ih]; grind
def yt (a b:List Nat):List (Nat × Nat):=a.flatMap fun i=>b.map fun j=>(i,j)
theorem kci (x:Rat) (f g:Nat->Rat) (a b:List Nat):vao x (fun i j=>f i * g j) (yt a b)=zai x f a * zai x g b:=by
 unfold yt
 induction a with
 | nil=>simp [vao,zai]
 | cons i a ih =>
   rw [th,zb9,ih,zai];have:vao x (fun i j=>f i * g j) (b.map fun j=>(i,j))=x ^ i * f i * zai x g b:=by
    clear ih
    induction b with
    | nil=>simp [vao,zai]
    | cons j b ihb=>rw [ss,vao,ihb,zai,yaw]; grind
   rw [this]
   grind
theorem ub0 (ρ:Int->Rat) (l:Int) (cs:List Pl) (hc:∀ c ∈ cs,c.Can):zai (ρ l) (fun i=>(Pl.at_ cs i).val ρ) (prs cs cs.length)=je ρ l cs:=by
 have key:∀ k,k<=cs.length->zai (ρ l) (fun i=>(Pl.at_ cs i).val ρ) (prs cs k)=je ρ l (cs.take k):=by
  intro k
  induction k with
  | zero=>intro _; simp [prs,zai,je]
  | succ k ih =>
    intro hk;have lX:k < cs.length:=by omega
    rw [jbg cs k lX,zca,ih (by omega),pC lX];have aJ:∀ (a:List Pl) (c:Pl),je ρ l (a ++ [c])=je ρ l a+ρ l ^ a.length * c.val ρ:=by
     intro a c
     induction a with
     | nil=>simp [je]; grind
     | cons y a iha=>rw [rI,je,je,iha,pH,Pu]; grind
    rw [aJ,pA,so (by omega)];have aK:Pl.at_ cs k=cs[k]:=by unfold Pl.at_; rw [po,pr lX]; rfl
    by_cases hz:cs[k].zp=true
    · rw [if_pos hz,(Pl.xj (hc _ (pt lX))).1 hz,Pl.qt,zai]; grind
    · rw [if_neg hz,zai,zai,aK]; grind
 have:=key cs.length (pj _);rw [pQ] at this;exact this
theorem Pl.K9 {p q:Pl} (hp:p.Can) (hq:q.Can) (h0:0 < p.lv) (he:p.lv=q.lv) :
 p.mul q=vab p.lv ((List.range (p.cs.length+q.cs.length - 1)).map fun k=>zaa (jo p.cs q.cs (yt (prs p.cs p.cs.length) (prs q.cs q.cs.length)) k)):=by
 obtain ⟨l,n,d,ps⟩:=p;obtain ⟨l',n',d',qs⟩:=q
 change l=l' at he
 subst he;simp only [Pl.cs,Pl.lv] at *;have h4:l<=4:=hp.qq.2;have fP:=(hp.kids h0).2.2.2.1;have Z5:=(hq.kids h0).2.2.2.1;have wP:=(hp.kids h0).2.2.1;have rZ:=(hq.kids h0).2.2.1;have aK:∀ (cs:List Pl),uq l cs->∀ i,(Pl.at_ cs i).Can/\(Pl.at_ cs i).lv<=l - 1:=fun cs hk i=>by
  unfold Pl.at_;rw [po];cases hi:cs[i]? with
  | none=>exact ⟨Pl.qT,by show (0:Int)<=l - 1; omega⟩
  | some c=>have:=hk.mem c (te hi); exact ⟨this.2,by simp only [Pr]; omega⟩
 have hk:uq l ((List.range (ps.length+qs.length - 1)).map fun k=>zaa (jo ps qs (yt (prs ps ps.length) (prs qs qs.length)) k)):=waf fun c hc=>by
  obtain ⟨k,-,rfl⟩:=pS.1 hc;have h1:=wcf (l:=jo ps qs (yt (prs ps ps.length) (prs qs qs.length)) k) (n:=l - 1) (fun r hr=>by
   unfold jo at hr;obtain ⟨x,-,rfl⟩:=pS.1 hr
   exact ⟨Pl.q9 _ _,Pl.vR (aK ps fP x.1).1 (aK qs Z5 x.2).1 (aK ps fP x.1).2 (aK qs Z5 x.2).2 (by omega)⟩) (by omega) (by omega)
  exact ⟨by omega,kax _⟩
 obtain ⟨g1,-,g3⟩:=za7 h0 h4 hk;refine Pl.qv (Pl.q9 _ _) g1 fun ρ=>?_
 rw [g3,ubr];simp only [jax];rw [kct,kci,ub0 ρ l ps fun c hc=>(fP.mem c hc).2,ub0 ρ l qs fun c hc=>(Z5.mem c hc).2,Pl.qD,Pl.mk_val ρ _ _ _ h0 h4,Pl.mk_val ρ _ _ _ h0 h4];intro y hy;unfold yt at hy;obtain ⟨i,hi,hy⟩:=rL.1 hy;obtain ⟨j,hj,rfl⟩:=pS.1 hy;have h1:i < ps.length:=by unfold prs at hi; have:=(sw.1 hi).1; simpa using this
 have h2:j < qs.length:=by unfold prs at hj; have:=(sw.1 hj).1; simpa using this
 simp only;omega
theorem Pl.qbd {p q:Pl} (hp:p.Can) (hq:q.Can):(p.mul q).nr<=p.nr * q.nr:=by
 have h1:=Pl.kB (wan (p.qu Mo.one) (q.qu Mo.one));rw [gbx,Pl.kd p _ hp,Pl.kd q _ hq] at h1;exact h1
def snr (cs : List Pl) : List Nat -> Nat
 | []=>0
 | i :: r=>(Pl.at_ cs i).nr+snr cs r
theorem xch (cs:List Pl) (a b:List Nat):snr cs (a ++ b)=snr cs a+snr cs b:=by
 induction a with
 | nil=>simp [snr]
 | cons y a ih=>simp only [rI,snr,ih]; omega
theorem ucc (cs:List Pl) (k:Nat) (hk:k<=cs.length):snr cs (prs cs k)<=jm (cs.take k):=by
 induction k with
 | zero=>simp [prs,snr]
 | succ k ih =>
   have lX:k < cs.length:=by omega
   have aK:Pl.at_ cs k=cs[k]:=by unfold Pl.at_; rw [po,pr lX]; rfl
   rw [jbg cs k lX,xch,pC lX,vbd];have:=ih (by omega)
   split
   · simp only [snr,jm]; omega
   · simp only [snr,jm,aK]; omega
theorem xc2 {ps qs:List Pl} (hp:∀ i,(Pl.at_ ps i).Can) (hq:∀ i,(Pl.at_ qs i).Can) (k:Nat) (a b:List Nat):lnr (jo ps qs (yt a b) k)<=snr ps a * snr qs b:=by
 have h1:∀ l:List (Nat × Nat),lnr (jo ps qs l k)<=(l.map fun x=>(Pl.at_ ps x.1).nr * (Pl.at_ qs x.2).nr).sum:=by
  intro l
  induction l with
  | nil=>simp [jo,lnr]
  | cons x l ih =>
    rw [show x :: l=[x] ++ l from rfl,xaw,kbl,uc,List.sum_append];obtain ⟨i,j⟩:=x;rw [ja8];have:=Pl.qbd (hp i) (hq j)
    split
    · simp only [lnr,ss,Ss,List.sum_cons,List.sum_nil]; omega
    · simp only [lnr]; omega
 refine py (h1 _) ?_;unfold yt
 induction a with
 | nil=>simp [snr]
 | cons i a ih =>
   rw [th,uc,List.sum_append,snr,r5];have:((b.map fun j=>(i,j)).map fun x=>(Pl.at_ ps x.1).nr * (Pl.at_ qs x.2).nr).sum=(Pl.at_ ps i).nr * snr qs b:=by
    clear ih
    induction b with
    | nil=>simp [snr]
    | cons j b ihb=>simp only [ss,List.sum_cons,snr] at ihb ⊢; rw [ihb,rk]
   omega
theorem kbr (ps qs:List Pl) (l:List (Nat × Nat)) (k:Nat):(jo ps qs l k).length<=l.length:=by
 unfold jo;rw [pw];exact uE _ _
theorem xbl (a b:List Nat):(yt a b).length=a.length * b.length:=by
 unfold yt
 induction a with
 | nil=>simp
 | cons i a ih=>rw [th,rh,ih,pw,pH,r5]; omega
theorem wcq {cs:List Pl} {n i:Nat} (h:i ∈ prs cs n):i < n:=by
 unfold prs at h;have:=(sw.1 h).1;simpa using this
theorem gci (ps qs:List Pl) (l:List (Nat × Nat)) (i j k:Nat):jo ps qs (l ++ [(i,j)]) k=if i+j=k then jo ps qs l k ++ [(Pl.at_ ps i).mul (Pl.at_ qs j)] else jo ps qs l k:=by
 rw [xaw,ja8]
 split
 · rfl
 · rw [sq]
def Pl.pow (p : Pl) : Nat -> Pl
 | 0=>Pl.const 1
 | n+1=>(p.pow n).mul p
theorem Pl.vo (p : Pl) : ∀ n, (p.pow n).Can
 | 0=>qp 1
 | _+1=>Pl.q9 _ _
theorem Pl.yW (ρ:Int->Rat) (p:Pl) (n:Nat):(p.pow n).val ρ=p.val ρ ^ n:=by
 induction n with
 | zero=>rw [Pl.pow,Pl.qS]; simp
 | succ n ih=>rw [Pl.pow,Pl.qD,ih,Pu]
theorem Pl.K6 (p:Pl) (n:Nat):(p.pow n).mul (p.pow n)=p.pow (2 * n):=Pl.qv (Pl.q9 _ _) (Pl.vo _ _) fun ρ=>by
 rw [Pl.qD,Pl.yW,Pl.yW,Nat.two_mul,yaw]
theorem Fit.pow {p:Pl} {E D:Nat} (h:Fit p E D) (n:Nat):Fit (p.pow n) (n * E) (n * D+1):=by
 induction n with
 | zero=>exact Fit.const (by rw [s8]; decide)
 | succ n ih=>exact (ih.mul h).mono (by rw [Re]; omega) (by rw [Re]; omega)
theorem Fit.qaZ {p:Pl} {E D n m:Nat} (h:Fit p E D) (hn:n<=m):Fit (p.pow n) (m * E) (m * D+1):=
 (h.pow n).mono (pE _ hn) (Nat.add_le_add_right (pE _ hn) 1)
theorem gc7 (n k:Nat):n / 2 ^ k=2 * (n / 2 ^ (k+1))+n / 2 ^ k % 2:=by
 have:n / 2 ^ (k+1)=n / 2 ^ k / 2:=by rw [si,Nat.div_div_eq_div_mul]
 omega
theorem vde (n k:Nat):n &&& 2 ^ k=2 ^ k * (n / 2 ^ k % 2):=by
 apply Nat.eq_of_testBit_eq;intro i;have h1:n.testBit k=decide (n / 2 ^ k % 2=1):=SJ;rw [paQ,paj]
 by_cases hi:k=i
 · subst hi;rw [h1];rcases paU (n / 2 ^ k) with h | h <;> rw [h] <;> simp [paj]
 · rcases paU (n / 2 ^ k) with h | h <;> rw [h] <;> simp [paj,hi]
def Pl.yd (p:Pl):Pl:=p.mul (Pl.const (-1))
theorem Pl.ye (p:Pl):p.yd.Can:=Pl.q9 _ _
theorem Pl.xT (ρ:Int->Rat) (p:Pl):p.yd.val ρ=- p.val ρ:=by unfold Pl.yd; rw [Pl.qD,Pl.qS]; push_cast; grind
theorem Pl.vp {p:Pl} (h:p.Can):p.yd.yd=p:=Pl.qv (Pl.ye _) h fun ρ=>by rw [Pl.xT,Pl.xT]; grind
theorem Fit.yd {p:Pl} {E D:Nat} (h:Fit p E D):Fit p.yd E (D+1):=h.mul (F:=0) (G:=1) (Fit.const (by decide))
open Go.RowKit
def vbi (n:Int) (w:World) (e:Ending) (w':World):Prop:=e=.returned (.int .i64 n)/\Ext w w'
inductive Mx where
 | mk (kind rel:Int) (p:Pl) (ks:List Mx)
section
variable {w w':World} {p q:Nat->Prop}
end
section
variable {base:Nat} {W W':World} {v:Value} {l:List Mx}
end
end Go.Proofs.YtcepajijiabkmaaGreat

set_option maxRecDepth 100000
set_option maxHeartbeats 8000000
namespace Go.Proofs.YtcepajijiabkmaaGreat
open Go.RowKit
theorem ubo (m:Mo) (l e:Int) (a b:List Pl):xe m l e (a ++ b)=xe m l e a ++ xe m l (e+a.length) b:=by
 induction a generalizing e with
 | nil=>simp [xe]
 | cons x r ih =>
   simp only [rI,xe,ih,SZ,pH];rw [show e+1+(r.length:Int)=e+((r.length+1:Nat):Int) by omega]
theorem gbz (m:Mo) (l e:Int) (cs:List Pl) (k:Nat) (hk:k < cs.length):xe m l e (cs.take (k+1))=xe m l e (cs.take k) ++ cs[k].qu (m.put l (e+k)):=by
 rw [pC hk,ubo,pA,so (by omega)];simp only [xe,sq]
theorem kay (l:List Pl) (k:Nat) (hk:k < l.length):vk (l.take k)+l[k].sz+vk (l.drop (k+1))=vk l:=by
 have h2:vk l=vk (l.take k)+vk (l.drop k):=by rw [<- kb9,wN]
 rw [h2,qcr l k hk]; omega
theorem Mo.vn (m:Mo) (l:Int):m.put l (m.get l)=m:=by
 unfold Mo.put Mo.get; split <;> (try split) <;> (try split) <;> rfl
def kaj (k:Option Nat) (base:Nat) (tv:Value) (l:Sp) (w:World) (e:Ending) (w':World):Prop:=
 ∃ tv',e=.returned tv'/\TsV k base w' tv' l/\w.grownBy w' tv.ownBlock/\(∀ v ds,jc w v ds->jc w' v ds)/\(tv'.ownBlock=tv.ownBlock\/∀ R,tv'.ownBlock=some R->w.heap.size<=R)
def wbn (w0:World) (q:Nat->Prop) (L n:Nat):Prop:=∀ (p:Pl) (v:Value) (m:Mo) (E:Int) (l:Sp) (tv:Value) (w:World),p.sz < n->p.dm<=L->PlV w0 q p v->Ext w0 w->TsV (some L) w0.heap.size w tv l->m.qe->m.le E->E+p.sz<=4611686018427387904->l.length+p.sz<=1099511627776->Calls Tryz.prog 65 #[tv,v,moV m] w (kaj (some L) w0.heap.size tv (l ++ p.qu m) w)
theorem zb6 {w0 w:World} {q:Nat->Prop} {L:Nat} (p:Pl) (v:Value) (m:Mo) (l:Sp) (tv:Value) (ig:p.dm<=L) (h:PlV w0 q p v) (aC:Ext w0 w) (ht:TsV (some L) w0.heap.size w tv l) (hlen:l.length+p.sz<=1099511627776) (hl:p.lv<=0):Calls Tryz.prog 65 #[tv,v,moV m] w (kaj (some L) w0.heap.size tv (l ++ p.qu m) w):=by
 have yT:=p.vd;have hsz:=p.kj;obtain ⟨A0,n0,c0,A,c,rfl,ax,fC,dK,h4⟩:=h.open_;obtain ⟨lv,ng,ds,cs⟩:=p;simp only [Pl.cs,Pl.ds,Pl.lv,Pl.neg,plV] at *;have qK:(Pl.mk lv ng ds cs).qu m=[(sgn ng (val ds),m)]:=by rw [Pl.qu,if_pos hl]
 rw [qK];obtain ⟨W,hW⟩:=n_m ((w.alloc (.cells #[.int .i64 lv,.bool ng,.slice A0 n0 c0,.slice A cs.length c] 33)).alloc (.cells #[.int .i64 m.a,.int .i64 m.b,.int .i64 m.c,.int .i64 m.d] 61));have ai:Ext w W:=by rw [<- hW]; exact ((Ext.refl w).alloc _).alloc _
 have dG:W.heap.size=w.heap.size+1+1:=by rw [<- hW]; simp
 have bV:jb W w.heap.size (.mk lv ng ds cs) (.slice A0 n0 c0) (.slice A cs.length c):=by rw [<- hW]; exact (jb.new w (.mk lv ng ds cs) _ _ _).ext ((Ext.refl _).alloc _) (by simp)
 have iL:zy W (w.heap.size+1) m:=by
  have:=zy.new (w.alloc (.cells #[.int .i64 lv,.bool ng,.slice A0 n0 c0,.slice A cs.length c] 33)) m 61;rw [hW] at this;simpa using this
 obtain ⟨b0,b1,b2,b3⟩:=bV;obtain ⟨d0,d1,d2,d3⟩:=iL;simp only [Pl.lv,Pl.neg] at b0 b1;have ZE:=aC.size;have eu:Cf W (some L) (.agg #[.bool ng,.slice A0 n0 c0]) (sgn ng (val ds)):=⟨ng,_,ds,rfl,ax.ext (aC.trans ai),rfl,by omega⟩;obtain ⟨v4,w4,ak,t4,g4,n4,o4⟩:=(ht.ext ai).push (by have:=ai.size; omega) eu m (by omega) 23;have HF:Hid (kaj (some L) w0.heap.size tv (l ++ [(sgn ng (val ds),m)]) w (.returned v4) w4):=by
  refine ⟨v4,rfl,t4,⟨g4.os.trans ai.below.os,g4.tape.trans ai.below.tape,g4.output.trans ai.below.output,py ai.size g4.size,fun i hi au=>(rz g4 i (px hi ai.size) au).trans (ai.below.block i hi)⟩,fun v ds hv=>n4 v ds (hv.ext ai),?_⟩;rcases o4 with o4 | o4
  · exact .inl o4
  · right
    intro R hR;rw [o4] at hR;injection hR with hR
    have:=ai.size;omega
 have Oz:decide (lv<=0)=true:=decide_eq_true hl;obtain ⟨At,ct,rfl,-,-⟩:=ht.len;clear t4 g4 n4 o4 ht h ax h4 eu;unfold moV;rw [dG] at ak;go_enter Uv,Ts
 go_wp2_with (at_builtin
              refine wpList_append_run rfl (.tmp 14) (.tmp 19) _ _ rfl _ _ _ _ rfl rfl ak ?_)
 clear ak;go_ret;exact HF.out
theorem yb6 {w0 w:World} {q:Nat->Prop} {L:Nat} (p:Pl) (v:Value) (m:Mo) (l:Sp) (tv:Value) (h:PlV w0 q p v) (aC:Ext w0 w) (ht:TsV (some L) w0.heap.size w tv l) (hl:4 < p.lv):Calls Tryz.prog 65 #[tv,v,moV m] w (kaj (some L) w0.heap.size tv (l ++ p.qu m) w):=by
 obtain ⟨A0,n0,c0,A,c,rfl,ax,fC,dK,h4⟩:=h.open_;obtain ⟨lv,ng,ds,cs⟩:=p;simp only [Pl.cs,Pl.ds,Pl.lv,Pl.neg,plV] at *;have qK:(Pl.mk lv ng ds cs).qu m=[]:=by rw [Pl.qu,if_neg (by omega),if_pos hl]
 rw [qK,sq];have HF:Hid (∀ o o',kaj (some L) w0.heap.size tv l w (.returned tv) ((w.alloc o).alloc o')):=fun o o'=>by
  have ai:Ext w ((w.alloc o).alloc o'):=((Ext.refl w).alloc _).alloc _;refine ⟨tv,rfl,ht.ext ai,⟨ai.below.os,ai.below.tape,ai.below.output,ai.size,fun i hi _=>ai.below.block i hi⟩,fun v ds hv=>hv.ext ai,.inl rfl⟩
 have Oz:decide (lv<=0)=false:=decide_eq_false (by omega);have ai2:decide (lv > 4)=true:=decide_eq_true (by omega);obtain ⟨At,ct,rfl,-,-⟩:=ht.len;clear ht h ax h4;unfold moV;go_enter Uv,Ts;go_wp2_with fail;go_ret;exact HF.out _ _
def kah (w0 w:World) (L:Nat) (p:Pl) (s A:Value) (m:Mo) (tv:Value) (l0:Sp) (k:Nat) (nD:Value) (wr:World):Prop:=
 TsV (some L) w0.heap.size wr nD (l0 ++ xe m p.lv (m.get p.lv) (p.cs.take k))/\(∃ e,zy wr (w.heap.size+1) (m.put p.lv e))/\(∀ i,wr.frozen? ⟨w.heap.size+1,i,none⟩=false)/\jb wr w.heap.size p s A/\w.grownBy wr tv.ownBlock/\(∀ v ds,jc w v ds->jc wr v ds)/\(nD.ownBlock=tv.ownBlock\/∀ R,nD.ownBlock=some R->w.heap.size+2<=R)/\w.heap.size+2<=wr.heap.size
theorem kah.qaE {w0 w:World} {L:Nat} {p:Pl} {s A:Value} {m:Mo} {tv:Value} {l0 l1:Sp} {k:Nat} {nD:Value} {wr:World} (h:kah w0 w L p s A m tv l0 k nD wr) (hx:Ext w0 w) (ht:TsV (some L) w0.heap.size w tv l1):Ext w0 wr:=by
 obtain ⟨-,-,-,-,h5,-⟩:=h;exact Below.grown hx h5 hx.size (fun g e=>(ht.own e).1)
theorem zy.xD {w:World} {g:Nat} {m:Mo} {l e:Int} (h:zy w g (m.put l e)) (hl:l=1\/l=2\/l=3\/l=4) (e':Int):zy (w.setCell ⟨g,(l - 1).toNat,none⟩ (.int .i64 e')) g (m.put l e')/\(∀ v ds,jc w v ds->jc (w.setCell ⟨g,(l - 1).toNat,none⟩ (.int .i64 e')) v ds):=by
 obtain ⟨h0,h1,h2,h3⟩:=h;rcases hl with rfl | rfl | rfl | rfl
 · refine ⟨⟨pP _ _ _ h0,?_,?_,?_⟩,fun v ds hv=>hv.box h0 rfl _⟩ <;> (rw [ph _ _ _ _ (by simp)]; first | exact h1 | exact h2 | exact h3)
 · refine ⟨⟨?_,pP _ _ _ h1,?_,?_⟩,fun v ds hv=>hv.box h1 rfl _⟩ <;> (rw [ph _ _ _ _ (by simp)]; first | exact h0 | exact h2 | exact h3)
 · refine ⟨⟨?_,?_,pP _ _ _ h2,?_⟩,fun v ds hv=>hv.box h2 rfl _⟩ <;> (rw [ph _ _ _ _ (by simp)]; first | exact h0 | exact h1 | exact h3)
 · refine ⟨⟨?_,?_,?_,pP _ _ _ h3⟩,fun v ds hv=>hv.box h3 rfl _⟩ <;> (rw [ph _ _ _ _ (by simp)]; first | exact h0 | exact h1 | exact h2)
theorem kah.step {w0 w:World} {L:Nat} {p:Pl} {s A:Value} {m:Mo} {tv:Value} {l0:Sp} {k:Nat} {nD:Value} {wr:World} (h:kah w0 w L p s A m tv l0 k nD wr) (hx:Ext w0 w) (ht:TsV (some L) w0.heap.size w tv l0) (hl:p.lv=1\/p.lv=2\/p.lv=3\/p.lv=4) (hk:k < p.cs.length) (o:Obj) :
 ∀ W1,W1=(wr.alloc o).setCell ⟨w.heap.size+1,(p.lv - 1).toNat,none⟩ (.int .i64 (m.get p.lv+k))->TsV (some L) w0.heap.size W1 nD (l0 ++ xe m p.lv (m.get p.lv) (p.cs.take k))/\zy W1 (w.heap.size+1) (m.put p.lv (m.get p.lv+k))/\Ext w0 W1/\(∀ i,W1.cell? ⟨wr.heap.size,i,none⟩=(wr.alloc o).cell? ⟨wr.heap.size,i,none⟩) /\
   ∀ e w2,kaj (some L) w0.heap.size nD ((l0 ++ xe m p.lv (m.get p.lv) (p.cs.take k)) ++ p.cs[k].qu (m.put p.lv (m.get p.lv+k))) W1 e w2->∃ EJ A2 c2,e=.returned EJ/\EJ=.slice A2 (l0 ++ xe m p.lv (m.get p.lv) (p.cs.take (k+1))).length c2/\kah w0 w L p s A m tv l0 (k+1) EJ w2:=by
 intro W1 aW;have aC:=h.qaE hx ht;obtain ⟨h1,⟨e,h2⟩,h3,h4,h5,h6,h7,h8⟩:=h;have eU:Ext wr (wr.alloc o):=(Ext.refl wr).alloc o;obtain ⟨m1,m2⟩:=(h2.ext eU (by omega)).xD hl (m.get p.lv+k);rw [<- aW] at m1 m2;have hsz:W1.heap.size=wr.heap.size+1:=by rw [aW]; simp [World.setCell]
 have mV:∀ R,nD.ownBlock=some R->R ≠ w.heap.size+1/\R ≠ w.heap.size/\R < wr.heap.size:=by
  intro R hR;have af:=(h1.own hR).2;rcases h7 with h7 | h7
  · rw [h7] at hR;have:=(ht.own hR).2;omega
  · have:=h7 R hR; omega
 have hblk:∀ b,b ≠ w.heap.size+1->b < wr.heap.size->W1.heap[b]?=wr.heap[b]?:=fun b hb af=>by
  rw [aW,Below.heap_setCell _ _ _ b hb];exact eU.below.block b af
 have ax:∀ v ds,jc wr v ds->jc W1 v ds:=fun v ds hv=>m2 v ds (hv.ext eU)
 have wI:=hx.size;refine ⟨h1.xl (fun R hR=>hblk R (mV R hR).1 (mV R hR).2.2) ax,m1,?_,?_,?_⟩
 · rw [aW]; exact (aC.alloc o).setCell (by show w0.heap.size<=w.heap.size+1; omega) _
 · intro i;rw [aW,ph _ _ _ _ (by intro e; injection e; omega)]
 · rintro e w2 ⟨EJ,rfl,t2,g2,n2,o2⟩;rw [SZ,<- gbz _ _ _ _ k hk] at t2;have dR:=g2.size;obtain ⟨A2,c2,e2,-,-⟩:=t2.len;have jO:∀ b,b < W1.heap.size->nD.ownBlock ≠ some b->w2.heap[b]?=W1.heap[b]?:=fun b hb au=>rz g2 b hb (fun e=>au e.symm)
   refine ⟨EJ,A2,c2,rfl,e2,t2,⟨_,m1.xl (jO _ (by omega) (fun e=>(mV _ e).1 rfl))⟩,fun i=>?_,h4.xl ((jO _ (by omega) (fun e=>(mV _ e).2.1 rfl)).trans (hblk _ (by omega) (by omega))),⟨?_,?_,?_,by omega,fun b hb au=>?_⟩,fun v ds hv=>n2 v ds (ax v ds (h6 v ds hv)),?_,by omega⟩
   · have:w2.frozen? ⟨w.heap.size+1,i,none⟩=W1.frozen? ⟨w.heap.size+1,i,none⟩:=sP (a:=⟨w.heap.size+1,i,none⟩) (jO _ (by show w.heap.size+1 < _; omega) (fun e=>(mV _ e).1 rfl));rw [this,aW,rm,eU.frozen (p:=⟨w.heap.size+1,i,none⟩) (by show w.heap.size+1 < _; omega)];exact h3 i
   · rw [g2.os,aW]; exact h5.os
   · rw [g2.tape,aW]; exact h5.tape
   · rw [g2.output,aW]; exact h5.output
   · have OG:=h5.size
     by_cases Ug:nD.ownBlock=some b
     · rcases h7 with h7 | h7
       · exact absurd (h7.symm.trans Ug).symm au
       · have:=h7 b Ug; omega
     · rw [jO b (by omega) Ug,hblk b (by omega) (by omega)];exact rz h5 b hb au
   · rcases o2 with o2 | o2
     · rcases h7 with h7 | h7
       · exact .inl (o2.trans h7)
       · exact .inr (fun R hR=>h7 R (o2.symm.trans hR))
     · exact .inr (fun R hR=>by have:=o2 R hR; omega)
end Go.Proofs.YtcepajijiabkmaaGreat
