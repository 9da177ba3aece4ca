/- Polynomials in four variables, plain: how sums and products lie level by level. No program in sight. -/
import Derived.Test.YtcepajijiabkmaaGreatMo13
set_option linter.all false
namespace Go.Proofs.YtcepajijiabkmaaGreat
open Lib (hid)
theorem Pl.mul_zero {p q:Pl} (hp:p.Can) (hq:q.Can) (h:∀ ρ,p.val ρ * q.val ρ=0):p=Pl.zero\/q=Pl.zero:=by
 obtain ⟨E,hE⟩:=Mo.le_sup (qg (p.qu Mo.one) ++ qg (q.qu Mo.one));have key:∀ r:Pl,r.Can->(∀ x ∈ qg (r.qu Mo.one),x.2.le E)->r ≠ Pl.zero->∀ B,zg (qg (r.qu Mo.one))+1<=B->r.val (kro (E+1) B) ≠ 0:=by
  intro r hr hle au B hB h0;rw [<- Pl.ze,<- jas _ (gae r.qz),qbw] at h0;refine kce (kaa _) (fun x hx=>(ww hx).1) E hle B hB (fun e=>au ?_) (by exact_mod_cast h0);rw [<- Pl.q7 hr];unfold Pl.nf Pl.j8;rw [e]
  rfl
 by_cases h1:p=Pl.zero
 · exact .inl h1
 by_cases h2:q=Pl.zero
 · exact .inr h2
 exfalso
 have h3:=h (kro (E+1) (zg (qg (p.qu Mo.one))+zg (qg (q.qu Mo.one))+1));rcases Wr.1 h3 with h4 | h4
 · exact key p hp (fun x hx=>hE x (Ra _ hx)) h1 _ (by omega) h4
 · exact key q hq (fun x hx=>hE x (ux _ hx)) h2 _ (by omega) h4
theorem Pl.mul_eq_zero {p q:Pl} (hp:p.Can) (hq:q.Can) (h:p.mul q=Pl.zero):p=Pl.zero\/q=Pl.zero:=
 Pl.mul_zero hp hq fun ρ=>by rw [<- Pl.qD,h,Pl.qt]
theorem Pl.ZD {l:Sp} {n:Nat} (iE:n<=4) (nH:∀ x ∈ l,x.2.qe) (h:∀ x ∈ l,∀ i:Nat,n < i->i<=4->x.2.get i=0):(Pl.j8 l).lv<=n:=by
 have hz:∀ i:Nat,0 < i->i<=4->Mo.one.get i=0:=fun i h1 h2=>by
  rcases (show i=1\/i=2\/i=3\/i=4 by omega) with rfl | rfl | rfl | rfl <;> rfl
 have ha:gbb n Mo.one (qg l):=fun x hx i h1 h2=>by
  obtain ⟨-,y,hy,e⟩:=ww hx;rw [<- e,h y hy i h1 h2,hz i (by omega) h2]
 have Rl:∀ x ∈ qg l,x.2.qe:=fun x hx=>(ww hx).1
 obtain ⟨h1,h2⟩:=kcf n iE (qg l) Mo.one (kaa l) Rl ha (fun i hi qA=>hz i hi (by omega));have h3:=jbi n iE (qg l) Mo.one (kaa l) Rl ha (fun i hi qA=>hz i hi (by omega));have h4:bld n (qg l)=Pl.j8 l:=Pl.Kn h1 (Pl.jj l) fun k=>by
  rw [h3,Pl.Kb,gan]
 rw [<- h4];exact h2
theorem Pl.yo {p:Pl} (hp:p.Can) {n:Nat} (h:p.lv<=n):∀ x ∈ p.qu Mo.one,∀ i:Nat,n < i->i<=4->x.2.get i=0:=fun x hx i h1 h2=>by
 rw [Pl.zj p Mo.one n hp h x hx i h1 h2];rcases (show i=1\/i=2\/i=3\/i=4 by omega) with rfl | rfl | rfl | rfl <;> rfl
theorem Mo.ZS (m n:Mo) (i:Int):(m.mul n).get i=m.get i+n.get i:=by
 unfold Mo.mul Mo.get
 split <;> (try split) <;> (try split) <;> rfl
theorem Pl.vR {p q:Pl} (hp:p.Can) (hq:q.Can) {n:Int} (h1:p.lv<=n) (h2:q.lv<=n) (hn:n<=4):(p.mul q).lv<=n:=by
 have h0:=hp.qq.1;obtain ⟨k,rfl⟩:∃ k:Nat,n=k:=⟨n.toNat,by omega⟩;refine Pl.ZD (by omega) (qbc p.qz q.qz) fun x hx i hi Ig=>?_
 obtain ⟨y,hy,z,hz,rfl⟩:=kbf hx;rw [Mo.ZS,Pl.yo hp h1 y hy i hi Ig,Pl.yo hq h2 z hz i hi Ig]
 rfl
theorem Pl.qbG {p q:Pl} (hp:p.Can) (hq:q.Can) {n:Int} (h1:p.lv<=n) (h2:q.lv<=n) (hn:n<=4):(p.add q).lv<=n:=by
 have h0:=hp.qq.1;obtain ⟨k,rfl⟩:∃ k:Nat,n=k:=⟨n.toNat,by omega⟩;refine Pl.ZD (by omega) (fun x hx=>(pT.1 hx).elim (p.qz x) (q.qz x)) fun x hx i hi Ig=>?_
 rcases pT.1 hx with hx | hx
 · exact Pl.yo hp h1 x hx i hi Ig
 · exact Pl.yo hq h2 x hx i hi Ig
theorem Pl.mul_comm (p q:Pl):p.mul q=q.mul p:=Pl.qv (Pl.q9 _ _) (Pl.q9 _ _) fun ρ=>by rw [Pl.qD,Pl.qD]; grind
theorem Pl.vQ (p:Pl):Pl.zero.mul p=Pl.zero:=Pl.j9 (Pl.q9 _ _) fun ρ=>by rw [Pl.qD,Pl.qt]; grind
theorem Pl.Kh (p:Pl):p.mul Pl.zero=Pl.zero:=by rw [Pl.mul_comm,Pl.vQ]
theorem Pl.Q6 (a b:Int):(Pl.const a).mul (Pl.const b)=Pl.const (a * b):=Pl.qv (Pl.q9 _ _) (qp _) fun ρ=>by
 rw [Pl.qD,Pl.qS,Pl.qS,Pl.qS]; push_cast; rfl
theorem yah {p:Pl} (h:p.Can) (hl:p.lv=0):p=Pl.const p.z:=by
 obtain ⟨l,n,d,cs⟩:=p
 change l=0 at hl
 subst hl;unfold Pl.Can at h;rcases h with ⟨-,rfl,hd,hn⟩ | h
 · show _=Pl.const (sgn n (val d));unfold Pl.const;rw [qw,<- hd]
   congr 1
   cases n
   · simp [sgn]
   · have h1:d ≠ []:=fun e=>by have:=hn e; cases this
     have h2:val d ≠ 0:=fun e=>h1 (by rw [hd,e,zo])
     simp only [sgn];simp;omega
 · omega
theorem vbr (ρ:Int->Rat) (l:Int) (f:Pl->Pl) (r:Rat) (cs:List Pl) (h:∀ c ∈ cs,(f c).val ρ=c.val ρ * r):je ρ l (cs.map f)=je ρ l cs * r:=by
 induction cs with
 | nil=>simp [je]
 | cons x cs ih =>
   simp only [ss,je];rw [h x (by simp),ih fun c hc=>h c (by simp [hc])]
   grind
theorem Pl.mk_val (ρ:Int->Rat) {l:Int} (n:Bool) (d:List Nat) (cs:List Pl) (h0:0 < l) (h4:l<=4):(Pl.mk l n d cs).val ρ=je ρ l cs:=by
 rw [Pl.val,if_neg (by omega),if_neg (by omega)]
theorem wa8 {l:Int} {cs:List Pl} (h0:0 < l) (h4:l<=4) (h2:2<=cs.length) (hk:uq l cs) (hz:cs.getLast? ≠ some Pl.zero):(Pl.mk l false [] cs).Can:=by
 unfold Pl.Can;exact .inr ⟨by omega,h4,rfl,rfl,h2,hk,hz⟩
theorem Pl.qa2 {l:Int} {n:Bool} {d:List Nat} {cs:List Pl} {q:Pl} (hp:(Pl.mk l n d cs).Can) (hq:q.Can) (hl:q.lv < l) (hz:q ≠ Pl.zero):(Pl.mk l n d cs).mul q=.mk l false [] (cs.map fun c=>c.mul q):=by
 have lW:0 < l:=by have:=hq.qq.1; omega
 obtain ⟨rfl,rfl,h2,hk,dW⟩:=hp.kids lW;have ag:l<=4:=hp.qq.2;refine Pl.qv (Pl.q9 _ _) (wa8 lW ag (by rw [pw]; exact h2) (waf fun c hc=>?_) ?_) fun ρ=>?_
 · obtain ⟨c',lD,rfl⟩:=pS.1 hc;have h3:=hk.mem c' lD;have:=Pl.vR (n:=l - 1) h3.2 hq (by omega) (by omega) (by omega);exact ⟨by omega,Pl.q9 _ _⟩
 · rw [T8];intro e;obtain ⟨c,hc,he⟩:=Option.map_eq_some_iff.1 e;rcases Pl.mul_eq_zero (hk.mem c (pac hc)).2 hq he with h | h
   · rw [h] at hc; exact dW hc
   · exact hz h
 · rw [Pl.qD,Pl.mk_val ρ _ _ _ lW ag,Pl.mk_val ρ _ _ _ lW ag,vbr ρ l _ (q.val ρ) cs fun c _=>Pl.qD ρ c q]
theorem Pl.qaN {p q:Pl} (hp:p.Can) (hq:q.Can) (hl:q.lv < p.lv) (hz:q ≠ Pl.zero):p.mul q=.mk p.lv false [] (p.cs.map fun c=>c.mul q):=by
 obtain ⟨l,n,d,cs⟩:=p;exact Pl.qa2 hp hq hl hz
def zk : List Pl -> List Pl
 | []=>[]
 | c :: r=>if c.zp=true/\zk r=[] then [] else c :: zk r
def vab (l:Int) (cs:List Pl):Pl:=
 match zk cs with
 | []=>Pl.zero
 | [c]=>c
 | c :: d :: r=>.mk l false [] (c :: d :: r)
theorem kb7 {a:List Pl} {x:Pl} (h:x.zp=true):zk (a ++ [x])=zk a:=by
 induction a with
 | nil=>simp [zk,h]
 | cons y a ih=>rw [rI,zk,zk,ih]
theorem jco {a:List Pl} {x:Pl} (h:x.zp=false):zk (a ++ [x])=a ++ [x]:=by
 induction a with
 | nil=>simp [zk,h]
 | cons y a ih=>rw [rI,zk,ih,if_neg (by simp)]
theorem zbf {l:Int} {cs:List Pl} {n:Nat} (hn:n<=cs.length) (h:zk cs=cs.take n):vab l cs=if n=0 then Pl.zero else if h1:n=1/\0 < cs.length then cs[0]'h1.2 else .mk l false [] (cs.take n):=by
 unfold vab;rw [h]
 match n,cs,hn with
 | 0,cs,_=>simp
 | 1,x :: cs,_=>simp
 | n+2,x :: y :: cs,_=>simp
theorem yau {cs:List Pl} {c:Pl} (h:c ∈ zk cs):c ∈ cs:=by
 induction cs with
 | nil=>exact h
 | cons x cs ih =>
   rw [zk] at h
   split at h
   · cases h
   · rcases pN.1 h with rfl | h
     · exact rS ..
     · exact rr _ (ih h)
theorem ybc {cs:List Pl} (hc:∀ c ∈ cs,c.Can):(zk cs).getLast? ≠ some Pl.zero:=by
 induction cs with
 | nil=>simp [zk]
 | cons x cs ih =>
   rw [zk]
   split
   · simp
   · rename_i h;intro e
     by_cases h1:zk cs=[]
     · rw [h1] at e;have e1:x=Pl.zero:=by simpa using e
       exact h ⟨(Pl.xj (hc x (by simp))).2 e1,h1⟩
     · obtain ⟨y,r,hr⟩:=List.exists_cons_of_ne_nil h1;rw [hr,List.getLast?_cons_cons,<- hr] at e;exact ih (fun c gY=>hc c (by simp [gY])) e
theorem qbj (ρ:Int->Rat) (l:Int) {cs:List Pl} (hc:∀ c ∈ cs,c.Can):je ρ l (zk cs)=je ρ l cs:=by
 induction cs with
 | nil=>rfl
 | cons x cs ih =>
   have h1:=ih fun c gY=>hc c (by simp [gY])
   rw [zk]
   split
   · rename_i h;rw [je,je,<- h1,h.2,(Pl.xj (hc x (by simp))).1 h.1,Pl.qt,je]
     grind
   · rw [je,je,h1]
theorem za7 {l:Int} {cs:List Pl} (h0:0 < l) (h4:l<=4) (hk:uq l cs):(vab l cs).Can/\(vab l cs).lv<=l/\∀ ρ,(vab l cs).val ρ=je ρ l cs:=by
 have hc:∀ c ∈ cs,c.Can:=fun c gY=>(hk.mem c gY).2
 have dW:=ybc hc;have aJ:=fun ρ=>qbj ρ l hc
 have dC:∀ c ∈ zk cs,c.lv < l/\c.Can:=fun c gY=>hk.mem c (yau gY)
 unfold vab
 split
 · rename_i e;rw [e] at aJ;exact ⟨Pl.qT,by show (0:Int)<=l; omega,fun ρ=>by rw [<- aJ ρ,Pl.qt,je]⟩
 · rename_i c e;rw [e] at aJ dC;have h1:=dC c (by simp);exact ⟨h1.2,by omega,fun ρ=>by rw [<- aJ ρ,je,je]; grind⟩
 · rename_i c d r e;rw [e] at aJ dC dW;exact ⟨wa8 h0 h4 (by simp) (waf dC) dW,uv _,fun ρ=>by rw [<- aJ ρ,Pl.mk_val ρ _ _ _ h0 h4]⟩
set_option maxRecDepth 100000
set_option maxHeartbeats 8000000
open Go.RowKit
def xaa : List Int -> Int
 | []=>0
 | z :: r=>z+xaa r
def inr : List Int -> Nat
 | []=>0
 | z :: r=>z.natAbs+inr r
theorem jca (a b:List Int):xaa (a ++ b)=xaa a+xaa b:=by
 induction a with
 | nil=>simp [xaa]
 | cons x a ih=>rw [rI,xaa,xaa,ih]; omega
theorem zct (l:List Int) (k:Nat) (h:k < l.length):xaa (l.take (k+1))=xaa (l.take k)+l[k]:=by
 rw [pC h,jca]; simp [xaa]
theorem uc4 (l:List Int) (k:Nat):(xaa (l.take k)).natAbs<=inr l:=by
 induction l generalizing k with
 | nil=>simp [xaa,inr]
 | cons x l ih =>
   cases k with
   | zero=>simp [xaa]
   | succ k =>
     rw [Sh,xaa,inr];have:=ih k;omega
theorem ydd {l:List Int} {z:Int} (h:z ∈ l):z.natAbs<=inr l:=by
 induction l with
 | nil=>cases h
 | cons x l ih =>
   rw [inr];rcases pN.1 h with rfl | h
   · omega
   · have:=ih h; omega
def IsV (w:World) (v:Value) (zs:List Int):Prop:=
 ∃ A c,v=.slice A zs.length c/\zs.length<=c/\c<=9223372036854775807/\∀ k (h:k < zs.length),∃ ad B n d,A=some ad/\ad.block < w.heap.size/\w.cell? (ad.add (k * 2))=some (.bool (decide (zs[k] < 0)))/\w.cell? ⟨(ad.add (k * 2)).block,(ad.add (k * 2)).off+1,none⟩=some (.slice B n d)/\jc w (.slice B n d) (dg zs[k].natAbs)
theorem IsV.ext {w w':World} {v:Value} {l:List Int} (h:IsV w v l) (hx:Ext w w'):IsV w' v l:=by
 obtain ⟨A,c,rfl,h1,h2,h3⟩:=h;refine ⟨A,c,rfl,h1,h2,fun k hk=>?_⟩;obtain ⟨ad,B,n,d,rfl,h4,h5,h6,h7⟩:=h3 k hk;have hb:(ad.add (k * 2)).block < w.heap.size:=by rw [ja]; exact h4
 exact ⟨ad,B,n,d,rfl,px h4 hx.size,(hx.cell hb).trans h5,(hx.cell (p:=⟨(ad.add (k * 2)).block,(ad.add (k * 2)).off+1,none⟩) hb).trans h6,h7.ext hx⟩
def gax (w:World) (g:Nat) (z:Int):Prop:=(∃ A n c,w.cell? ⟨g,0,none⟩=some (.bool (decide (z < 0)))/\w.cell? ⟨g,1,none⟩=some (.slice A n c)/\jc w (.slice A n c) (dg z.natAbs))/\∀ i,w.frozen? ⟨g,i,none⟩=false
theorem gax.ext {w w':World} {g:Nat} {z:Int} (h:gax w g z) (hx:Ext w w') (hg:g < w.heap.size):gax w' g z:=by
 obtain ⟨⟨A,n,c,h1,h2,h3⟩,h4⟩:=h;exact ⟨⟨A,n,c,(hx.cell (p:=⟨g,0,none⟩) hg).trans h1,(hx.cell (p:=⟨g,1,none⟩) hg).trans h2,h3.ext hx⟩,fun i=>(hx.frozen (p:=⟨g,i,none⟩) hg).trans (h4 i)⟩
theorem gax.set {w:World} {g:Nat} {z y:Int} {A:Option Addr} {n c:Nat} (h:gax w g z) (hy:jc w (.slice A n c) (dg y.natAbs)):gax ((w.setCell ⟨g,0,none⟩ (.bool (decide (y < 0)))).setCell ⟨g,1,none⟩ (.slice A n c)) g y:=by
 obtain ⟨⟨B,m,d,h1,h2,-⟩,h4⟩:=h;have e1:(w.setCell ⟨g,0,none⟩ (.bool (decide (y < 0)))).cell? ⟨g,1,none⟩=some (.slice B m d):=by rw [ph _ _ _ _ (by simp)]; exact h2
 refine ⟨⟨A,n,c,?_,pP _ _ _ e1,(hy.box h1 rfl _).box e1 rfl _⟩,fun i=>?_⟩
 · rw [ph _ _ _ _ (by simp)]; exact pP _ _ _ h1
 · rw [rm,rm]; exact h4 i
theorem zda {w:World} {v:Value} {zs:List Int} {D:Nat} (h:IsV w v zs) (hn:inr zs < B32 ^ D) (hD:D<=17592186044000):Calls Tryz.prog 62 #[v] w (gai (xaa zs) w):=by
 have HH:=hid h;obtain ⟨A,c,rfl,h1,h2,-⟩:=h;have HL:Hid (∀ k,(dg (xaa (zs.take k)).natAbs).length<=D):=hid (fun k=>yf (sB (uc4 zs k) hn));have HZ:Hid (∀ k (hk:k < zs.length),(dg zs[k].natAbs).length<=D):=hid (fun k hk=>yf (sB (ydd (pt hk)) hn));clear hn;obtain ⟨W,hW⟩:=n_m ((w.alloc (.cells #[.bool false,.slice none 0 0] 30)).alloc (.cells #[.bool false,.slice none 0 0] 30));have ai:Ext w W:=by rw [<- hW]; exact ((Ext.refl w).alloc _).alloc _
 have dG:W.heap.size=w.heap.size+1+1:=by rw [<- hW]; simp
 have bF:gax W w.heap.size 0:=by
  rw [<- hW];refine ⟨⟨none,0,0,by simp [go_sem],by simp [go_sem],by rw [Tk,zo]; exact jc.nil _⟩,fun i=>by simp [go_sem]⟩
 have dE:gax W (w.heap.size+1) 0:=by
  rw [<- hW];refine ⟨⟨none,0,0,by simp [go_sem],by simp [go_sem],by rw [Tk,zo]; exact jc.nil _⟩,fun i=>by simp [go_sem]⟩
 have aG:=hid ai;have dH:=hid bF;have xW:=hid dE;have HW:=hid hW;clear ai bF dE hW;go_enter Tryz.func62,Tryz.ntmps62;go_wp2_with fail;rw [HW.out];clear HW
 go_loopw [9] (fun iv wr=>∃ k:Nat,k<=zs.length/\iv=.int .i64 k/\Hid (Ext w wr/\W.heap.size<=wr.heap.size/\gax wr w.heap.size 0/\gax wr (w.heap.size+1) (xaa (zs.take k)))) (fun iv _=>zs.length - (intOf iv).toNat)
 case atStart=>exact ⟨0,pZ _,rfl,⟨aG.out,pj _,dH.out,xW.out⟩⟩
 case round =>
  obtain ⟨k,hk,rfl,⟨hx,oH,hi1,KI⟩⟩:=hrel;have HX:=hid hx;have Jt:=hid hi1;have rH:=hid KI;clear hx hi1
  by_cases af:k < zs.length
  · obtain ⟨A',c',e',-,-,h3⟩:=HH.out.ext HX.out;injection e' with e1 e2 e3
    obtain ⟨ad,B,n,d,e4,hb,c0,c1,wS⟩:=h3 k af;obtain rfl:A=some ad:=e1.trans e4;obtain ⟨⟨SA,sn,sc,s0,s1,hs⟩,sf⟩:=KI;obtain ⟨U,hU⟩:=n_m (wr.alloc (.cells #[.bool (decide (zs[k] < 0)),.slice B n d] 30));have kY:Ext wr U:=by rw [<- hU]; exact (Ext.refl _).alloc _
    have XJ:U.heap.size=wr.heap.size+1:=by rw [<- hU]; simp
    have u0:U.cell? ⟨wr.heap.size,0,none⟩=some (.bool (decide (zs[k] < 0))):=by rw [<- hU]; simp [go_sem]
    have u1:U.cell? ⟨wr.heap.size,1,none⟩=some (.slice B n d):=by rw [<- hU]; simp [go_sem]
    have s0':=(kY.cell (p:=⟨w.heap.size+1,0,none⟩) (by show w.heap.size+1 < _; omega)).trans s0;have s1':=(kY.cell (p:=⟨w.heap.size+1,1,none⟩) (by show w.heap.size+1 < _; omega)).trans s1;have DX:=hid (gcf _ _ (xaa (zs.take k)) zs[k] D D U ⟨_,_,_,rfl,hs.ext kY,by rw [jg,xaq],HL.out k⟩ ⟨_,_,_,rfl,wS.ext kY,by rw [jg,xaq],HZ.out k af⟩ (by omega));have dS:=hid (zct zs k af);have MS:=hid kY;clear h3 e1 e3 e4 wS hs kY;generalize xaa (zs.take k)=S at *;generalize zs[k]=z at *;go_wp2_with fail;clear hU u0 u1 s0 s1 s0' s1' c0 c1;refine DX.out.mono ?_;rintro e w2 ⟨z2,rfl,⟨y2,rfl,m2⟩,x2⟩;obtain ⟨C2,k2,rfl,-⟩:=id m2;have jF:=x2.size;have wU:=rH.out.ext (MS.out.trans x2) (by omega);have HIB:=hid (wU.set m2);have adt:Hid (gax ((w2.setCell ⟨w.heap.size+1,0,none⟩ (.bool (decide (S+z < 0)))).setCell ⟨w.heap.size+1,1,none⟩ (.slice C2 (dg (S+z).natAbs).length k2)) w.heap.size 0):=by
     obtain ⟨⟨F,m,f,f0,f1,f2⟩,ff⟩:=Jt.out.ext (MS.out.trans x2) (by omega);obtain ⟨⟨G,gm,gf,g0,g1,-⟩,-⟩:=wU;have e1:(w2.setCell ⟨w.heap.size+1,0,none⟩ (.bool (decide (S+z < 0)))).cell? ⟨w.heap.size+1,1,none⟩=some (.slice G gm gf):=by rw [ph _ _ _ _ (by simp)]; exact g1
     exact ⟨⟨F,m,f,by rw [ph _ _ _ _ (by simp),ph _ _ _ _ (by simp)]; exact f0,by rw [ph _ _ _ _ (by simp),ph _ _ _ _ (by simp)]; exact f1,(f2.box g0 rfl _).box e1 rfl _⟩,fun i=>by rw [rm,rm]; exact ff i⟩
    have Dl:Hid (Ext w ((w2.setCell ⟨w.heap.size+1,0,none⟩ (.bool (decide (S+z < 0)))).setCell ⟨w.heap.size+1,1,none⟩ (.slice C2 (dg (S+z).natAbs).length k2))):=hid (((HX.out.trans (MS.out.trans x2)).setCell (by show w.heap.size<=w.heap.size+1; omega) _).setCell (by show w.heap.size<=w.heap.size+1; omega) _);obtain ⟨⟨G,gm,gf,g0,g1,-⟩,gff⟩:=wU;clear x2 m2 DX Jt rH sf;go_wp2_with fail
    go_roundw
    case rel=>exact ⟨k+1,by omega,by go_num,⟨Dl.out,by simp [World.setCell]; omega,adt.out,by rw [dS.out]; exact HIB.out⟩⟩
    case measure=>simp [intOf]; omega
  · have dh:k=zs.length:=by omega
    obtain ⟨⟨SA,sn,sc,s0,s1,hs⟩,sf⟩:=rH.out;obtain ⟨⟨F,m,f,f0,f1,f2⟩,ff⟩:=Jt.out;rw [dh,pQ] at s0 hs;have HF:=hid (yx (g:=w.heap.size) (z:=xaa zs) HX.out (pj _) f0 f1 rfl rfl ⟨_,rfl,hs⟩);clear dh hs KI Jt rH;generalize xaa zs=S at *;go_wp2_with fail;exact bodyPost_ret (v:=.agg #[.bool (decide (S < 0)),.slice SA sn sc]) (by simp [results,Tryz.results62,go_sem,f0,f1]) rfl HF.out
def zaa (l:List Pl):Pl:=Pl.j8 (l.flatMap fun p=>p.qu Mo.one)
def yz (ρ : Int -> Rat) : List Pl -> Rat
 | []=>0
 | p :: r=>p.val ρ+yz ρ r
def lnr : List Pl -> Nat
 | []=>0
 | p :: r=>p.nr+lnr r
theorem kax (l:List Pl):(zaa l).Can:=Pl.jj _
theorem zbc (ρ:Int->Rat) (a b:List Pl):yz ρ (a ++ b)=yz ρ a+yz ρ b:=by
 induction a with
 | nil=>simp [yz]; grind
 | cons x a ih=>rw [rI,yz,yz,ih]; grind
theorem jax (ρ:Int->Rat) (l:List Pl):(zaa l).val ρ=yz ρ l:=by
 unfold zaa;rw [Pl.ke ρ (fun x hx=>by
  obtain ⟨p,-,hp⟩:=rL.1 hx
  exact p.qz x hp)]
 induction l with
 | nil=>rfl
 | cons p l ih=>rw [th,zaj,Pl.ze,yz,ih]
theorem kbl (a b:List Pl):lnr (a ++ b)=lnr a+lnr b:=by
 induction a with
 | nil=>simp [lnr]
 | cons x a ih=>rw [rI,lnr,lnr,ih]; omega
theorem wcf {l:List Pl} {n:Int} (hc:∀ p ∈ l,p.Can/\p.lv<=n) (h0:0<=n) (hn:n<=4):(zaa l).lv<=n:=by
 obtain ⟨k,rfl⟩:∃ k:Nat,n=k:=⟨n.toNat,by omega⟩;refine Pl.ZD (by omega) (fun x hx=>?_) fun x hx i hi Ig=>?_
 · obtain ⟨p,-,hp⟩:=rL.1 hx;exact p.qz x hp
 · obtain ⟨p,kE,hp⟩:=rL.1 hx;exact Pl.yo (hc p kE).1 (hc p kE).2 x hp i hi Ig
theorem yc8 (p q:Pl):zaa [p,q]=p.add q:=Pl.qv (kax _) (Pl.yk _ _) fun ρ=>by rw [jax,Pl.yi,yz,yz,yz]; grind
def stp (a:Int × Nat) (p:Pl):Int × Nat:=
 if p.lv=(if a.1 < p.lv then (p.lv,0) else a).1 then ((if a.1 < p.lv then (p.lv,0) else a).1,max (if a.1 < p.lv then (p.lv,0) else a).2 p.cs.length) else (if a.1 < p.lv then (p.lv,0) else a)
theorem vbw {a:Int × Nat} {p:Pl} (h:a.1 < p.lv):stp a p=(p.lv,p.cs.length):=by
 unfold stp; rw [if_pos h,if_pos rfl]; simp
theorem ubw {a:Int × Nat} {p:Pl} (h:p.lv=a.1):stp a p=(a.1,max a.2 p.cs.length):=by
 unfold stp; rw [if_neg (show ¬ a.1 < p.lv by omega),if_pos h]
theorem kbw {a:Int × Nat} {p:Pl} (h:p.lv < a.1):stp a p=a:=by
 unfold stp; rw [if_neg (show ¬ a.1 < p.lv by omega),if_neg (by omega)]
def uag (l:List Pl):Int × Nat:=l.foldl stp (0,0)
theorem kcn (l:List Pl) (k:Nat) (h:k < l.length):uag (l.take (k+1))=stp (uag (l.take k)) l[k]:=by
 unfold uag;rw [pC h,T9]
 rfl
theorem vcn (l:List Pl) (M:Nat) (hl:∀ p ∈ l,0<=p.lv/\p.lv<=4/\p.cs.length<=M/\(0 < p.lv->2<=p.cs.length)) :
 (0<=(uag l).1/\(uag l).1<=4/\(uag l).2<=M/\(0 < (uag l).1->2<=(uag l).2))/\∀ p ∈ l,p.lv<=(uag l).1/\(p.lv=(uag l).1->p.cs.length<=(uag l).2):=by
 have key:∀ (l:List Pl) (a:Int × Nat),(0<=a.1/\a.1<=4/\a.2<=M/\(0 < a.1->2<=a.2))->(∀ p ∈ l,0<=p.lv/\p.lv<=4/\p.cs.length<=M/\(0 < p.lv->2<=p.cs.length)) ->
  (0<=(l.foldl stp a).1/\(l.foldl stp a).1<=4/\(l.foldl stp a).2<=M/\(0 < (l.foldl stp a).1->2<=(l.foldl stp a).2))/\(a.1 < (l.foldl stp a).1\/(a.1=(l.foldl stp a).1/\a.2<=(l.foldl stp a).2))/\∀ p ∈ l,p.lv<=(l.foldl stp a).1/\(p.lv=(l.foldl stp a).1->p.cs.length<=(l.foldl stp a).2):=by
  intro l
  induction l with
  | nil=>intro a ha _; exact ⟨ha,.inr ⟨rfl,pj _⟩,by simp⟩
  | cons p l ih =>
    intro a ha hp;have h1:=hp p (by simp);have hs:(0<=(stp a p).1/\(stp a p).1<=4/\(stp a p).2<=M/\(0 < (stp a p).1->2<=(stp a p).2))/\(a.1 < (stp a p).1\/(a.1=(stp a p).1/\a.2<=(stp a p).2))/\(p.lv < (stp a p).1\/(p.lv=(stp a p).1/\p.cs.length<=(stp a p).2)):=by
     rcases wj a.1 p.lv with h | h | h
     · rw [vbw h]; exact ⟨⟨h1.1,h1.2.1,h1.2.2.1,h1.2.2.2⟩,.inl h,.inr ⟨rfl,pj _⟩⟩
     · rw [ubw h.symm]; refine ⟨⟨ha.1,ha.2.1,by simp only; omega,fun h0=>?_⟩,.inr ⟨rfl,by simp only; omega⟩,.inr ⟨h.symm,by simp only; omega⟩⟩;have:=ha.2.2.2 h0;simp only;omega
     · rw [kbw h]; exact ⟨ha,.inr ⟨rfl,pj _⟩,.inl h⟩
    obtain ⟨g1,g2,g3⟩:=ih (stp a p) hs.1 (fun q hq=>hp q (by simp [hq]));rw [Rc];generalize l.foldl stp (stp a p)=r at *;generalize stp a p=s at *;refine ⟨g1,by omega,fun q hq=>?_⟩;rcases pN.1 hq with rfl | hq
    · omega
    · exact g3 q hq
 obtain ⟨h1,-,h3⟩:=key l (0,0) ⟨by simp,by simp,by simp,by simp⟩ hl;exact ⟨h1,h3⟩
theorem gc9 (l:List Pl) (h:0 < (uag l).1):∃ p ∈ l,p.lv=(uag l).1:=by
 have key:∀ (l:List Pl) (a:Int × Nat),(l.foldl stp a).1=a.1\/∃ p ∈ l,p.lv=(l.foldl stp a).1:=by
  intro l
  induction l with
  | nil=>intro a; exact .inl rfl
  | cons p l ih =>
    intro a;rw [Rc];rcases ih (stp a p) with h1 | ⟨q,hq,h1⟩
    · rcases wj a.1 p.lv with h | h | h
      · exact .inr ⟨p,by simp,by rw [h1,vbw h]⟩
      · exact .inr ⟨p,by simp,by rw [h1,ubw h.symm,h]⟩
      · exact .inl (by rw [h1,kbw h])
    · exact .inr ⟨q,by simp [hq],h1⟩
 rcases key l (0,0) with h1 | h1
 · have:(uag l).1=0:=h1;omega
 · exact h1
def partsOf (lv:Int) (i:Nat) (p:Pl):List Pl:=if p.lv=lv then (p.cs[i]?).toList else if p.lv < lv/\i=0 then [p] else []
def xn (lv:Int) (i:Nat) (l:List Pl):List Pl:=l.flatMap (partsOf lv i)
theorem ub9 (lv:Int) (i:Nat) (l:List Pl) (k:Nat) (h:k < l.length):xn lv i (l.take (k+1))=xn lv i (l.take k) ++ partsOf lv i l[k]:=by
 unfold xn;rw [pC h,Th];simp
theorem zbe (lv:Int) (i:Nat) (p:Pl):(partsOf lv i p).length<=1:=by
 unfold partsOf
 split
 · cases p.cs[i]? <;> simp
 · split <;> simp
theorem ybl (lv:Int) (i:Nat) (l:List Pl):(xn lv i l).length<=l.length:=by
 induction l with
 | nil=>simp [xn]
 | cons p l ih =>
   unfold xn at ih ⊢;rw [th,rh,pH];have:=zbe lv i p;omega
theorem wbd {lv:Int} {i:Nat} {p c:Pl} (hp:p.Can) (h0:0 < lv) {E:Nat} (hE:p.ex E) (h:c ∈ partsOf lv i p):c.Can/\c.lv < lv/\c.ex E/\c.nr<=p.nr:=by
 unfold partsOf at h
 split at h
 · rename_i hl;obtain ⟨l,n,d,cs⟩:=p
   change l=lv at hl
   subst hl;have hc:c ∈ cs:=by
    simp only [Pl.cs,Option.mem_toList] at h;exact te h
   have hk:=(hp.kids h0).2.2.2.1.mem c hc;rw [Pl.ex] at hE;exact ⟨hk.2,hk.1,qaw (hE.resolve_left (by omega)).2 c hc,by rw [Pl.nr,if_neg (by omega)]; exact vbg hc⟩
 · split at h
   · rename_i hl;obtain rfl:=pD.1 h;exact ⟨hp,hl.1,hE,pj _⟩
   · cases h
theorem gao {lv:Int} {i:Nat} {l:List Pl} {c:Pl} (h0:0 < lv) {E:Nat} (hl:∀ p ∈ l,p.Can/\p.ex E) (h:c ∈ xn lv i l):c.Can/\c.lv < lv/\c.ex E:=by
 obtain ⟨p,hp,hc⟩:=rL.1 h;have:=wbd (hl p hp).1 h0 (hl p hp).2 hc;exact ⟨this.1,this.2.1,this.2.2.1⟩
theorem jcr {lv:Int} {i:Nat} {l:List Pl} (h0:0 < lv) {E:Nat} (hl:∀ p ∈ l,p.Can/\p.ex E):lnr (xn lv i l)<=lnr l:=by
 induction l with
 | nil=>simp [xn,lnr]
 | cons p l ih =>
   have h1:=ih fun q hq=>hl q (by simp [hq])
   unfold xn at h1 ⊢;rw [th,kbl,lnr];have h2:lnr (partsOf lv i p)<=p.nr:=by
    have hm:=fun c hc=>wbd (c:=c) (hl p (by simp)).1 h0 (hl p (by simp)).2 (i:=i) hc
    have hlen:=zbe lv i p;generalize partsOf lv i p=q at *
    match q,hlen with
    | [],_=>simp [lnr]
    | [c],_=>have:=(hm c (by simp)).2.2.2; simpa [lnr] using this
   omega
def hsm (x : Rat) : (Nat -> Rat) -> Nat -> Rat
 | _,0=>0
 | f,n+1=>f 0+x * hsm x (fun i=>f (i+1)) n
theorem ycf (x:Rat) (n:Nat):∀ f g:Nat->Rat,hsm x (fun i=>f i+g i) n=hsm x f n+hsm x g n:=by
 induction n with
 | zero=>intro f g; simp [hsm]; grind
 | succ n ih=>intro f g; simp only [hsm]; rw [ih (fun i=>f (i+1)) (fun i=>g (i+1))]; grind
theorem waw (x:Rat) (n:Nat):hsm x (fun _=>0) n=0:=by
 induction n with
 | zero=>rfl
 | succ n ih=>simp only [hsm,ih]; grind
theorem ubr (ρ:Int->Rat) (l:Int):∀ (n:Nat) (g:Nat->Pl),je ρ l ((List.range n).map g)=hsm (ρ l) (fun i=>(g i).val ρ) n:=by
 intro n
 induction n with
 | zero=>intro g; simp [je,hsm]
 | succ n ih =>
   intro g;rw [SO,ss,Pa,je,hsm,<- ih (fun i=>g (i+1))]
   rfl
theorem xc5 (ρ:Int->Rat) (l:Int):∀ (cs:List Pl) (n:Nat),cs.length<=n->hsm (ρ l) (fun i=>yz ρ (cs[i]?).toList) n=je ρ l cs:=by
 intro cs
 induction cs with
 | nil =>
   intro n _;rw [je,<- waw (ρ l) n]
   congr 1
 | cons c cs ih =>
   intro n hn;obtain ⟨m,rfl⟩:∃ m,n=m+1:=⟨n - 1,by simp at hn; omega⟩;rw [hsm,je,<- ih m (by simpa using hn)];simp [yz]
   grind
theorem kcm {l:List Pl} {lv:Int} {n E:Nat} (h0:0 < lv) (h4:lv<=4) (hn:1<=n) (hl:∀ p ∈ l,p.Can/\p.ex E) (fF:∀ p ∈ l,p.lv<=lv/\(p.lv=lv->p.cs.length<=n)) :
 zaa l=vab lv ((List.range n).map fun i=>zaa (xn lv i l)):=by
 have hk:uq lv ((List.range n).map fun i=>zaa (xn lv i l)):=waf fun c hc=>by
  obtain ⟨i,-,rfl⟩:=pS.1 hc;have h1:=wcf (l:=xn lv i l) (n:=lv - 1) (fun p hp=>⟨(gao h0 hl hp).1,by have:=(gao h0 hl hp).2.1; omega⟩) (by omega) (by omega);exact ⟨by omega,kax _⟩
 obtain ⟨g1,g2,g3⟩:=za7 h0 h4 hk;refine Pl.qv (kax _) g1 fun ρ=>?_
 rw [g3,ubr,jax];simp only [jax];clear g1 g2 g3 hk
 induction l with
 | nil =>
   rw [yz,<- waw (ρ lv) n]
   congr 1
 | cons p l ih =>
   rw [yz,ih (fun q hq=>hl q (by simp [hq])) (fun q hq=>fF q (by simp [hq]))];have e1:(fun i=>yz ρ (xn lv i (p :: l)))=fun i=>yz ρ (partsOf lv i p)+yz ρ (xn lv i l):=by
    funext i
    unfold xn;rw [th,zbc]
   rw [e1,ycf]
   congr 1
   obtain ⟨h1,h2⟩:=fF p (by simp)
   by_cases he:p.lv=lv
   · have e2:(fun i=>yz ρ (partsOf lv i p))=fun i=>yz ρ (p.cs[i]?).toList:=by
      funext i
      unfold partsOf;rw [if_pos he]
     rw [e2,xc5 ρ lv p.cs n (h2 he)];obtain ⟨l',ng,d,cs⟩:=p
     change l'=lv at he
     subst he;exact Pl.mk_val ρ _ _ _ h0 h4
   · obtain ⟨m,rfl⟩:∃ m,n=m+1:=⟨n - 1,by omega⟩;have e2:(fun i=>yz ρ (partsOf lv i p))=fun i=>if i=0 then p.val ρ else 0:=by
      funext i
      unfold partsOf;rw [if_neg he]
      by_cases hi:i=0
      · rw [if_pos ⟨by omega,hi⟩,if_pos hi,yz,yz]; grind
      · rw [if_neg (by omega),if_neg hi,yz]
     rw [e2,hsm];have e3:(fun i=>if i+1=0 then p.val ρ else 0)=fun _:Nat=>(0:Rat):=by
      funext i
      rw [if_neg (by omega)]
     rw [if_pos rfl,e3,waw]
     grind
theorem kcw {l:List Pl} (hl:∀ p ∈ l,p.Can/\p.lv=0):zaa l=Pl.const (xaa (l.map Pl.z)):=Pl.qv (kax _) (qp _) fun ρ=>by
 rw [jax,Pl.qS]
 induction l with
 | nil=>simp [yz,xaa]
 | cons p l ih =>
   have h1:=hl p (by simp);rw [yz,ih fun q hq=>hl q (by simp [hq]),ss,xaa];have h2:p.val ρ=(Pl.const p.z).val ρ:=congrArg (fun p=>p.val ρ) (yah h1.1 h1.2);rw [h2,Pl.qS]
   push_cast
   rfl
theorem gdi {l:List Pl} (hl:∀ p ∈ l,p.Can/\p.lv=0):inr (l.map Pl.z)=lnr l:=by
 induction l with
 | nil=>rfl
 | cons p l ih =>
   have h1:=hl p (by simp);rw [ss,inr,lnr,ih fun q hq=>hl q (by simp [hq])];have h2:=congrArg Pl.nr (yah h1.1 h1.2);rw [Pl.jx] at h2;rw [h2]
end Go.Proofs.YtcepajijiabkmaaGreat
