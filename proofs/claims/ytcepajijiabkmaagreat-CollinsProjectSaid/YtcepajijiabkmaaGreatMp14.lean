/- Polynomials in four variables, plain: how sums and products lie level by level. No program in sight. -/
import Derived.Test.YtcepajijiabkmaaGreatMp13
set_option linter.unusedSimpArgs false
set_option linter.unusedVariables false
namespace Go.Proofs.YtcepajijiabkmaaGreat
open Lib (hid)
theorem Pl.mul_zero {p q:Pl} (hp:p.Can) (hq:q.Can) (h:∀ ρ,p.val ρ * q.val ρ=0):p=Pl.zero\/q=Pl.zero:=by
 obtain ⟨E,hE⟩:=Mo.le_sup (xg (p.qt Mo.one) ++ xg (q.qt Mo.one));have key:∀ r:Pl,r.Can->(∀ x ∈ xg (r.qt Mo.one),x.2.le E)->r ≠ Pl.zero->∀ B,zg (xg (r.qt Mo.one))+1<=B->r.val (kro (E+1) B) ≠ 0:=by
  intro r hr hle ax B hB h0;rw [<- Pl.ze,<- xar _ (yae r.qv),ybt] at h0;refine yca (vz _) (fun x hx=>(qw hx).1) E hle B hB (fun e=>ax ?_) (by exact_mod_cast h0);rw [<- Pl.q7 hr];unfold Pl.nf Pl.jz;rw [e]
  rfl
 by_cases h1:p=Pl.zero
 · exact .inl h1
 by_cases h2:q=Pl.zero
 · exact .inr h2
 exfalso
 have h3:=h (kro (E+1) (zg (xg (p.qt Mo.one))+zg (xg (q.qt Mo.one))+1));rcases Rat.mul_eq_zero.1 h3 with h4 | h4
 · exact key p hp (fun x hx=>hE x (List.mem_append_left _ hx)) h1 _ (by omega) h4
 · exact key q hq (fun x hx=>hE x (List.mem_append_right _ hx)) h2 _ (by omega) h4
theorem Pl.mul_eq_zero {p q:Pl} (hp:p.Can) (hq:q.Can) (h:p.mul q=Pl.zero):p=Pl.zero\/q=Pl.zero:=
 Pl.mul_zero hp hq fun ρ=>by rw [<- Pl.qD,h,Pl.qu]
theorem Pl.XS {l:Sp} {n:Nat} (iy:n<=4) (nD:∀ x ∈ l,x.2.qe) (h:∀ x ∈ l,∀ i:Nat,n < i->i<=4->x.2.get i=0):(Pl.jz l).lv<=n:=by
 have hz:∀ i:Nat,0 < i->i<=4->Mo.one.get i=0:=fun i h1 h2=>by
  rcases (show i=1\/i=2\/i=3\/i=4 by omega) with rfl | rfl | rfl | rfl <;> rfl
 have ha:va9 n Mo.one (xg l):=fun x hx i h1 h2=>by
  obtain ⟨-,y,hy,e⟩:=qw hx;rw [<- e,h y hy i h1 h2,hz i (by omega) h2]
 have Rk:∀ x ∈ xg l,x.2.qe:=fun x hx=>(qw hx).1
 obtain ⟨h1,h2⟩:=zcb n iy (xg l) Mo.one (vz l) Rk ha (fun i hi pY=>hz i hi (by omega));have h3:=vbf n iy (xg l) Mo.one (vz l) Rk ha (fun i hi pY=>hz i hi (by omega));have h4:bld n (xg l)=Pl.jz l:=Pl.Km h1 (Pl.jj l) fun k=>by
  rw [h3,Pl.J0,vam]
 rw [<- h4];exact h2
theorem Pl.yo {p:Pl} (hp:p.Can) {n:Nat} (h:p.lv<=n):∀ x ∈ p.qt Mo.one,∀ i:Nat,n < i->i<=4->x.2.get i=0:=fun x hx i h1 h2=>by
 rw [Pl.zj p Mo.one n hp h x hx i h1 h2];rcases (show i=1\/i=2\/i=3\/i=4 by omega) with rfl | rfl | rfl | rfl <;> rfl
theorem Mo.Zs (m n:Mo) (i:Int):(m.mul n).get i=m.get i+n.get i:=by
 unfold Mo.mul Mo.get
 split <;> (try split) <;> (try split) <;> rfl
theorem Pl.vR {p q:Pl} (hp:p.Can) (hq:q.Can) {n:Int} (h1:p.lv<=n) (h2:q.lv<=n) (hn:n<=4):(p.mul q).lv<=n:=by
 have h0:=hp.qq.1;obtain ⟨k,rfl⟩:∃ k:Nat,n=k:=⟨n.toNat,by omega⟩;refine Pl.XS (by omega) (yba p.qv q.qv) fun x hx i hi H6=>?_
 obtain ⟨y,hy,z,hz,rfl⟩:=xbd hx;rw [Mo.Zs,Pl.yo hp h1 y hy i hi H6,Pl.yo hq h2 z hz i hi H6]
 rfl
theorem Pl.qbF {p q:Pl} (hp:p.Can) (hq:q.Can) {n:Int} (h1:p.lv<=n) (h2:q.lv<=n) (hn:n<=4):(p.add q).lv<=n:=by
 have h0:=hp.qq.1;obtain ⟨k,rfl⟩:∃ k:Nat,n=k:=⟨n.toNat,by omega⟩;refine Pl.XS (by omega) (fun x hx=>(rj.1 hx).elim (p.qv x) (q.qv x)) fun x hx i hi H6=>?_
 rcases rj.1 hx with hx | hx
 · exact Pl.yo hp h1 x hx i hi H6
 · exact Pl.yo hq h2 x hx i hi H6
theorem Pl.mul_comm (p q:Pl):p.mul q=q.mul p:=Pl.qz (Pl.q8 _ _) (Pl.q8 _ _) fun ρ=>by rw [Pl.qD,Pl.qD]; grind
theorem Pl.vQ (p:Pl):Pl.zero.mul p=Pl.zero:=Pl.jN (Pl.q8 _ _) fun ρ=>by rw [Pl.qD,Pl.qu]; grind
theorem Pl.Kg (p:Pl):p.mul Pl.zero=Pl.zero:=by rw [Pl.mul_comm,Pl.vQ]
theorem Pl.Q6 (a b:Int):(Pl.const a).mul (Pl.const b)=Pl.const (a * b):=Pl.qz (Pl.q8 _ _) (zt _) fun ρ=>by
 rw [Pl.qD,Pl.qT,Pl.qT,Pl.qT]; push_cast; rfl
theorem gaf {p:Pl} (h:p.Can) (hl:p.lv=0):p=Pl.const p.z:=by
 obtain ⟨l,n,d,cs⟩:=p
 change l=0 at hl
 subst hl;unfold Pl.Can at h;rcases h with ⟨-,rfl,hd,hn⟩ | h
 · show _=Pl.const (sgn n (val d));unfold Pl.const;rw [ku,<- hd]
   congr 1
   cases n
   · simp [sgn]
   · have h1:d ≠ []:=fun e=>by have:=hn e; cases this
     have h2:val d ≠ 0:=fun e=>h1 (by rw [hd,e,qm])
     simp only [sgn];simp;omega
 · omega
theorem vbo (ρ:Int->Rat) (l:Int) (f:Pl->Pl) (r:Rat) (cs:List Pl) (h:∀ c ∈ cs,(f c).val ρ=c.val ρ * r):ve ρ l (cs.map f)=ve ρ l cs * r:=by
 induction cs with
 | nil=>simp [ve]
 | cons x cs ih =>
   simp only [sr,ve];rw [h x (by simp),ih fun c hc=>h c (by simp [hc])]
   grind
theorem Pl.mk_val (ρ:Int->Rat) {l:Int} (n:Bool) (d:List Nat) (cs:List Pl) (h0:0 < l) (h4:l<=4):(Pl.mk l n d cs).val ρ=ve ρ l cs:=by
 rw [Pl.val,if_neg (by omega),if_neg (by omega)]
theorem wa6 {l:Int} {cs:List Pl} (h0:0 < l) (h4:l<=4) (h2:2<=cs.length) (hk:qp l cs) (hz:cs.getLast? ≠ some Pl.zero):(Pl.mk l false [] cs).Can:=by
 unfold Pl.Can;exact .inr ⟨by omega,h4,rfl,rfl,h2,hk,hz⟩
theorem Pl.qa0 {l:Int} {n:Bool} {d:List Nat} {cs:List Pl} {q:Pl} (hp:(Pl.mk l n d cs).Can) (hq:q.Can) (hl:q.lv < l) (hz:q ≠ Pl.zero):(Pl.mk l n d cs).mul q=.mk l false [] (cs.map fun c=>c.mul q):=by
 have lV:0 < l:=by have:=hq.qq.1; omega
 obtain ⟨rfl,rfl,h2,hk,dX⟩:=hp.kids lV;have ag:l<=4:=hp.qq.2;refine Pl.qz (Pl.q8 _ _) (wa6 lV ag (by rw [px]; exact h2) (zaf fun c hc=>?_) ?_) fun ρ=>?_
 · obtain ⟨c',lD,rfl⟩:=pZ.1 hc;have h3:=hk.mem c' lD;have:=Pl.vR (n:=l - 1) h3.2 hq (by omega) (by omega) (by omega);exact ⟨by omega,Pl.q8 _ _⟩
 · rw [List.getLast?_map];intro e;obtain ⟨c,hc,he⟩:=Option.map_eq_some_iff.1 e;rcases Pl.mul_eq_zero (hk.mem c (List.mem_of_getLast? hc)).2 hq he with h | h
   · rw [h] at hc; exact dX hc
   · exact hz h
 · rw [Pl.qD,Pl.mk_val ρ _ _ _ lV ag,Pl.mk_val ρ _ _ _ lV ag,vbo ρ l _ (q.val ρ) cs fun c _=>Pl.qD ρ c q]
theorem Pl.qaM {p q:Pl} (hp:p.Can) (hq:q.Can) (hl:q.lv < p.lv) (hz:q ≠ Pl.zero):p.mul q=.mk p.lv false [] (p.cs.map fun c=>c.mul q):=by
 obtain ⟨l,n,d,cs⟩:=p;exact Pl.qa0 hp hq hl hz
def zk : List Pl -> List Pl
 | []=>[]
 | c :: r=>if c.zp=true/\zk r=[] then [] else c :: zk r
def vaa (l:Int) (cs:List Pl):Pl:=
 match zk cs with
 | []=>Pl.zero
 | [c]=>c
 | c :: d :: r=>.mk l false [] (c :: d :: r)
theorem ub3 {a:List Pl} {x:Pl} (h:x.zp=true):zk (a ++ [x])=zk a:=by
 induction a with
 | nil=>simp [zk,h]
 | cons y a ih=>rw [rI,zk,zk,ih]
theorem ucj {a:List Pl} {x:Pl} (h:x.zp=false):zk (a ++ [x])=a ++ [x]:=by
 induction a with
 | nil=>simp [zk,h]
 | cons y a ih=>rw [rI,zk,ih,if_neg (by simp)]
theorem gbc {l:Int} {cs:List Pl} {n:Nat} (hn:n<=cs.length) (h:zk cs=cs.take n):vaa l cs=if n=0 then Pl.zero else if h1:n=1/\0 < cs.length then cs[0]'h1.2 else .mk l false [] (cs.take n):=by
 unfold vaa;rw [h]
 match n,cs,hn with
 | 0,cs,_=>simp
 | 1,x :: cs,_=>simp
 | n+2,x :: y :: cs,_=>simp
theorem gas {cs:List Pl} {c:Pl} (h:c ∈ zk cs):c ∈ cs:=by
 induction cs with
 | nil=>exact h
 | cons x cs ih =>
   rw [zk] at h
   split at h
   · cases h
   · rcases pQ.1 h with rfl | h
     · exact r5 ..
     · exact rz _ (ih h)
theorem wa9 {cs:List Pl} (hc:∀ c ∈ cs,c.Can):(zk cs).getLast? ≠ some Pl.zero:=by
 induction cs with
 | nil=>simp [zk]
 | cons x cs ih =>
   rw [zk]
   split
   · simp
   · rename_i h;intro e
     by_cases h1:zk cs=[]
     · rw [h1] at e;have e1:x=Pl.zero:=by simpa using e
       exact h ⟨(Pl.xj (hc x (by simp))).2 e1,h1⟩
     · obtain ⟨y,r,hr⟩:=List.exists_cons_of_ne_nil h1;rw [hr,List.getLast?_cons_cons,<- hr] at e;exact ih (fun c gU=>hc c (by simp [gU])) e
theorem kbg (ρ:Int->Rat) (l:Int) {cs:List Pl} (hc:∀ c ∈ cs,c.Can):ve ρ l (zk cs)=ve ρ l cs:=by
 induction cs with
 | nil=>rfl
 | cons x cs ih =>
   have h1:=ih fun c gU=>hc c (by simp [gU])
   rw [zk]
   split
   · rename_i h;rw [ve,ve,<- h1,h.2,(Pl.xj (hc x (by simp))).1 h.1,Pl.qu,ve]
     grind
   · rw [ve,ve,h1]
theorem qa5 {l:Int} {cs:List Pl} (h0:0 < l) (h4:l<=4) (hk:qp l cs):(vaa l cs).Can/\(vaa l cs).lv<=l/\∀ ρ,(vaa l cs).val ρ=ve ρ l cs:=by
 have hc:∀ c ∈ cs,c.Can:=fun c gU=>(hk.mem c gU).2
 have dX:=wa9 hc;have aJ:=fun ρ=>kbg ρ l hc
 have dB:∀ c ∈ zk cs,c.lv < l/\c.Can:=fun c gU=>hk.mem c (gas gU)
 unfold vaa
 split
 · rename_i e;rw [e] at aJ;exact ⟨Pl.qS,by show (0:Int)<=l; omega,fun ρ=>by rw [<- aJ ρ,Pl.qu,ve]⟩
 · rename_i c e;rw [e] at aJ dB;have h1:=dB c (by simp);exact ⟨h1.2,by omega,fun ρ=>by rw [<- aJ ρ,ve,ve]; grind⟩
 · rename_i c d r e;rw [e] at aJ dB dX;exact ⟨wa6 h0 h4 (by simp) (zaf dB) dX,ub _,fun ρ=>by rw [<- aJ ρ,Pl.mk_val ρ _ _ _ h0 h4]⟩
set_option maxRecDepth 100000
set_option maxHeartbeats 8000000
open Go.RowKit
def yz : List Int -> Int
 | []=>0
 | z :: r=>z+yz r
def inr : List Int -> Nat
 | []=>0
 | z :: r=>z.natAbs+inr r
theorem qb6 (a b:List Int):yz (a ++ b)=yz a+yz b:=by
 induction a with
 | nil=>simp [yz]
 | cons x a ih=>rw [rI,yz,yz,ih]; omega
theorem gcn (l:List Int) (k:Nat) (h:k < l.length):yz (l.take (k+1))=yz (l.take k)+l[k]:=by
 rw [pC h,qb6]; simp [yz]
theorem jcx (l:List Int) (k:Nat):(yz (l.take k)).natAbs<=inr l:=by
 induction l generalizing k with
 | nil=>simp [yz,inr]
 | cons x l ih =>
   cases k with
   | zero=>simp [yz]
   | succ k =>
     rw [Sc,yz,inr];have:=ih k;omega
theorem kc7 {l:List Int} {z:Int} (h:z ∈ l):z.natAbs<=inr l:=by
 induction l with
 | nil=>cases h
 | cons x l ih =>
   rw [inr];rcases pQ.1 h with rfl | h
   · omega
   · have:=ih h; omega
def IsV (w:World) (v:Value) (zs:List Int):Prop:=
 ∃ A c,v=.slice A zs.length c/\zs.length<=c/\c<=9223372036854775807/\∀ k (h:k < zs.length),∃ ad B n d,A=some ad/\ad.block < w.heap.size/\w.cell? (ad.add (k * 2))=some (.bool (decide (zs[k] < 0)))/\w.cell? ⟨(ad.add (k * 2)).block,(ad.add (k * 2)).off+1,none⟩=some (.slice B n d)/\jc w (.slice B n d) (dg zs[k].natAbs)
theorem IsV.ext {w w':World} {v:Value} {l:List Int} (h:IsV w v l) (hx:Ext w w'):IsV w' v l:=by
 obtain ⟨A,c,rfl,h1,h2,h3⟩:=h;refine ⟨A,c,rfl,h1,h2,fun k hk=>?_⟩;obtain ⟨ad,B,n,d,rfl,h4,h5,h6,h7⟩:=h3 k hk;have hb:(ad.add (k * 2)).block < w.heap.size:=by rw [ja]; exact h4
 exact ⟨ad,B,n,d,rfl,pw h4 hx.size,(hx.cell hb).trans h5,(hx.cell (p:=⟨(ad.add (k * 2)).block,(ad.add (k * 2)).off+1,none⟩) hb).trans h6,h7.ext hx⟩
def jaw (w:World) (g:Nat) (z:Int):Prop:=(∃ A n c,w.cell? ⟨g,0,none⟩=some (.bool (decide (z < 0)))/\w.cell? ⟨g,1,none⟩=some (.slice A n c)/\jc w (.slice A n c) (dg z.natAbs))/\∀ i,w.frozen? ⟨g,i,none⟩=false
theorem jaw.ext {w w':World} {g:Nat} {z:Int} (h:jaw w g z) (hx:Ext w w') (hg:g < w.heap.size):jaw w' g z:=by
 obtain ⟨⟨A,n,c,h1,h2,h3⟩,h4⟩:=h;exact ⟨⟨A,n,c,(hx.cell (p:=⟨g,0,none⟩) hg).trans h1,(hx.cell (p:=⟨g,1,none⟩) hg).trans h2,h3.ext hx⟩,fun i=>(hx.frozen (p:=⟨g,i,none⟩) hg).trans (h4 i)⟩
theorem jaw.set {w:World} {g:Nat} {z y:Int} {A:Option Addr} {n c:Nat} (h:jaw w g z) (hy:jc w (.slice A n c) (dg y.natAbs)):jaw ((w.setCell ⟨g,0,none⟩ (.bool (decide (y < 0)))).setCell ⟨g,1,none⟩ (.slice A n c)) g y:=by
 obtain ⟨⟨B,m,d,h1,h2,-⟩,h4⟩:=h;have e1:(w.setCell ⟨g,0,none⟩ (.bool (decide (y < 0)))).cell? ⟨g,1,none⟩=some (.slice B m d):=by rw [ph _ _ _ _ (by simp)]; exact h2
 refine ⟨⟨A,n,c,?_,pN _ _ _ e1,(hy.box h1 rfl _).box e1 rfl _⟩,fun i=>?_⟩
 · rw [ph _ _ _ _ (by simp)]; exact pN _ _ _ h1
 · rw [rm,rm]; exact h4 i
theorem jc4 {w:World} {v:Value} {zs:List Int} {D:Nat} (h:IsV w v zs) (hn:inr zs < B32 ^ D) (hD:D<=17592186044000):Calls Tryz.prog 62 #[v] w (vah (yz zs) w):=by
 have HH:=hid h;obtain ⟨A,c,rfl,h1,h2,-⟩:=h;have HL:Hid (∀ k,(dg (yz (zs.take k)).natAbs).length<=D):=hid (fun k=>yf (sw (jcx zs k) hn));have HZ:Hid (∀ k (hk:k < zs.length),(dg zs[k].natAbs).length<=D):=hid (fun k hk=>yf (sw (kc7 (pt hk)) hn));clear hn;obtain ⟨W,hW⟩:=n_m ((w.alloc (.cells #[.bool false,.slice none 0 0] 30)).alloc (.cells #[.bool false,.slice none 0 0] 30));have ai:Ext w W:=by rw [<- hW]; exact ((Ext.refl w).alloc _).alloc _
 have dG:W.heap.size=w.heap.size+1+1:=by rw [<- hW]; simp
 have bF:jaw W w.heap.size 0:=by
  rw [<- hW];refine ⟨⟨none,0,0,by simp [go_sem],by simp [go_sem],by rw [Ta,qm]; exact jc.nil _⟩,fun i=>by simp [go_sem]⟩
 have dE:jaw W (w.heap.size+1) 0:=by
  rw [<- hW];refine ⟨⟨none,0,0,by simp [go_sem],by simp [go_sem],by rw [Ta,qm]; exact jc.nil _⟩,fun i=>by simp [go_sem]⟩
 have aG:=hid ai;have dH:=hid bF;have yB:=hid dE;have HW:=hid hW;clear ai bF dE hW;go_enter Tryz.func62,Tryz.ntmps62;go_wp2_with fail;rw [HW.out];clear HW
 go_loopw [9] (fun iv wr=>∃ k:Nat,k<=zs.length/\iv=.int .i64 k/\Hid (Ext w wr/\W.heap.size<=wr.heap.size/\jaw wr w.heap.size 0/\jaw wr (w.heap.size+1) (yz (zs.take k)))) (fun iv _=>zs.length - (intOf iv).toNat)
 case atStart=>exact ⟨0,pS _,rfl,⟨aG.out,pj _,dH.out,yB.out⟩⟩
 case round =>
  obtain ⟨k,hk,rfl,⟨hx,oz,hi1,KA⟩⟩:=hrel;have HX:=hid hx;have Jm:=hid hi1;have rJ:=hid KA;clear hx hi1
  by_cases af:k < zs.length
  · obtain ⟨A',c',e',-,-,h3⟩:=HH.out.ext HX.out;injection e' with e1 e2 e3
    obtain ⟨ad,B,n,d,e4,hb,c0,c1,wV⟩:=h3 k af;obtain rfl:A=some ad:=e1.trans e4;obtain ⟨⟨SA,sn,sc,s0,s1,hs⟩,sf⟩:=KA;obtain ⟨U,hU⟩:=n_m (wr.alloc (.cells #[.bool (decide (zs[k] < 0)),.slice B n d] 30));have kZ:Ext wr U:=by rw [<- hU]; exact (Ext.refl _).alloc _
    have XG:U.heap.size=wr.heap.size+1:=by rw [<- hU]; simp
    have u0:U.cell? ⟨wr.heap.size,0,none⟩=some (.bool (decide (zs[k] < 0))):=by rw [<- hU]; simp [go_sem]
    have u1:U.cell? ⟨wr.heap.size,1,none⟩=some (.slice B n d):=by rw [<- hU]; simp [go_sem]
    have s0':=(kZ.cell (p:=⟨w.heap.size+1,0,none⟩) (by show w.heap.size+1 < _; omega)).trans s0;have s1':=(kZ.cell (p:=⟨w.heap.size+1,1,none⟩) (by show w.heap.size+1 < _; omega)).trans s1;have DU:=hid (qcb _ _ (yz (zs.take k)) zs[k] D D U ⟨_,_,_,rfl,hs.ext kZ,by rw [qg,wao],HL.out k⟩ ⟨_,_,_,rfl,wV.ext kZ,by rw [qg,wao],HZ.out k af⟩ (by omega));have dS:=hid (gcn zs k af);have ML:=hid kZ;clear h3 e1 e3 e4 wV hs kZ;generalize yz (zs.take k)=S at *;generalize zs[k]=z at *;go_wp2_with fail;clear hU u0 u1 s0 s1 s0' s1' c0 c1;refine DU.out.mono ?_;rintro e w2 ⟨z2,rfl,⟨y2,rfl,m2⟩,x2⟩;obtain ⟨C2,k2,rfl,-⟩:=id m2;have jG:=x2.size;have wW:=rJ.out.ext (ML.out.trans x2) (by omega);have HIB:=hid (wW.set m2);have adr:Hid (jaw ((w2.setCell ⟨w.heap.size+1,0,none⟩ (.bool (decide (S+z < 0)))).setCell ⟨w.heap.size+1,1,none⟩ (.slice C2 (dg (S+z).natAbs).length k2)) w.heap.size 0):=by
     obtain ⟨⟨F,m,f,f0,f1,f2⟩,ff⟩:=Jm.out.ext (ML.out.trans x2) (by omega);obtain ⟨⟨G,gm,gf,g0,g1,-⟩,-⟩:=wW;have e1:(w2.setCell ⟨w.heap.size+1,0,none⟩ (.bool (decide (S+z < 0)))).cell? ⟨w.heap.size+1,1,none⟩=some (.slice G gm gf):=by rw [ph _ _ _ _ (by simp)]; exact g1
     exact ⟨⟨F,m,f,by rw [ph _ _ _ _ (by simp),ph _ _ _ _ (by simp)]; exact f0,by rw [ph _ _ _ _ (by simp),ph _ _ _ _ (by simp)]; exact f1,(f2.box g0 rfl _).box e1 rfl _⟩,fun i=>by rw [rm,rm]; exact ff i⟩
    have Dn:Hid (Ext w ((w2.setCell ⟨w.heap.size+1,0,none⟩ (.bool (decide (S+z < 0)))).setCell ⟨w.heap.size+1,1,none⟩ (.slice C2 (dg (S+z).natAbs).length k2))):=hid (((HX.out.trans (ML.out.trans x2)).setCell (by show w.heap.size<=w.heap.size+1; omega) _).setCell (by show w.heap.size<=w.heap.size+1; omega) _);obtain ⟨⟨G,gm,gf,g0,g1,-⟩,gff⟩:=wW;clear x2 m2 DU Jm rJ sf;go_wp2_with fail
    go_roundw
    case rel=>exact ⟨k+1,by omega,by go_num,⟨Dn.out,by simp [World.setCell]; omega,adr.out,by rw [dS.out]; exact HIB.out⟩⟩
    case measure=>simp [intOf]; omega
  · have df:k=zs.length:=by omega
    obtain ⟨⟨SA,sn,sc,s0,s1,hs⟩,sf⟩:=rJ.out;obtain ⟨⟨F,m,f,f0,f1,f2⟩,ff⟩:=Jm.out;rw [df,pP] at s0 hs;have HF:=hid (kw (g:=w.heap.size) (z:=yz zs) HX.out (pj _) f0 f1 rfl rfl ⟨_,rfl,hs⟩);clear df hs KA Jm rJ;generalize yz zs=S at *;go_wp2_with fail;exact bodyPost_ret (v:=.agg #[.bool (decide (S < 0)),.slice SA sn sc]) (by simp [results,Tryz.results62,go_sem,f0,f1]) rfl HF.out
def uy (l:List Pl):Pl:=Pl.jz (l.flatMap fun p=>p.qt Mo.one)
def zy (ρ : Int -> Rat) : List Pl -> Rat
 | []=>0
 | p :: r=>p.val ρ+zy ρ r
def lnr : List Pl -> Nat
 | []=>0
 | p :: r=>p.nr+lnr r
theorem yaw (l:List Pl):(uy l).Can:=Pl.jj _
theorem ga9 (ρ:Int->Rat) (a b:List Pl):zy ρ (a ++ b)=zy ρ a+zy ρ b:=by
 induction a with
 | nil=>simp [zy]; grind
 | cons x a ih=>rw [rI,zy,zy,ih]; grind
theorem zaw (ρ:Int->Rat) (l:List Pl):(uy l).val ρ=zy ρ l:=by
 unfold uy;rw [Pl.ka ρ (fun x hx=>by
  obtain ⟨p,-,hp⟩:=tg.1 hx
  exact p.qv x hp)]
 induction l with
 | nil=>rfl
 | cons p l ih=>rw [th,gah,Pl.ze,zy,ih]
theorem qbi (a b:List Pl):lnr (a ++ b)=lnr a+lnr b:=by
 induction a with
 | nil=>simp [lnr]
 | cons x a ih=>rw [rI,lnr,lnr,ih]; omega
theorem jcb {l:List Pl} {n:Int} (hc:∀ p ∈ l,p.Can/\p.lv<=n) (h0:0<=n) (hn:n<=4):(uy l).lv<=n:=by
 obtain ⟨k,rfl⟩:∃ k:Nat,n=k:=⟨n.toNat,by omega⟩;refine Pl.XS (by omega) (fun x hx=>?_) fun x hx i hi H6=>?_
 · obtain ⟨p,-,hp⟩:=tg.1 hx;exact p.qv x hp
 · obtain ⟨p,jH,hp⟩:=tg.1 hx;exact Pl.yo (hc p jH).1 (hc p jH).2 x hp i hi H6
theorem wc1 (p q:Pl):uy [p,q]=p.add q:=Pl.qz (yaw _) (Pl.yk _ _) fun ρ=>by rw [zaw,Pl.yi,zy,zy,zy]; grind
def stp (a:Int × Nat) (p:Pl):Int × Nat:=
 if p.lv=(if a.1 < p.lv then (p.lv,0) else a).1 then ((if a.1 < p.lv then (p.lv,0) else a).1,max (if a.1 < p.lv then (p.lv,0) else a).2 p.cs.length) else (if a.1 < p.lv then (p.lv,0) else a)
theorem jbt {a:Int × Nat} {p:Pl} (h:a.1 < p.lv):stp a p=(p.lv,p.cs.length):=by
 unfold stp; rw [if_pos h,if_pos rfl]; simp
theorem kbt {a:Int × Nat} {p:Pl} (h:p.lv=a.1):stp a p=(a.1,max a.2 p.cs.length):=by
 unfold stp; rw [if_neg (show ¬ a.1 < p.lv by omega),if_pos h]
theorem qbt {a:Int × Nat} {p:Pl} (h:p.lv < a.1):stp a p=a:=by
 unfold stp; rw [if_neg (show ¬ a.1 < p.lv by omega),if_neg (by omega)]
def uaf (l:List Pl):Int × Nat:=l.foldl stp (0,0)
theorem gci (l:List Pl) (k:Nat) (h:k < l.length):uaf (l.take (k+1))=stp (uaf (l.take k)) l[k]:=by
 unfold uaf;rw [pC h,List.foldl_append]
 rfl
theorem wci (l:List Pl) (M:Nat) (hl:∀ p ∈ l,0<=p.lv/\p.lv<=4/\p.cs.length<=M/\(0 < p.lv->2<=p.cs.length)) :
 (0<=(uaf l).1/\(uaf l).1<=4/\(uaf l).2<=M/\(0 < (uaf l).1->2<=(uaf l).2))/\∀ p ∈ l,p.lv<=(uaf l).1/\(p.lv=(uaf l).1->p.cs.length<=(uaf l).2):=by
 have key:∀ (l:List Pl) (a:Int × Nat),(0<=a.1/\a.1<=4/\a.2<=M/\(0 < a.1->2<=a.2))->(∀ p ∈ l,0<=p.lv/\p.lv<=4/\p.cs.length<=M/\(0 < p.lv->2<=p.cs.length)) ->
  (0<=(l.foldl stp a).1/\(l.foldl stp a).1<=4/\(l.foldl stp a).2<=M/\(0 < (l.foldl stp a).1->2<=(l.foldl stp a).2))/\(a.1 < (l.foldl stp a).1\/(a.1=(l.foldl stp a).1/\a.2<=(l.foldl stp a).2))/\∀ p ∈ l,p.lv<=(l.foldl stp a).1/\(p.lv=(l.foldl stp a).1->p.cs.length<=(l.foldl stp a).2):=by
  intro l
  induction l with
  | nil=>intro a ha _; exact ⟨ha,.inr ⟨rfl,pj _⟩,by simp⟩
  | cons p l ih =>
    intro a ha hp;have h1:=hp p (by simp);have hs:(0<=(stp a p).1/\(stp a p).1<=4/\(stp a p).2<=M/\(0 < (stp a p).1->2<=(stp a p).2))/\(a.1 < (stp a p).1\/(a.1=(stp a p).1/\a.2<=(stp a p).2))/\(p.lv < (stp a p).1\/(p.lv=(stp a p).1/\p.cs.length<=(stp a p).2)):=by
     rcases wg a.1 p.lv with h | h | h
     · rw [jbt h]; exact ⟨⟨h1.1,h1.2.1,h1.2.2.1,h1.2.2.2⟩,.inl h,.inr ⟨rfl,pj _⟩⟩
     · rw [kbt h.symm]; refine ⟨⟨ha.1,ha.2.1,by simp only; omega,fun h0=>?_⟩,.inr ⟨rfl,by simp only; omega⟩,.inr ⟨h.symm,by simp only; omega⟩⟩;have:=ha.2.2.2 h0;simp only;omega
     · rw [qbt h]; exact ⟨ha,.inr ⟨rfl,pj _⟩,.inl h⟩
    obtain ⟨g1,g2,g3⟩:=ih (stp a p) hs.1 (fun q hq=>hp q (by simp [hq]));rw [Sn];generalize l.foldl stp (stp a p)=r at *;generalize stp a p=s at *;refine ⟨g1,by omega,fun q hq=>?_⟩;rcases pQ.1 hq with rfl | hq
    · omega
    · exact g3 q hq
 obtain ⟨h1,-,h3⟩:=key l (0,0) ⟨by simp,by simp,by simp,by simp⟩ hl;exact ⟨h1,h3⟩
theorem zc4 (l:List Pl) (h:0 < (uaf l).1):∃ p ∈ l,p.lv=(uaf l).1:=by
 have key:∀ (l:List Pl) (a:Int × Nat),(l.foldl stp a).1=a.1\/∃ p ∈ l,p.lv=(l.foldl stp a).1:=by
  intro l
  induction l with
  | nil=>intro a; exact .inl rfl
  | cons p l ih =>
    intro a;rw [Sn];rcases ih (stp a p) with h1 | ⟨q,hq,h1⟩
    · rcases wg a.1 p.lv with h | h | h
      · exact .inr ⟨p,by simp,by rw [h1,jbt h]⟩
      · exact .inr ⟨p,by simp,by rw [h1,kbt h.symm,h]⟩
      · exact .inl (by rw [h1,qbt h])
    · exact .inr ⟨q,by simp [hq],h1⟩
 rcases key l (0,0) with h1 | h1
 · have:(uaf l).1=0:=h1;omega
 · exact h1
def partsOf (lv:Int) (i:Nat) (p:Pl):List Pl:=if p.lv=lv then (p.cs[i]?).toList else if p.lv < lv/\i=0 then [p] else []
def jl (lv:Int) (i:Nat) (l:List Pl):List Pl:=l.flatMap (partsOf lv i)
theorem ub5 (lv:Int) (i:Nat) (l:List Pl) (k:Nat) (h:k < l.length):jl lv i (l.take (k+1))=jl lv i (l.take k) ++ partsOf lv i l[k]:=by
 unfold jl;rw [pC h,S8];simp
theorem ubb (lv:Int) (i:Nat) (p:Pl):(partsOf lv i p).length<=1:=by
 unfold partsOf
 split
 · cases p.cs[i]? <;> simp
 · split <;> simp
theorem zbi (lv:Int) (i:Nat) (l:List Pl):(jl lv i l).length<=l.length:=by
 induction l with
 | nil=>simp [jl]
 | cons p l ih =>
   unfold jl at ih ⊢;rw [th,ra,pL];have:=ubb lv i p;omega
theorem vbb {lv:Int} {i:Nat} {p c:Pl} (hp:p.Can) (h0:0 < lv) {E:Nat} (hE:p.ex E) (h:c ∈ partsOf lv i p):c.Can/\c.lv < lv/\c.ex E/\c.nr<=p.nr:=by
 unfold partsOf at h
 split at h
 · rename_i hl;obtain ⟨l,n,d,cs⟩:=p
   change l=lv at hl
   subst hl;have hc:c ∈ cs:=by
    simp only [Pl.cs,Option.mem_toList] at h;exact td h
   have hk:=(hp.kids h0).2.2.2.1.mem c hc;rw [Pl.ex] at hE;exact ⟨hk.2,hk.1,zav (hE.resolve_left (by omega)).2 c hc,by rw [Pl.nr,if_neg (by omega)]; exact qbe hc⟩
 · split at h
   · rename_i hl;obtain rfl:=pD.1 h;exact ⟨hp,hl.1,hE,pj _⟩
   · cases h
theorem uan {lv:Int} {i:Nat} {l:List Pl} {c:Pl} (h0:0 < lv) {E:Nat} (hl:∀ p ∈ l,p.Can/\p.ex E) (h:c ∈ jl lv i l):c.Can/\c.lv < lv/\c.ex E:=by
 obtain ⟨p,hp,hc⟩:=tg.1 h;have:=vbb (hl p hp).1 h0 (hl p hp).2 hc;exact ⟨this.1,this.2.1,this.2.2.1⟩
theorem jcm {lv:Int} {i:Nat} {l:List Pl} (h0:0 < lv) {E:Nat} (hl:∀ p ∈ l,p.Can/\p.ex E):lnr (jl lv i l)<=lnr l:=by
 induction l with
 | nil=>simp [jl,lnr]
 | cons p l ih =>
   have h1:=ih fun q hq=>hl q (by simp [hq])
   unfold jl at h1 ⊢;rw [th,qbi,lnr];have h2:lnr (partsOf lv i p)<=p.nr:=by
    have hm:=fun c hc=>vbb (c:=c) (hl p (by simp)).1 h0 (hl p (by simp)).2 (i:=i) hc
    have hlen:=ubb lv i p;generalize partsOf lv i p=q at *
    match q,hlen with
    | [],_=>simp [lnr]
    | [c],_=>have:=(hm c (by simp)).2.2.2; simpa [lnr] using this
   omega
def hsm (x : Rat) : (Nat -> Rat) -> Nat -> Rat
 | _,0=>0
 | f,n+1=>f 0+x * hsm x (fun i=>f (i+1)) n
theorem uca (x:Rat) (n:Nat):∀ f g:Nat->Rat,hsm x (fun i=>f i+g i) n=hsm x f n+hsm x g n:=by
 induction n with
 | zero=>intro f g; simp [hsm]; grind
 | succ n ih=>intro f g; simp only [hsm]; rw [ih (fun i=>f (i+1)) (fun i=>g (i+1))]; grind
theorem kav (x:Rat) (n:Nat):hsm x (fun _=>0) n=0:=by
 induction n with
 | zero=>rfl
 | succ n ih=>simp only [hsm,ih]; grind
theorem ubo (ρ:Int->Rat) (l:Int):∀ (n:Nat) (g:Nat->Pl),ve ρ l ((List.range n).map g)=hsm (ρ l) (fun i=>(g i).val ρ) n:=by
 intro n
 induction n with
 | zero=>intro g; simp [ve,hsm]
 | succ n ih =>
   intro g;rw [Sw,sr,wN,ve,hsm,<- ih (fun i=>g (i+1))]
   rfl
theorem wcx (ρ:Int->Rat) (l:Int):∀ (cs:List Pl) (n:Nat),cs.length<=n->hsm (ρ l) (fun i=>zy ρ (cs[i]?).toList) n=ve ρ l cs:=by
 intro cs
 induction cs with
 | nil =>
   intro n _;rw [ve,<- kav (ρ l) n]
   congr 1
 | cons c cs ih =>
   intro n hn;obtain ⟨m,rfl⟩:∃ m,n=m+1:=⟨n - 1,by simp at hn; omega⟩;rw [hsm,ve,<- ih m (by simpa using hn)];simp [zy]
   grind
theorem uch {l:List Pl} {lv:Int} {n E:Nat} (h0:0 < lv) (h4:lv<=4) (hn:1<=n) (hl:∀ p ∈ l,p.Can/\p.ex E) (fC:∀ p ∈ l,p.lv<=lv/\(p.lv=lv->p.cs.length<=n)) :
 uy l=vaa lv ((List.range n).map fun i=>uy (jl lv i l)):=by
 have hk:qp lv ((List.range n).map fun i=>uy (jl lv i l)):=zaf fun c hc=>by
  obtain ⟨i,-,rfl⟩:=pZ.1 hc;have h1:=jcb (l:=jl lv i l) (n:=lv - 1) (fun p hp=>⟨(uan h0 hl hp).1,by have:=(uan h0 hl hp).2.1; omega⟩) (by omega) (by omega);exact ⟨by omega,yaw _⟩
 obtain ⟨g1,g2,g3⟩:=qa5 h0 h4 hk;refine Pl.qz (yaw _) g1 fun ρ=>?_
 rw [g3,ubo,zaw];simp only [zaw];clear g1 g2 g3 hk
 induction l with
 | nil =>
   rw [zy,<- kav (ρ lv) n]
   congr 1
 | cons p l ih =>
   rw [zy,ih (fun q hq=>hl q (by simp [hq])) (fun q hq=>fC q (by simp [hq]))];have e1:(fun i=>zy ρ (jl lv i (p :: l)))=fun i=>zy ρ (partsOf lv i p)+zy ρ (jl lv i l):=by
    funext i
    unfold jl;rw [th,ga9]
   rw [e1,uca]
   congr 1
   obtain ⟨h1,h2⟩:=fC p (by simp)
   by_cases he:p.lv=lv
   · have e2:(fun i=>zy ρ (partsOf lv i p))=fun i=>zy ρ (p.cs[i]?).toList:=by
      funext i
      unfold partsOf;rw [if_pos he]
     rw [e2,wcx ρ lv p.cs n (h2 he)];obtain ⟨l',ng,d,cs⟩:=p
     change l'=lv at he
     subst he;exact Pl.mk_val ρ _ _ _ h0 h4
   · obtain ⟨m,rfl⟩:∃ m,n=m+1:=⟨n - 1,by omega⟩;have e2:(fun i=>zy ρ (partsOf lv i p))=fun i=>if i=0 then p.val ρ else 0:=by
      funext i
      unfold partsOf;rw [if_neg he]
      by_cases hi:i=0
      · rw [if_pos ⟨by omega,hi⟩,if_pos hi,zy,zy]; grind
      · rw [if_neg (by omega),if_neg hi,zy]
     rw [e2,hsm];have e3:(fun i=>if i+1=0 then p.val ρ else 0)=fun _:Nat=>(0:Rat):=by
      funext i
      rw [if_neg (by omega)]
     rw [if_pos rfl,e3,kav]
     grind
theorem xcr {l:List Pl} (hl:∀ p ∈ l,p.Can/\p.lv=0):uy l=Pl.const (yz (l.map Pl.z)):=Pl.qz (yaw _) (zt _) fun ρ=>by
 rw [zaw,Pl.qT]
 induction l with
 | nil=>simp [zy,yz]
 | cons p l ih =>
   have h1:=hl p (by simp);rw [zy,ih fun q hq=>hl q (by simp [hq]),sr,yz];have h2:p.val ρ=(Pl.const p.z).val ρ:=congrArg (fun p=>p.val ρ) (gaf h1.1 h1.2);rw [h2,Pl.qT]
   push_cast
   rfl
theorem jdd {l:List Pl} (hl:∀ p ∈ l,p.Can/\p.lv=0):inr (l.map Pl.z)=lnr l:=by
 induction l with
 | nil=>rfl
 | cons p l ih =>
   have h1:=hl p (by simp);rw [sr,inr,lnr,ih fun q hq=>hl q (by simp [hq])];have h2:=congrArg Pl.nr (gaf h1.1 h1.2);rw [Pl.ju] at h2;rw [h2]
end Go.Proofs.YtcepajijiabkmaaGreat
