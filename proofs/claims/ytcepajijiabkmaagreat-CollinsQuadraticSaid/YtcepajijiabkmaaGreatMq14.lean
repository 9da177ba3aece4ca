/- Polynomials in four variables, plain: how sums and products lie level by level. No program in sight. -/
import Derived.Test.YtcepajijiabkmaaGreatMq13
set_option linter.unusedSimpArgs false
set_option linter.unusedVariables false
namespace Go.Proofs.YtcepajijiabkmaaGreat
open Lib (hid)
theorem Pl.mul_zero {p q:Pl} (hp:p.Can) (hq:q.Can) (h:∀ ρ,p.val ρ * q.val ρ=0):p=Pl.zero\/q=Pl.zero:=by
 obtain ⟨E,hE⟩:=Mo.le_sup (jf (p.terms Mo.one) ++ jf (q.terms Mo.one));have key:∀ r:Pl,r.Can->(∀ x ∈ jf (r.terms Mo.one),x.2.le E)->r ≠ Pl.zero->∀ B,yg (jf (r.terms Mo.one))+1<=B->r.val (kro (E+1) B) ≠ 0:=by
  intro r hr hle au B hB h0;rw [<- Pl.terms_sval,<- qap _ (yad r.terms_one_nonneg),wbp] at h0;refine yb7 (yz _) (fun x hx=>(yt hx).1) E hle B hB (fun e=>au ?_) (by exact_mod_cast h0);rw [<- Pl.nf_of_can hr];unfold Pl.nf Pl.ofS;rw [e]
  rfl
 by_cases h1:p=Pl.zero
 · exact .inl h1
 by_cases h2:q=Pl.zero
 · exact .inr h2
 exfalso
 have h3:=h (kro (E+1) (yg (jf (p.terms Mo.one))+yg (jf (q.terms Mo.one))+1));rcases Rat.mul_eq_zero.1 h3 with h4 | h4
 · exact key p hp (fun x hx=>hE x (List.mem_append_left _ hx)) h1 _ (by omega) h4
 · exact key q hq (fun x hx=>hE x (List.mem_append_right _ hx)) h2 _ (by omega) h4
theorem Pl.mul_eq_zero {p q:Pl} (hp:p.Can) (hq:q.Can) (h:p.mul q=Pl.zero):p=Pl.zero\/q=Pl.zero:=
 Pl.mul_zero hp hq fun ρ=>by rw [<- Pl.mul_val,h,Pl.zero_val]
theorem Pl.ofS_lv {l:Sp} {n:Nat} (ik:n<=4) (kU:∀ x ∈ l,x.2.nonneg) (h:∀ x ∈ l,∀ i:Nat,n < i->i<=4->x.2.get i=0):(Pl.ofS l).lv<=n:=by
 have hz:∀ i:Nat,0 < i->i<=4->Mo.one.get i=0:=fun i h1 h2=>by
  rcases (show i=1\/i=2\/i=3\/i=4 by omega) with rfl | rfl | rfl | rfl <;> rfl
 have ha:ga7 n Mo.one (jf l):=fun x hx i h1 h2=>by
  obtain ⟨-,y,hy,e⟩:=yt hx;rw [<- e,h y hy i h1 h2,hz i (by omega) h2]
 have OB:∀ x ∈ jf l,x.2.nonneg:=fun x hx=>(yt hx).1
 obtain ⟨h1,h2⟩:=wb7 n ik (jf l) Mo.one (yz l) OB ha (fun i hi nK=>hz i hi (by omega));have h3:=zbe n ik (jf l) Mo.one (yz l) OB ha (fun i hi nK=>hz i hi (by omega));have h4:bld n (jf l)=Pl.ofS l:=Pl.can_eq h1 (Pl.ofS_can l) fun k=>by
  rw [h3,Pl.ofS_coef,qai]
 rw [<- h4];exact h2
theorem Pl.exp_above {p:Pl} (hp:p.Can) {n:Nat} (h:p.lv<=n):∀ x ∈ p.terms Mo.one,∀ i:Nat,n < i->i<=4->x.2.get i=0:=fun x hx i h1 h2=>by
 rw [Pl.terms_above p Mo.one n hp h x hx i h1 h2];rcases (show i=1\/i=2\/i=3\/i=4 by omega) with rfl | rfl | rfl | rfl <;> rfl
theorem Mo.get_mul (m n:Mo) (i:Int):(m.mul n).get i=m.get i+n.get i:=by
 unfold Mo.mul Mo.get
 split <;> (try split) <;> (try split) <;> rfl
theorem Pl.mul_lv {p q:Pl} (hp:p.Can) (hq:q.Can) {n:Int} (h1:p.lv<=n) (h2:q.lv<=n) (hn:n<=4):(p.mul q).lv<=n:=by
 have h0:=hp.lv_nonneg.1;obtain ⟨k,rfl⟩:∃ k:Nat,n=k:=⟨n.toNat,by omega⟩;refine Pl.ofS_lv (by omega) (qa8 p.terms_one_nonneg q.terms_one_nonneg) fun x hx i hi Fh=>?_
 obtain ⟨y,hy,z,hz,rfl⟩:=xbb hx;rw [Mo.get_mul,Pl.exp_above hp h1 y hy i hi Fh,Pl.exp_above hq h2 z hz i hi Fh]
 rfl
theorem Pl.add_lv {p q:Pl} (hp:p.Can) (hq:q.Can) {n:Int} (h1:p.lv<=n) (h2:q.lv<=n) (hn:n<=4):(p.add q).lv<=n:=by
 have h0:=hp.lv_nonneg.1;obtain ⟨k,rfl⟩:∃ k:Nat,n=k:=⟨n.toNat,by omega⟩;refine Pl.ofS_lv (by omega) (fun x hx=>(List.mem_append.1 hx).elim (p.terms_one_nonneg x) (q.terms_one_nonneg x)) fun x hx i hi Fh=>?_
 rcases List.mem_append.1 hx with hx | hx
 · exact Pl.exp_above hp h1 x hx i hi Fh
 · exact Pl.exp_above hq h2 x hx i hi Fh
theorem Pl.mul_comm (p q:Pl):p.mul q=q.mul p:=Pl.val_uniq (Pl.mul_can _ _) (Pl.mul_can _ _) fun ρ=>by rw [Pl.mul_val,Pl.mul_val]; grind
theorem Pl.mul_zero_l (p:Pl):Pl.zero.mul p=Pl.zero:=Pl.zero_of_val (Pl.mul_can _ _) fun ρ=>by rw [Pl.mul_val,Pl.zero_val]; grind
theorem Pl.mul_zero_r (p:Pl):p.mul Pl.zero=Pl.zero:=by rw [Pl.mul_comm,Pl.mul_zero_l]
theorem Pl.const_mul (a b:Int):(Pl.const a).mul (Pl.const b)=Pl.const (a * b):=Pl.val_uniq (Pl.mul_can _ _) (ut _) fun ρ=>by
 rw [Pl.mul_val,Pl.const_val,Pl.const_val,Pl.const_val]; push_cast; rfl
theorem jan {p:Pl} (h:p.Can) (hl:p.lv=0):p=Pl.const p.z:=by
 obtain ⟨l,n,d,cs⟩:=p
 change l=0 at hl
 subst hl;unfold Pl.Can at h;rcases h with ⟨-,rfl,hd,hn⟩ | h
 · show _=Pl.const (sgn n (val d));unfold Pl.const;rw [uu,<- hd]
   congr 1
   cases n
   · simp [sgn]
   · have h1:d ≠ []:=fun e=>by have:=hn e; cases this
     have h2:val d ≠ 0:=fun e=>h1 (by rw [hd,e,xn])
     simp only [sgn];simp;omega
 · omega
theorem ycj (ρ:Int->Rat) (l:Int) (f:Pl->Pl) (r:Rat) (cs:List Pl) (h:∀ c ∈ cs,(f c).val ρ=c.val ρ * r):qf ρ l (cs.map f)=qf ρ l cs * r:=by
 induction cs with
 | nil=>simp [qf]
 | cons x cs ih =>
   simp only [List.map_cons,qf];rw [h x (by simp),ih fun c hc=>h c (by simp [hc])]
   grind
theorem Pl.mk_val (ρ:Int->Rat) {l:Int} (n:Bool) (d:List Nat) (cs:List Pl) (h0:0 < l) (h4:l<=4):(Pl.mk l n d cs).val ρ=qf ρ l cs:=by
 rw [Pl.val,if_neg (by omega),if_neg (by omega)]
theorem za5 {l:Int} {cs:List Pl} (h0:0 < l) (h4:l<=4) (h2:2<=cs.length) (hk:gp l cs) (hz:cs.getLast? ≠ some Pl.zero):(Pl.mk l false [] cs).Can:=by
 unfold Pl.Can;exact .inr ⟨by omega,h4,rfl,rfl,h2,hk,hz⟩
theorem Pl.mul_up {l:Int} {n:Bool} {d:List Nat} {cs:List Pl} {q:Pl} (hp:(Pl.mk l n d cs).Can) (hq:q.Can) (hl:q.lv < l) (hz:q ≠ Pl.zero):(Pl.mk l n d cs).mul q=.mk l false [] (cs.map fun c=>c.mul q):=by
 have kV:0 < l:=by have:=hq.lv_nonneg.1; omega
 obtain ⟨rfl,rfl,h2,hk,dC⟩:=hp.kids kV;have aj:l<=4:=hp.lv_nonneg.2;refine Pl.val_uniq (Pl.mul_can _ _) (za5 kV aj (by rw [List.length_map]; exact h2) (zae fun c hc=>?_) ?_) fun ρ=>?_
 · obtain ⟨c',jH,rfl⟩:=List.mem_map.1 hc;have h3:=hk.mem c' jH;have:=Pl.mul_lv (n:=l - 1) h3.2 hq (by omega) (by omega) (by omega);exact ⟨by omega,Pl.mul_can _ _⟩
 · rw [List.getLast?_map];intro e;obtain ⟨c,hc,he⟩:=Option.map_eq_some_iff.1 e;rcases Pl.mul_eq_zero (hk.mem c (List.mem_of_getLast? hc)).2 hq he with h | h
   · rw [h] at hc; exact dC hc
   · exact hz h
 · rw [Pl.mul_val,Pl.mk_val ρ _ _ _ kV aj,Pl.mk_val ρ _ _ _ kV aj,ycj ρ l _ (q.val ρ) cs fun c _=>Pl.mul_val ρ c q]
theorem Pl.mul_up_ {p q:Pl} (hp:p.Can) (hq:q.Can) (hl:q.lv < p.lv) (hz:q ≠ Pl.zero):p.mul q=.mk p.lv false [] (p.cs.map fun c=>c.mul q):=by
 obtain ⟨l,n,d,cs⟩:=p;exact Pl.mul_up hp hq hl hz
def uj : List Pl -> List Pl
 | []=>[]
 | c :: r=>if c.isZ=true/\uj r=[] then [] else c :: uj r
def uaa (l:Int) (cs:List Pl):Pl:=
 match uj cs with
 | []=>Pl.zero
 | [c]=>c
 | c :: d :: r=>.mk l false [] (c :: d :: r)
theorem gbz {a:List Pl} {x:Pl} (h:x.isZ=true):uj (a ++ [x])=uj a:=by
 induction a with
 | nil=>simp [uj,h]
 | cons y a ih=>rw [List.cons_append,uj,uj,ih]
theorem kcg {a:List Pl} {x:Pl} (h:x.isZ=false):uj (a ++ [x])=a ++ [x]:=by
 induction a with
 | nil=>simp [uj,h]
 | cons y a ih=>rw [List.cons_append,uj,ih,if_neg (by simp)]
theorem wba {l:Int} {cs:List Pl} {n:Nat} (hn:n<=cs.length) (h:uj cs=cs.take n):uaa l cs=if n=0 then Pl.zero else if h1:n=1/\0 < cs.length then cs[0]'h1.2 else .mk l false [] (cs.take n):=by
 unfold uaa;rw [h]
 match n,cs,hn with
 | 0,cs,_=>simp
 | 1,x :: cs,_=>simp
 | n+2,x :: y :: cs,_=>simp
theorem kaq {cs:List Pl} {c:Pl} (h:c ∈ uj cs):c ∈ cs:=by
 induction cs with
 | nil=>exact h
 | cons x cs ih =>
   rw [uj] at h
   split at h
   · cases h
   · rcases List.mem_cons.1 h with rfl | h
     · exact List.mem_cons_self ..
     · exact List.mem_cons_of_mem _ (ih h)
theorem ya8 {cs:List Pl} (hc:∀ c ∈ cs,c.Can):(uj cs).getLast? ≠ some Pl.zero:=by
 induction cs with
 | nil=>simp [uj]
 | cons x cs ih =>
   rw [uj]
   split
   · simp
   · rename_i h;intro e
     by_cases h1:uj cs=[]
     · rw [h1] at e;have e1:x=Pl.zero:=by simpa using e
       exact h ⟨(Pl.zero_isZ (hc x (by simp))).2 e1,h1⟩
     · obtain ⟨y,r,hr⟩:=List.exists_cons_of_ne_nil h1;rw [hr,List.getLast?_cons_cons,<- hr] at e;exact ih (fun c fC=>hc c (by simp [fC])) e
theorem gbe (ρ:Int->Rat) (l:Int) {cs:List Pl} (hc:∀ c ∈ cs,c.Can):qf ρ l (uj cs)=qf ρ l cs:=by
 induction cs with
 | nil=>rfl
 | cons x cs ih =>
   have h1:=ih fun c fC=>hc c (by simp [fC])
   rw [uj]
   split
   · rename_i h;rw [qf,qf,<- h1,h.2,(Pl.zero_isZ (hc x (by simp))).1 h.1,Pl.zero_val,qf]
     grind
   · rw [qf,qf,h1]
theorem za4 {l:Int} {cs:List Pl} (h0:0 < l) (h4:l<=4) (hk:gp l cs):(uaa l cs).Can/\(uaa l cs).lv<=l/\∀ ρ,(uaa l cs).val ρ=qf ρ l cs:=by
 have hc:∀ c ∈ cs,c.Can:=fun c fC=>(hk.mem c fC).2
 have dC:=ya8 hc;have aH:=fun ρ=>gbe ρ l hc
 have bP:∀ c ∈ uj cs,c.lv < l/\c.Can:=fun c fC=>hk.mem c (kaq fC)
 unfold uaa
 split
 · rename_i e;rw [e] at aH;exact ⟨Pl.zero_can,by show (0:Int)<=l; omega,fun ρ=>by rw [<- aH ρ,Pl.zero_val,qf]⟩
 · rename_i c e;rw [e] at aH bP;have h1:=bP c (by simp);exact ⟨h1.2,by omega,fun ρ=>by rw [<- aH ρ,qf,qf]; grind⟩
 · rename_i c d r e;rw [e] at aH bP dC;exact ⟨za5 h0 h4 (by simp) (zae bP) dC,Int.le_refl _,fun ρ=>by rw [<- aH ρ,Pl.mk_val ρ _ _ _ h0 h4]⟩
set_option maxRecDepth 100000
set_option maxHeartbeats 8000000
open Go.RowKit
def uy : List Int -> Int
 | []=>0
 | z :: r=>z+uy r
def inr : List Int -> Nat
 | []=>0
 | z :: r=>z.natAbs+inr r
theorem qb3 (a b:List Int):uy (a ++ b)=uy a+uy b:=by
 induction a with
 | nil=>simp [uy]
 | cons x a ih=>rw [List.cons_append,uy,uy,ih]; omega
theorem jck (l:List Int) (k:Nat) (h:k < l.length):uy (l.take (k+1))=uy (l.take k)+l[k]:=by
 rw [List.take_succ_eq_append_getElem h,qb3]; simp [uy]
theorem zcu (l:List Int) (k:Nat):(uy (l.take k)).natAbs<=inr l:=by
 induction l generalizing k with
 | nil=>simp [uy,inr]
 | cons x l ih =>
   cases k with
   | zero=>simp [uy]
   | succ k =>
     rw [List.take_succ_cons,uy,inr];have:=ih k;omega
theorem yc2 {l:List Int} {z:Int} (h:z ∈ l):z.natAbs<=inr l:=by
 induction l with
 | nil=>cases h
 | cons x l ih =>
   rw [inr];rcases List.mem_cons.1 h with rfl | h
   · omega
   · have:=ih h; omega
def IsV (w:World) (v:Value) (zs:List Int):Prop:=
 ∃ A c,v=.slice A zs.length c/\zs.length<=c/\c<=9223372036854775807/\∀ k (h:k < zs.length),∃ ad B n d,A=some ad/\ad.block < w.heap.size/\w.cell? (ad.add (k * 2))=some (.bool (decide (zs[k] < 0)))/\w.cell? ⟨(ad.add (k * 2)).block,(ad.add (k * 2)).off+1,none⟩=some (.slice B n d)/\jb w (.slice B n d) (dg zs[k].natAbs)
theorem IsV.ext {w w':World} {v:Value} {l:List Int} (h:IsV w v l) (hx:Ext w w'):IsV w' v l:=by
 obtain ⟨A,c,rfl,h1,h2,h3⟩:=h;refine ⟨A,c,rfl,h1,h2,fun k hk=>?_⟩;obtain ⟨ad,B,n,d,rfl,h4,h5,h6,h7⟩:=h3 k hk;have hb:(ad.add (k * 2)).block < w.heap.size:=by rw [ja]; exact h4
 exact ⟨ad,B,n,d,rfl,Nat.lt_of_lt_of_le h4 hx.size,(hx.cell hb).trans h5,(hx.cell (p:=⟨(ad.add (k * 2)).block,(ad.add (k * 2)).off+1,none⟩) hb).trans h6,h7.ext hx⟩
def kau (w:World) (g:Nat) (z:Int):Prop:=(∃ A n c,w.cell? ⟨g,0,none⟩=some (.bool (decide (z < 0)))/\w.cell? ⟨g,1,none⟩=some (.slice A n c)/\jb w (.slice A n c) (dg z.natAbs))/\∀ i,w.frozen? ⟨g,i,none⟩=false
theorem kau.ext {w w':World} {g:Nat} {z:Int} (h:kau w g z) (hx:Ext w w') (hg:g < w.heap.size):kau w' g z:=by
 obtain ⟨⟨A,n,c,h1,h2,h3⟩,h4⟩:=h;exact ⟨⟨A,n,c,(hx.cell (p:=⟨g,0,none⟩) hg).trans h1,(hx.cell (p:=⟨g,1,none⟩) hg).trans h2,h3.ext hx⟩,fun i=>(hx.frozen (p:=⟨g,i,none⟩) hg).trans (h4 i)⟩
theorem kau.set {w:World} {g:Nat} {z y:Int} {A:Option Addr} {n c:Nat} (h:kau w g z) (hy:jb w (.slice A n c) (dg y.natAbs)):kau ((w.setCell ⟨g,0,none⟩ (.bool (decide (y < 0)))).setCell ⟨g,1,none⟩ (.slice A n c)) g y:=by
 obtain ⟨⟨B,m,d,h1,h2,-⟩,h4⟩:=h;have e1:(w.setCell ⟨g,0,none⟩ (.bool (decide (y < 0)))).cell? ⟨g,1,none⟩=some (.slice B m d):=by rw [World.cell?_setCell_other _ _ _ _ (by simp)]; exact h2
 refine ⟨⟨A,n,c,?_,World.cell?_setCell_same _ _ _ e1,(hy.box h1 rfl _).box e1 rfl _⟩,fun i=>?_⟩
 · rw [World.cell?_setCell_other _ _ _ _ (by simp)]; exact World.cell?_setCell_same _ _ _ h1
 · rw [World.frozen?_setCell,World.frozen?_setCell]; exact h4 i
theorem gcy {w:World} {v:Value} {zs:List Int} {D:Nat} (h:IsV w v zs) (hn:inr zs < B32 ^ D) (hD:D<=17592186044000):Calls Tryz.prog 62 #[v] w (waf (uy zs) w):=by
 have HH:=hid h;obtain ⟨A,c,rfl,h1,h2,-⟩:=h;have HL:Hid (∀ k,(dg (uy (zs.take k)).natAbs).length<=D):=hid (fun k=>ve (Nat.lt_of_le_of_lt (zcu zs k) hn));have HZ:Hid (∀ k (hk:k < zs.length),(dg zs[k].natAbs).length<=D):=hid (fun k hk=>ve (Nat.lt_of_le_of_lt (yc2 (List.getElem_mem hk)) hn));clear hn;obtain ⟨W,hW⟩:=n_m ((w.alloc (.cells #[.bool false,.slice none 0 0] 30)).alloc (.cells #[.bool false,.slice none 0 0] 30));have ag:Ext w W:=by rw [<- hW]; exact ((Ext.refl w).alloc _).alloc _
 have bY:W.heap.size=w.heap.size+1+1:=by rw [<- hW]; simp
 have cO:kau W w.heap.size 0:=by
  rw [<- hW];refine ⟨⟨none,0,0,by simp [go_sem],by simp [go_sem],by rw [Int.natAbs_zero,xn]; exact jb.nil _⟩,fun i=>by simp [go_sem]⟩
 have bT:kau W (w.heap.size+1) 0:=by
  rw [<- hW];refine ⟨⟨none,0,0,by simp [go_sem],by simp [go_sem],by rw [Int.natAbs_zero,xn]; exact jb.nil _⟩,fun i=>by simp [go_sem]⟩
 have aB:=hid ag;have fM:=hid cO;have wG:=hid bT;have HW:=hid hW;clear ag cO bT hW;go_enter Tryz.func62,Tryz.ntmps62;go_wp2_with fail;rw [HW.out];clear HW
 go_loopw [9] (fun iv wr=>∃ k:Nat,k<=zs.length/\iv=.int .i64 k/\Hid (Ext w wr/\W.heap.size<=wr.heap.size/\kau wr w.heap.size 0/\kau wr (w.heap.size+1) (uy (zs.take k)))) (fun iv _=>zs.length - (intOf iv).toNat)
 case atStart=>exact ⟨0,Nat.zero_le _,rfl,⟨aB.out,Nat.le_refl _,fM.out,wG.out⟩⟩
 case round =>
  obtain ⟨k,hk,rfl,⟨hx,lK,Xt,IA⟩⟩:=hrel;have HX:=hid hx;have GR:=hid Xt;have o8:=hid IA;clear hx Xt
  by_cases af:k < zs.length
  · obtain ⟨A',c',e',-,-,h3⟩:=HH.out.ext HX.out;injection e' with e1 e2 e3
    obtain ⟨ad,B,n,d,e4,hb,c0,c1,uM⟩:=h3 k af;obtain rfl:A=some ad:=e1.trans e4;obtain ⟨⟨SA,sn,sc,s0,s1,hs⟩,sf⟩:=IA;obtain ⟨U,hU⟩:=n_m (wr.alloc (.cells #[.bool (decide (zs[k] < 0)),.slice B n d] 30));have jF:Ext wr U:=by rw [<- hU]; exact (Ext.refl _).alloc _
    have Uw:U.heap.size=wr.heap.size+1:=by rw [<- hU]; simp
    have u0:U.cell? ⟨wr.heap.size,0,none⟩=some (.bool (decide (zs[k] < 0))):=by rw [<- hU]; simp [go_sem]
    have u1:U.cell? ⟨wr.heap.size,1,none⟩=some (.slice B n d):=by rw [<- hU]; simp [go_sem]
    have s0':=(jF.cell (p:=⟨w.heap.size+1,0,none⟩) (by show w.heap.size+1 < _; omega)).trans s0;have s1':=(jF.cell (p:=⟨w.heap.size+1,1,none⟩) (by show w.heap.size+1 < _; omega)).trans s1;have BO:=hid (xb8 _ _ (uy (zs.take k)) zs[k] D D U ⟨_,_,_,rfl,hs.ext jF,by rw [qg,xan],HL.out k⟩ ⟨_,_,_,rfl,uM.ext jF,by rw [qg,xan],HZ.out k af⟩ (by omega));have dP:=hid (jck zs k af);have JE:=hid jF;clear h3 e1 e3 e4 uM hs jF;generalize uy (zs.take k)=S at *;generalize zs[k]=z at *;go_wp2_with fail;clear hU u0 u1 s0 s1 s0' s1' c0 c1;refine BO.out.mono ?_;rintro e w2 ⟨z2,rfl,⟨y2,rfl,m2⟩,x2⟩;obtain ⟨C2,k2,rfl,-⟩:=id m2;have jT:=x2.size;have uO:=o8.out.ext (JE.out.trans x2) (by omega);have HIB:=hid (uO.set m2);have aak:Hid (kau ((w2.setCell ⟨w.heap.size+1,0,none⟩ (.bool (decide (S+z < 0)))).setCell ⟨w.heap.size+1,1,none⟩ (.slice C2 (dg (S+z).natAbs).length k2)) w.heap.size 0):=by
     obtain ⟨⟨F,m,f,f0,f1,f2⟩,ff⟩:=GR.out.ext (JE.out.trans x2) (by omega);obtain ⟨⟨G,gm,gf,g0,g1,-⟩,-⟩:=uO;have e1:(w2.setCell ⟨w.heap.size+1,0,none⟩ (.bool (decide (S+z < 0)))).cell? ⟨w.heap.size+1,1,none⟩=some (.slice G gm gf):=by rw [World.cell?_setCell_other _ _ _ _ (by simp)]; exact g1
     exact ⟨⟨F,m,f,by rw [World.cell?_setCell_other _ _ _ _ (by simp),World.cell?_setCell_other _ _ _ _ (by simp)]; exact f0,by rw [World.cell?_setCell_other _ _ _ _ (by simp),World.cell?_setCell_other _ _ _ _ (by simp)]; exact f1,(f2.box g0 rfl _).box e1 rfl _⟩,fun i=>by rw [World.frozen?_setCell,World.frozen?_setCell]; exact ff i⟩
    have Bg:Hid (Ext w ((w2.setCell ⟨w.heap.size+1,0,none⟩ (.bool (decide (S+z < 0)))).setCell ⟨w.heap.size+1,1,none⟩ (.slice C2 (dg (S+z).natAbs).length k2))):=hid (((HX.out.trans (JE.out.trans x2)).setCell (by show w.heap.size<=w.heap.size+1; omega) _).setCell (by show w.heap.size<=w.heap.size+1; omega) _);obtain ⟨⟨G,gm,gf,g0,g1,-⟩,gff⟩:=uO;clear x2 m2 BO GR o8 sf;go_wp2_with fail
    go_roundw
    case rel=>exact ⟨k+1,by omega,by go_num,⟨Bg.out,by simp [World.setCell]; omega,aak.out,by rw [dP.out]; exact HIB.out⟩⟩
    case measure=>simp [intOf]; omega
  · have bV:k=zs.length:=by omega
    obtain ⟨⟨SA,sn,sc,s0,s1,hs⟩,sf⟩:=o8.out;obtain ⟨⟨F,m,f,f0,f1,f2⟩,ff⟩:=GR.out;rw [bV,List.take_length] at s0 hs;have HF:=hid (kw (g:=w.heap.size) (z:=uy zs) HX.out (Nat.le_refl _) f0 f1 rfl rfl ⟨_,rfl,hs⟩);clear bV hs IA GR o8;generalize uy zs=S at *;go_wp2_with fail;exact bodyPost_ret (v:=.agg #[.bool (decide (S < 0)),.slice SA sn sc]) (by simp [results,Tryz.results62,go_sem,f0,f1]) rfl HF.out
def xy (l:List Pl):Pl:=Pl.ofS (l.flatMap fun p=>p.terms Mo.one)
def ww (ρ : Int -> Rat) : List Pl -> Rat
 | []=>0
 | p :: r=>p.val ρ+ww ρ r
def lnr : List Pl -> Nat
 | []=>0
 | p :: r=>p.nr+lnr r
theorem yau (l:List Pl):(xy l).Can:=Pl.ofS_can _
theorem za8 (ρ:Int->Rat) (a b:List Pl):ww ρ (a ++ b)=ww ρ a+ww ρ b:=by
 induction a with
 | nil=>simp [ww]; grind
 | cons x a ih=>rw [List.cons_append,ww,ww,ih]; grind
theorem zau (ρ:Int->Rat) (l:List Pl):(xy l).val ρ=ww ρ l:=by
 unfold xy;rw [Pl.ofS_val ρ (fun x hx=>by
  obtain ⟨p,-,hp⟩:=List.mem_flatMap.1 hx
  exact p.terms_one_nonneg x hp)]
 induction l with
 | nil=>rfl
 | cons p l ih=>rw [List.flatMap_cons,xag,Pl.terms_sval,ww,ih]
theorem xbg (a b:List Pl):lnr (a ++ b)=lnr a+lnr b:=by
 induction a with
 | nil=>simp [lnr]
 | cons x a ih=>rw [List.cons_append,lnr,lnr,ih]; omega
theorem qb8 {l:List Pl} {n:Int} (hc:∀ p ∈ l,p.Can/\p.lv<=n) (h0:0<=n) (hn:n<=4):(xy l).lv<=n:=by
 obtain ⟨k,rfl⟩:∃ k:Nat,n=k:=⟨n.toNat,by omega⟩;refine Pl.ofS_lv (by omega) (fun x hx=>?_) fun x hx i hi Fh=>?_
 · obtain ⟨p,-,hp⟩:=List.mem_flatMap.1 hx;exact p.terms_one_nonneg x hp
 · obtain ⟨p,jV,hp⟩:=List.mem_flatMap.1 hx;exact Pl.exp_above (hc p jV).1 (hc p jV).2 x hp i hi Fh
theorem ycx (p q:Pl):xy [p,q]=p.add q:=Pl.val_uniq (yau _) (Pl.add_can _ _) fun ρ=>by rw [zau,Pl.add_val,ww,ww,ww]; grind
def stp (a:Int × Nat) (p:Pl):Int × Nat:=
 if p.lv=(if a.1 < p.lv then (p.lv,0) else a).1 then ((if a.1 < p.lv then (p.lv,0) else a).1,max (if a.1 < p.lv then (p.lv,0) else a).2 p.cs.length) else (if a.1 < p.lv then (p.lv,0) else a)
theorem xbq {a:Int × Nat} {p:Pl} (h:a.1 < p.lv):stp a p=(p.lv,p.cs.length):=by
 unfold stp; rw [if_pos h,if_pos rfl]; simp
theorem qbq {a:Int × Nat} {p:Pl} (h:p.lv=a.1):stp a p=(a.1,max a.2 p.cs.length):=by
 unfold stp; rw [if_neg (show ¬ a.1 < p.lv by omega),if_pos h]
theorem ybq {a:Int × Nat} {p:Pl} (h:p.lv < a.1):stp a p=a:=by
 unfold stp; rw [if_neg (show ¬ a.1 < p.lv by omega),if_neg (by omega)]
def kae (l:List Pl):Int × Nat:=l.foldl stp (0,0)
theorem vcf (l:List Pl) (k:Nat) (h:k < l.length):kae (l.take (k+1))=stp (kae (l.take k)) l[k]:=by
 unfold kae;rw [List.take_succ_eq_append_getElem h,List.foldl_append]
 rfl
theorem ucf (l:List Pl) (M:Nat) (hl:∀ p ∈ l,0<=p.lv/\p.lv<=4/\p.cs.length<=M/\(0 < p.lv->2<=p.cs.length)) :
 (0<=(kae l).1/\(kae l).1<=4/\(kae l).2<=M/\(0 < (kae l).1->2<=(kae l).2))/\∀ p ∈ l,p.lv<=(kae l).1/\(p.lv=(kae l).1->p.cs.length<=(kae l).2):=by
 have key:∀ (l:List Pl) (a:Int × Nat),(0<=a.1/\a.1<=4/\a.2<=M/\(0 < a.1->2<=a.2))->(∀ p ∈ l,0<=p.lv/\p.lv<=4/\p.cs.length<=M/\(0 < p.lv->2<=p.cs.length)) ->
  (0<=(l.foldl stp a).1/\(l.foldl stp a).1<=4/\(l.foldl stp a).2<=M/\(0 < (l.foldl stp a).1->2<=(l.foldl stp a).2))/\(a.1 < (l.foldl stp a).1\/(a.1=(l.foldl stp a).1/\a.2<=(l.foldl stp a).2))/\∀ p ∈ l,p.lv<=(l.foldl stp a).1/\(p.lv=(l.foldl stp a).1->p.cs.length<=(l.foldl stp a).2):=by
  intro l
  induction l with
  | nil=>intro a ha _; exact ⟨ha,.inr ⟨rfl,Nat.le_refl _⟩,by simp⟩
  | cons p l ih =>
    intro a ha hp;have h1:=hp p (by simp);have hs:(0<=(stp a p).1/\(stp a p).1<=4/\(stp a p).2<=M/\(0 < (stp a p).1->2<=(stp a p).2))/\(a.1 < (stp a p).1\/(a.1=(stp a p).1/\a.2<=(stp a p).2))/\(p.lv < (stp a p).1\/(p.lv=(stp a p).1/\p.cs.length<=(stp a p).2)):=by
     rcases Int.lt_trichotomy a.1 p.lv with h | h | h
     · rw [xbq h]; exact ⟨⟨h1.1,h1.2.1,h1.2.2.1,h1.2.2.2⟩,.inl h,.inr ⟨rfl,Nat.le_refl _⟩⟩
     · rw [qbq h.symm]; refine ⟨⟨ha.1,ha.2.1,by simp only; omega,fun h0=>?_⟩,.inr ⟨rfl,by simp only; omega⟩,.inr ⟨h.symm,by simp only; omega⟩⟩;have:=ha.2.2.2 h0;simp only;omega
     · rw [ybq h]; exact ⟨ha,.inr ⟨rfl,Nat.le_refl _⟩,.inl h⟩
    obtain ⟨g1,g2,g3⟩:=ih (stp a p) hs.1 (fun q hq=>hp q (by simp [hq]));rw [List.foldl_cons];generalize l.foldl stp (stp a p)=r at *;generalize stp a p=s at *;refine ⟨g1,by omega,fun q hq=>?_⟩;rcases List.mem_cons.1 hq with rfl | hq
    · omega
    · exact g3 q hq
 obtain ⟨h1,-,h3⟩:=key l (0,0) ⟨by simp,by simp,by simp,by simp⟩ hl;exact ⟨h1,h3⟩
theorem vcy (l:List Pl) (h:0 < (kae l).1):∃ p ∈ l,p.lv=(kae l).1:=by
 have key:∀ (l:List Pl) (a:Int × Nat),(l.foldl stp a).1=a.1\/∃ p ∈ l,p.lv=(l.foldl stp a).1:=by
  intro l
  induction l with
  | nil=>intro a; exact .inl rfl
  | cons p l ih =>
    intro a;rw [List.foldl_cons];rcases ih (stp a p) with h1 | ⟨q,hq,h1⟩
    · rcases Int.lt_trichotomy a.1 p.lv with h | h | h
      · exact .inr ⟨p,by simp,by rw [h1,xbq h]⟩
      · exact .inr ⟨p,by simp,by rw [h1,qbq h.symm,h]⟩
      · exact .inl (by rw [h1,ybq h])
    · exact .inr ⟨q,by simp [hq],h1⟩
 rcases key l (0,0) with h1 | h1
 · have:(kae l).1=0:=h1;omega
 · exact h1
def partsOf (lv:Int) (i:Nat) (p:Pl):List Pl:=if p.lv=lv then (p.cs[i]?).toList else if p.lv < lv/\i=0 then [p] else []
def jl (lv:Int) (i:Nat) (l:List Pl):List Pl:=l.flatMap (partsOf lv i)
theorem vb2 (lv:Int) (i:Nat) (l:List Pl) (k:Nat) (h:k < l.length):jl lv i (l.take (k+1))=jl lv i (l.take k) ++ partsOf lv i l[k]:=by
 unfold jl;rw [List.take_succ_eq_append_getElem h,List.flatMap_append];simp
theorem wa9 (lv:Int) (i:Nat) (p:Pl):(partsOf lv i p).length<=1:=by
 unfold partsOf
 split
 · cases p.cs[i]? <;> simp
 · split <;> simp
theorem wbf (lv:Int) (i:Nat) (l:List Pl):(jl lv i l).length<=l.length:=by
 induction l with
 | nil=>simp [jl]
 | cons p l ih =>
   unfold jl at ih ⊢;rw [List.flatMap_cons,List.length_append,List.length_cons];have:=wa9 lv i p;omega
theorem ga9 {lv:Int} {i:Nat} {p c:Pl} (hp:p.Can) (h0:0 < lv) {E:Nat} (hE:p.ex E) (h:c ∈ partsOf lv i p):c.Can/\c.lv < lv/\c.ex E/\c.nr<=p.nr:=by
 unfold partsOf at h
 split at h
 · rename_i hl;obtain ⟨l,n,d,cs⟩:=p
   change l=lv at hl
   subst hl;have hc:c ∈ cs:=by
    simp only [Pl.cs,Option.mem_toList] at h;exact List.mem_of_getElem? h
   have hk:=(hp.kids h0).2.2.2.1.mem c hc;rw [Pl.ex] at hE;exact ⟨hk.2,hk.1,xat (hE.resolve_left (by omega)).2 c hc,by rw [Pl.nr,if_neg (by omega)]; exact jbc hc⟩
 · split at h
   · rename_i hl;obtain rfl:=List.mem_singleton.1 h;exact ⟨hp,hl.1,hE,Nat.le_refl _⟩
   · cases h
theorem yam {lv:Int} {i:Nat} {l:List Pl} {c:Pl} (h0:0 < lv) {E:Nat} (hl:∀ p ∈ l,p.Can/\p.ex E) (h:c ∈ jl lv i l):c.Can/\c.lv < lv/\c.ex E:=by
 obtain ⟨p,hp,hc⟩:=List.mem_flatMap.1 h;have:=ga9 (hl p hp).1 h0 (hl p hp).2 hc;exact ⟨this.1,this.2.1,this.2.2.1⟩
theorem kcj {lv:Int} {i:Nat} {l:List Pl} (h0:0 < lv) {E:Nat} (hl:∀ p ∈ l,p.Can/\p.ex E):lnr (jl lv i l)<=lnr l:=by
 induction l with
 | nil=>simp [jl,lnr]
 | cons p l ih =>
   have h1:=ih fun q hq=>hl q (by simp [hq])
   unfold jl at h1 ⊢;rw [List.flatMap_cons,xbg,lnr];have h2:lnr (partsOf lv i p)<=p.nr:=by
    have hm:=fun c hc=>ga9 (c:=c) (hl p (by simp)).1 h0 (hl p (by simp)).2 (i:=i) hc
    have hlen:=wa9 lv i p;generalize partsOf lv i p=q at *
    match q,hlen with
    | [],_=>simp [lnr]
    | [c],_=>have:=(hm c (by simp)).2.2.2; simpa [lnr] using this
   omega
def hsm (x : Rat) : (Nat -> Rat) -> Nat -> Rat
 | _,0=>0
 | f,n+1=>f 0+x * hsm x (fun i=>f (i+1)) n
theorem vb7 (x:Rat) (n:Nat):∀ f g:Nat->Rat,hsm x (fun i=>f i+g i) n=hsm x f n+hsm x g n:=by
 induction n with
 | zero=>intro f g; simp [hsm]; grind
 | succ n ih=>intro f g; simp only [hsm]; rw [ih (fun i=>f (i+1)) (fun i=>g (i+1))]; grind
theorem vat (x:Rat) (n:Nat):hsm x (fun _=>0) n=0:=by
 induction n with
 | zero=>rfl
 | succ n ih=>simp only [hsm,ih]; grind
theorem wbl (ρ:Int->Rat) (l:Int):∀ (n:Nat) (g:Nat->Pl),qf ρ l ((List.range n).map g)=hsm (ρ l) (fun i=>(g i).val ρ) n:=by
 intro n
 induction n with
 | zero=>intro g; simp [qf,hsm]
 | succ n ih =>
   intro g;rw [List.range_succ_eq_map,List.map_cons,List.map_map,qf,hsm,<- ih (fun i=>g (i+1))]
   rfl
theorem kcu (ρ:Int->Rat) (l:Int):∀ (cs:List Pl) (n:Nat),cs.length<=n->hsm (ρ l) (fun i=>ww ρ (cs[i]?).toList) n=qf ρ l cs:=by
 intro cs
 induction cs with
 | nil =>
   intro n _;rw [qf,<- vat (ρ l) n]
   congr 1
 | cons c cs ih =>
   intro n hn;obtain ⟨m,rfl⟩:∃ m,n=m+1:=⟨n - 1,by simp at hn; omega⟩;rw [hsm,qf,<- ih m (by simpa using hn)];simp [ww]
   grind
theorem uce {l:List Pl} {lv:Int} {n E:Nat} (h0:0 < lv) (h4:lv<=4) (hn:1<=n) (hl:∀ p ∈ l,p.Can/\p.ex E) (dJ:∀ p ∈ l,p.lv<=lv/\(p.lv=lv->p.cs.length<=n)) :
 xy l=uaa lv ((List.range n).map fun i=>xy (jl lv i l)):=by
 have hk:gp lv ((List.range n).map fun i=>xy (jl lv i l)):=zae fun c hc=>by
  obtain ⟨i,-,rfl⟩:=List.mem_map.1 hc;have h1:=qb8 (l:=jl lv i l) (n:=lv - 1) (fun p hp=>⟨(yam h0 hl hp).1,by have:=(yam h0 hl hp).2.1; omega⟩) (by omega) (by omega);exact ⟨by omega,yau _⟩
 obtain ⟨g1,g2,g3⟩:=za4 h0 h4 hk;refine Pl.val_uniq (yau _) g1 fun ρ=>?_
 rw [g3,wbl,zau];simp only [zau];clear g1 g2 g3 hk
 induction l with
 | nil =>
   rw [ww,<- vat (ρ lv) n]
   congr 1
 | cons p l ih =>
   rw [ww,ih (fun q hq=>hl q (by simp [hq])) (fun q hq=>dJ q (by simp [hq]))];have e1:(fun i=>ww ρ (jl lv i (p :: l)))=fun i=>ww ρ (partsOf lv i p)+ww ρ (jl lv i l):=by
    funext i
    unfold jl;rw [List.flatMap_cons,za8]
   rw [e1,vb7]
   congr 1
   obtain ⟨h1,h2⟩:=dJ p (by simp)
   by_cases he:p.lv=lv
   · have e2:(fun i=>ww ρ (partsOf lv i p))=fun i=>ww ρ (p.cs[i]?).toList:=by
      funext i
      unfold partsOf;rw [if_pos he]
     rw [e2,kcu ρ lv p.cs n (h2 he)];obtain ⟨l',ng,d,cs⟩:=p
     change l'=lv at he
     subst he;exact Pl.mk_val ρ _ _ _ h0 h4
   · obtain ⟨m,rfl⟩:∃ m,n=m+1:=⟨n - 1,by omega⟩;have e2:(fun i=>ww ρ (partsOf lv i p))=fun i=>if i=0 then p.val ρ else 0:=by
      funext i
      unfold partsOf;rw [if_neg he]
      by_cases hi:i=0
      · rw [if_pos ⟨by omega,hi⟩,if_pos hi,ww,ww]; grind
      · rw [if_neg (by omega),if_neg hi,ww]
     rw [e2,hsm];have e3:(fun i=>if i+1=0 then p.val ρ else 0)=fun _:Nat=>(0:Rat):=by
      funext i
      rw [if_neg (by omega)]
     rw [if_pos rfl,e3,vat]
     grind
theorem xcn {l:List Pl} (hl:∀ p ∈ l,p.Can/\p.lv=0):xy l=Pl.const (uy (l.map Pl.z)):=Pl.val_uniq (yau _) (ut _) fun ρ=>by
 rw [zau,Pl.const_val]
 induction l with
 | nil=>simp [ww,uy]
 | cons p l ih =>
   have h1:=hl p (by simp);rw [ww,ih fun q hq=>hl q (by simp [hq]),List.map_cons,uy];have h2:p.val ρ=(Pl.const p.z).val ρ:=congrArg (fun p=>p.val ρ) (jan h1.1 h1.2);rw [h2,Pl.const_val]
   push_cast
   rfl
theorem yc8 {l:List Pl} (hl:∀ p ∈ l,p.Can/\p.lv=0):inr (l.map Pl.z)=lnr l:=by
 induction l with
 | nil=>rfl
 | cons p l ih =>
   have h1:=hl p (by simp);rw [List.map_cons,inr,lnr,ih fun q hq=>hl q (by simp [hq])];have h2:=congrArg Pl.nr (jan h1.1 h1.2);rw [Pl.const_nr] at h2;rw [h2]
end Go.Proofs.YtcepajijiabkmaaGreat
