/- Layer 22: recpoly.degree. -/
import Derived.Test.YtcepajijiabkmaaGreatMp26
set_option linter.unusedSimpArgs false
set_option linter.unusedVariables false

namespace Go.Proofs.YtcepajijiabkmaaGreat
open Lib (hid)
open Go.RowKit
theorem Pl.qbB {l:Int} {p:Pl} (h:p.lv < l):p.yq l=0:=by cases p; simp only [Pl.lv] at h; rw [Pl.yq,if_pos h]
theorem Pl.qbD {l:Int} {p:Pl} (h:p.lv=l):p.yq l=p.cs.length - 1:=by
 cases p; simp only [Pl.lv,Pl.cs] at *; rw [Pl.yq,if_neg (by omega),if_pos h]
theorem Pl.qbC {l:Int} {p:Pl} (h:l < p.lv):p.yq l=yw l 0 p.cs:=by
 cases p; simp only [Pl.lv,Pl.cs] at *; rw [Pl.yq,if_neg (by omega),if_neg (by omega)]
def joinL (l:Int) (cs:List Pl):Pl:=if 1<=l/\l<=4 then (Pl.mk l false [] cs).nf else Pl.zero
def qo (l:Int) (p:Pl):Pl:=(p.xi l).getD ((p.xi l).length - 1) Pl.zero
def xak (l:Int) (p:Pl):Pl:=joinL l (p.xi l).dropLast
def ji (l i:Int) (p:Pl):Pl:=if i < 0 then Pl.zero else (p.xi l).getD i.toNat Pl.zero
def mdg (l:Int) (p:Pl):Int:=((p.xi l).length:Int) - 1
def zaj : Int -> List Pl -> List Pl
 | _,[]=>[]
 | k,c :: r=>c.mul (Pl.const k) :: zaj (k+1) r
def jac (l:Int) (p:Pl):Pl:=if 1<=l/\l<=4 then joinL l (zaj 1 (p.xi l).tail) else Pl.zero
theorem wai : ∀ (k : Int) (cs : List Pl), (zaj k cs).length = cs.length
 | _,[]=>rfl
 | k,c :: r=>by rw [zaj,pL,pL,wai (k+1) r]
theorem ka3 : ∀ (k : Int) (cs : List Pl) (i : Nat) (h : i < cs.length) (h' : i < (zaj k cs).length), (zaj k cs)[i] = cs[i].mul (Pl.const (k + i))
 | k,c :: r,0,_,_=>by simp only [zaj,tT]; rw [Int.natCast_zero,Int.add_zero]
 | k,c :: r,i+1,h,h'=>by
   simp only [zaj,Rm];rw [ka3 (k+1) r i (by simpa using h)]
   congr 2
   omega
theorem zcn {l:Int} {p:Pl} (h:p.Can):mdg l p=if p.zp=true then -1 else if 1<=l/\l<=4 then p.yq l else 0:=by
 unfold mdg
 by_cases hz:p.zp=true
 · rw [if_pos hz,Pl.xi,if_pos hz]; rfl
 · rw [if_neg hz]
   by_cases hl:1<=l/\l<=4
   · have hd:=Pl.kB hl.1 p h p.ke;rw [if_pos hl,Pl.K5 hl.1 hl.2 h (fun e=>hz ((Pl.xj h).2 e))];omega
   · rw [if_neg hl,Pl.xi,if_neg hz,if_neg hl]; rfl
theorem xbx {l:Int} (p:Pl):-1<=mdg l p:=by unfold mdg; omega
theorem jav {l:Int} {p:Pl} (h:p.Can):mdg l p=-1 ↔ p=Pl.zero:=by
 constructor
 · intro e;have hc:p.xi l=[]:=rL (by unfold mdg at e; omega);rw [Pl.xi] at hc
   split at hc
   · rename_i hz; exact (Pl.xj h).1 hz
   · split at hc
     · have:=congrArg List.length hc;rw [px,Pl.xz] at this;simp at this
     · cases hc
 · rintro rfl; unfold mdg; rw [Pl.kr]; rfl
theorem wan {l:Int} {p:Pl} {E:Nat} (h:p.Can) (he:p.ex E):mdg l p<=E:=by
 rw [zcn h]
 split
 · omega
 · split
   · rename_i hl; exact (Pl.kB hl.1 p h he).2
   · omega
theorem qae (l:Int) (cs:List Pl):(joinL l cs).Can:=by
 unfold joinL
 split
 · exact Pl.xT _
 · exact Pl.qS
theorem zad {l:Int} (hl:1<=l) (ag:l<=4) (ρ:Int->Rat) (cs:List Pl):(joinL l cs).val ρ=ve ρ l cs:=by
 unfold joinL;rw [if_pos ⟨hl,ag⟩,Pl.js,Pl.mk_val ρ _ _ _ (by omega) ag]
theorem wag {L:List Pl} (h:∀ c ∈ L,c.Can) (i:Nat):(L.getD i Pl.zero).Can:=by
 rw [pr]
 by_cases hi:i < L.length
 · rw [po hi]; exact h _ (pt hi)
 · rw [sA (by omega)]; exact Pl.qS
theorem jad {P:Pl->Prop} {L:List Pl} (hz:P Pl.zero) (h:∀ c ∈ L,P c) (i:Nat):P (L.getD i Pl.zero):=by
 rw [pr]
 by_cases hi:i < L.length
 · rw [po hi]; exact h _ (pt hi)
 · rw [sA (by omega)]; exact hz
theorem kaq {l:Int} {p:Pl} (h:p.Can):∀ c ∈ p.xi l,c.Can:=by
 intro c hc;rw [Pl.xi] at hc
 split at hc
 · cases hc
 · split at hc
   · obtain ⟨d,-,rfl⟩:=pZ.1 hc;exact d.xT
   · rw [pD.1 hc]; exact h
theorem Mo.qaN {m n:Mo} (l e:Int) (h1:0 < l) (h4:l<=4):(m.mul n).put l (m.get l+e)=m.mul (n.put l e):=by
 rcases (show l=1\/l=2\/l=3\/l=4 by omega) with rfl | rfl | rfl | rfl <;> rfl
mutual
theorem Pl.j8 (m : Mo) : ∀ (p : Pl) (n : Mo), ∀ x ∈ p.qt (m.mul n), ∃ y ∈ p.qt n, x.2 = m.mul y.2 /\ x.1 = y.1
 | .mk l ng d cs,n,x,hx=>by
   rw [Pl.qt] at hx ⊢
   split at hx
   · rename_i h;rw [if_pos h,pD.1 hx];exact ⟨_,pD.2 rfl,rfl,rfl⟩
   · rename_i h;rw [if_neg h]
     split at hx
     · cases hx
     · rename_i h4;rw [if_neg h4];rw [Mo.Zs] at hx;exact va4 m cs n l (n.get l) (by omega) (by omega) x hx
theorem va4 (m : Mo) : ∀ (cs : List Pl) (n : Mo) (l e : Int), 0 < l -> l <= 4 -> ∀ x ∈ xe (m.mul n) l (m.get l + e) cs, ∃ y ∈ xe n l e cs, x.2 = m.mul y.2 /\ x.1 = y.1
 | [],n,l,e,_,_,x,hx=>by rw [xe] at hx; cases hx
 | c :: r,n,l,e,h1,h4,x,hx=>by
   rw [xe] at hx ⊢;rcases rj.1 hx with hx | hx
   · rw [Mo.qaN l e h1 h4] at hx;obtain ⟨y,hy,e1⟩:=Pl.j8 m c _ x hx;exact ⟨y,List.mem_append_left _ hy,e1⟩
   · rw [Int.add_assoc] at hx;obtain ⟨y,hy,e1⟩:=va4 m r n l (e+1) h1 h4 x hx;exact ⟨y,List.mem_append_right _ hy,e1⟩
end
theorem Mo.mul_one (m:Mo):m.mul Mo.one=m:=by
 unfold Mo.mul Mo.one;simp
theorem ug.kids {l lv:Int} {ng:Bool} {ds:List Nat} {cs:List Pl} (h:(Pl.mk lv ng ds cs).Can) (hl:0 < l) (af:l < lv) (hi:ug l (.mk lv ng ds cs)):∀ c ∈ cs,ug l c:=by
 obtain ⟨-,-,h2,hk,-⟩:=h.kids (by omega);have h4:lv<=4:=h.qq.2;intro c hc ρ ρ' he;obtain ⟨i,jI,rfl⟩:=tj hc;have key:∀ x:Rat,hsum x (cs.map (Pl.val ρ))=hsum x (cs.map (Pl.val ρ')):=by
  intro x;have h1:∀ σ:Int->Rat,hsum x (cs.map (Pl.val σ))=(Pl.mk lv ng ds cs).val fun j=>if j=lv then x else σ j:=by
   intro σ;rw [Pl.mk_val _ _ _ _ (by omega) h4,kag,if_pos rfl]
   congr 1
   refine S7 fun d hd=>Pl.kj d (hk.mem d hd).2 fun j hj=>?_
   have:=(hk.mem d hd).1;rw [if_neg (by omega)]
  rw [h1,h1];exact hi _ _ fun j hj=>by
   by_cases qR:j=lv
   · rw [if_pos qR,if_pos qR]
   · rw [if_neg qR,if_neg qR]; exact he j hj
 have hz:=uby cs.length ((List.range cs.length).map fun i=>(cs.getD i Pl.zero).val ρ+(-1) * (cs.getD i Pl.zero).val ρ') (by simp) (fun x _=>by
  rw [ya3 cs.length (fun i=>(cs.getD i Pl.zero).val ρ) (fun i=>(cs.getD i Pl.zero).val ρ'),ga8 x ρ cs _ (pj _),ga8 x ρ' cs _ (pj _),key]
  grind)
 have:=hz _ (pZ.2 ⟨i,SM.2 jI,rfl⟩);rw [pr,po jI,Pf] at this
 grind
theorem kay (m : Mo) (l : Int) : ∀ (cs : List Pl) (e : Int), ∀ x ∈ xe m l e cs, ∃ c ∈ cs, ∃ i : Nat, i < cs.length /\ x ∈ c.qt (m.put l (e + i))
 | [],e,x,hx=>by rw [xe] at hx; cases hx
 | c :: r,e,x,hx=>by
   rw [xe] at hx;rcases rj.1 hx with hx | hx
   · exact ⟨c,by simp,0,by simp,by simpa using hx⟩
   · obtain ⟨d,hd,i,h,hm⟩:=kay m l r (e+1) x hx;refine ⟨d,by simp [hd],i+1,by simpa using h,?_⟩;rw [show e+((i+1:Nat):Int)=e+1+i by omega];exact hm
theorem vbp {l : Int} (hl : 0 < l) (ag : l <= 4) : ∀ p : Pl, p.Can -> ug l p -> ∀ x ∈ p.qt Mo.one, x.2.get l = 0
 | .mk lv ng ds cs,h,hi,x,hx=>by
   have h4:=h.qq;simp only [Pl.lv] at h4
   by_cases h1:lv < l
   · have:=Pl.yo h (n:=lv.toNat) (by show lv<=_; omega) x hx l.toNat (by omega) (by omega)
     rwa [show ((l.toNat:Nat):Int)=l by omega] at this
   · have ax:=zbf hl h hi;simp only [Pl.lv] at ax;obtain ⟨-,-,-,hk,-⟩:=h.kids (by omega);rw [Pl.qt,if_neg (by omega),if_neg (by omega)] at hx;obtain ⟨c,gU,i,af,hm⟩:=kay _ _ _ _ x hx;have hmul:Mo.one.put lv (Mo.one.get lv+(i:Int))=(Mo.one.put lv (Mo.one.get lv+(i:Int))).mul Mo.one:=(Mo.mul_one _).symm;rw [hmul] at hm;obtain ⟨y,hy,e1,-⟩:=Pl.j8 _ _ _ x hm;rw [e1,Mo.Zs,vbp hl ag c (hk.mem c gU).2 (ug.kids h hl (by omega) hi c gU) y hy];have:=Mo.zr Mo.one lv.toNat (Mo.one.get lv+(i:Int)) (by omega) (by omega) l.toNat (by omega) (by omega);rw [show ((l.toNat:Nat):Int)=l by omega,show ((lv.toNat:Nat):Int)=lv by omega,if_neg (by omega)] at this;rw [this];rcases (show l=1\/l=2\/l=3\/l=4 by omega) with rfl | rfl | rfl | rfl <;> rfl
theorem waw (m : Mo) (l : Int) : ∀ (cs : List Pl) (e : Int), (∀ c ∈ cs, c.Can) -> zg (xe m l e cs) = ql cs
 | [],e,_=>rfl
 | c :: r,e,h=>by rw [xe,wah,ql,Pl.j9 c _ (h c (by simp)),waw m l r (e+1) fun d hd=>h d (by simp [hd])]
theorem xa7 {l:Int} {cs:List Pl} {E D:Nat} (h:∀ c ∈ cs,c.Can/\ug l c/\c.ex E) (hlen:cs.length<=E+1) (hn:ql cs < B32 ^ D):Fit (joinL l cs) E D:=by
 unfold joinL
 split
 · rename_i hl;refine ⟨Pl.xT _,Pl.vA fun x hx=>?_,sw (Pl.kA _) ?_⟩
   · rw [Pl.qt,if_neg (by omega),if_neg (by omega)] at hx;obtain ⟨c,gU,i,af,hm⟩:=kay _ _ _ _ x hx;obtain ⟨hc,hi,he⟩:=h c gU;rw [<- Mo.mul_one (Mo.one.put l (Mo.one.get l+(i:Int)))] at hm;obtain ⟨y,hy,e1,-⟩:=Pl.j8 _ _ _ x hm;have oV:=vbp (by omega) hl.2 _ hc hi y hy;have Zp:=(Pl.Kk hc he).exps y hy;rw [e1];unfold Mo.le Mo.mul Mo.put Mo.one Mo.get at *;rcases (show l=1\/l=2\/l=3\/l=4 by omega) with rfl | rfl | rfl | rfl <;> simp at * <;> omega
   · rw [Pl.qt,if_neg (by omega),if_neg (by omega),waw _ _ _ _ fun c hc=>(h c hc).1];exact hn
 · exact Fit.zero
theorem gcv {cs:List Pl} {M:Nat} (h:∀ c ∈ cs,c.nr<=M):ql cs<=cs.length * M:=by
 induction cs with
 | nil=>rw [ql]; exact pS _
 | cons c r ih =>
   have h1:=ih fun d hd=>h d (by simp [hd])
   have h2:=h c (by simp);rw [ql,pL,PJ];omega
theorem jbe {cs:List Pl} {E D:Nat} (h:∀ c ∈ cs,Fit c E D) (hlen:cs.length<=B32):ql cs < B32 ^ (D+1):=by
 have h1:ql cs<=cs.length * (B32 ^ D - 1):=gcv fun c hc=>by have:=(h c hc).nr; omega
 have h2:cs.length * (B32 ^ D - 1)<=B32 * (B32 ^ D - 1):=pE _ hlen;have h3:0 < B32 ^ D:=tp (by decide);rw [se,sj];have h4:B32 * (B32 ^ D - 1) < B32 * B32 ^ D:=Te (by omega) (by decide);omega
theorem kaa {l:Int} (hl:1<=l) (ag:l<=4) {p:Pl} (h:p.Can):∀ c ∈ p.xi l,ug l c:=(Pl.xf hl ag h).ind
theorem uu {l:Int} {p:Pl} {E:Nat} (h:p.Can) (he:p.ex E):(p.xi l).length<=E+1:=by
 have:=wan (l:=l) h he;unfold mdg at this;omega
theorem gbd {l:Int} {p:Pl} {E D:Nat} (h:Fit p E D) (hE:E < B32):Fit (xak l p) E (D+1):=by
 by_cases hl:1<=l/\l<=4
 · have hm:∀ c ∈ (p.xi l).dropLast,c ∈ p.xi l:=fun c hc=>(List.dropLast_sublist _).mem hc
   have hlen:(p.xi l).dropLast.length<=E+1:=by
    have:=uu (l:=l) h.can h.ex;rw [List.length_dropLast]; omega
   exact xa7 (fun c hc=>⟨kaq h.can c (hm c hc),kaa hl.1 hl.2 h.can c (hm c hc),(Pl.zP h c (hm c hc)).ex⟩) hlen (jbe (fun c hc=>Pl.zP h c (hm c hc)) (by omega))
 · unfold xak joinL;rw [if_neg hl];exact Fit.zero
theorem zam {l:Int} {p:Pl} {E D:Nat} (h:Fit p E D):Fit (qo l p) E D:=jad (P:=fun c=>Fit c E D) Fit.zero (Pl.zP h) _
theorem uar {l i:Int} {p:Pl} {E D:Nat} (h:Fit p E D):Fit (ji l i p) E D:=by
 unfold ji
 split
 · exact Fit.zero
 · exact jad (P:=fun c=>Fit c E D) Fit.zero (Pl.zP h) _
theorem xbf {k:Int} {cs:List Pl} {c:Pl} (h:c ∈ zaj k cs):∃ d ∈ cs,∃ i:Nat,i < cs.length/\c=d.mul (Pl.const (k+i)):=by
 obtain ⟨i,hi,rfl⟩:=tj h;have jI:i < cs.length:=by rw [wai] at hi; exact hi
 exact ⟨cs[i],pt jI,i,jI,ka3 k cs i jI hi⟩
theorem ug.mul {l:Int} {p q:Pl} (h:ug l p) (k:ug l q):ug l (p.mul q):=fun ρ ρ' he=>by rw [Pl.qD,Pl.qD,h ρ ρ' he,k ρ ρ' he]
theorem ug.add {l:Int} {p q:Pl} (h:ug l p) (k:ug l q):ug l (p.add q):=fun ρ ρ' he=>by rw [Pl.yi,Pl.yi,h ρ ρ' he,k ρ ρ' he]
theorem ug.z8 {l:Int} {p:Pl} (h:ug l p):ug l p.z8:=fun ρ ρ' he=>by rw [Pl.xV,Pl.xV,h ρ ρ' he]
theorem ug.const (l z:Int):ug l (Pl.const z):=fun ρ ρ' _=>by rw [Pl.qT,Pl.qT]
theorem qcz (l:Int) (p:Pl):(jac l p).Can:=by
 unfold jac
 split
 · exact qae _ _
 · exact Pl.qS
theorem kau {α : Type} {x : α} : ∀ {L : List α}, x ∈ L.tail -> x ∈ L
 | _ :: _,h=>rz _ h
theorem uav {l:Int} {p:Pl} {E D:Nat} (h:Fit p E D) (hE:E < B32):Fit (jac l p) E (D+2):=by
 unfold jac
 split
 · rename_i hl;have hlen:=uu (l:=l) h.can h.ex;have hf:∀ c ∈ zaj 1 (p.xi l).tail,Fit c E (D+1)/\ug l c:=fun c hc=>by
    obtain ⟨d,hd,i,hi,rfl⟩:=xbf hc;rw [u6] at hi;refine ⟨?_,(kaa hl.1 hl.2 h.can d (kau hd)).mul (ug.const l _)⟩;have:=(Pl.zP h d (kau hd)).mul (Fit.const (E:=0) (D:=1) (z:=1+(i:Int)) (by rw [Nat.pow_one]; omega));exact this.mono (by omega) (by omega)
   exact xa7 (fun c hc=>⟨(hf c hc).1.can,(hf c hc).2,(hf c hc).1.ex⟩) (by rw [wai,u6]; omega) (jbe (fun c hc=>(hf c hc).1) (by rw [wai,u6]; omega))
 · exact Fit.zero
end Go.Proofs.YtcepajijiabkmaaGreat

set_option maxRecDepth 100000
set_option maxHeartbeats 8000000
namespace Go.Proofs.YtcepajijiabkmaaGreat
open Lib (hid)
open Go.RowKit
theorem zao (l:Int) (w:World):Calls Tryz.prog 35 #[.int .i64 l] w fun e w'=>e=.returned (.bool (decide (1<=l) && decide (l<=4)))/\w'=w:=by
 by_cases h:1<=l
 · go_enter Tryz.func35,Tryz.ntmps35;go_wp2_with fail;go_ret;simp [h]
 · go_enter Tryz.func35,Tryz.ntmps35;go_wp2_with fail;go_ret;have h':l < 1:=by omega
   simp [h]; omega
def gdc (w0:World) (q:Nat->Prop) (l:Int) (n:Nat):Prop:=∀ (p:Pl) (v:Value) (w:World),p.sz < n->p.Can->p.cs.length<=1099511627776->(∀ c ∈ p.cs,c.sz<=1099511627776)->PlV w0 q p v->Ext w0 w->Calls Tryz.prog 136 #[v,.int .i64 l] w (gbf (p.yq l) w)
theorem qc8 (w0:World) (q:Nat->Prop) (l:Int) (hl:1<=l) (n:Nat):gdc w0 q l n:=by
 induction n with
 | zero=>intro p v w h; omega
 | succ n ih =>
 intro p v w hn dD hlen hks h aC;obtain ⟨A0,n0,c0,A,c,rfl,-,dP,dC,h4⟩:=h.open_;have IH:=hid ih;have H4:=hid h4;have ay:=hid aC;have jD:Hid (∀ k (hk:k < p.cs.length),p.cs[k].sz < n/\p.cs[k].Can/\p.cs[k].cs.length<=1099511627776/\∀ c ∈ p.cs[k].cs,c.sz<=1099511627776):=by
  have:∀ k (hk:k < p.cs.length),p.cs[k].sz < n/\p.cs[k].Can/\p.cs[k].cs.length<=1099511627776/\∀ c ∈ p.cs[k].cs,c.sz<=1099511627776:=fun k hk=>by
   have hm:=pt hk;have h1:=Pl.jn hm;have h2:=hks _ hm;have h3:=Pl.kg p.cs[k];refine ⟨by omega,?_,by omega,fun c hc=>by have:=Pl.jn hc; omega⟩;obtain ⟨lv,ng,ds,cs⟩:=p;rcases Int.lt_or_le 0 lv with h0 | h0
   · exact ((dD.kids h0).2.2.2.1.mem _ hm).2
   · have:cs=[]:=by
      have:=dD;rw [Pl.Can] at this;rcases this with ⟨-,h,-⟩ | ⟨h,-⟩
      · exact h
      · omega
     subst this;cases hm
  exact this
 obtain ⟨W,hW⟩:=n_m (w.alloc (.cells #[.int .i64 p.lv,.bool p.neg,.slice A0 n0 c0,.slice A p.cs.length c] 33));have ai:Ext w W:=by rw [<- hW]; exact (Ext.refl w).alloc _
 have dG:W.heap.size=w.heap.size+1:=by rw [<- hW]; simp
 have bV:jb W w.heap.size p (.slice A0 n0 c0) (.slice A p.cs.length c):=by rw [<- hW]; exact jb.new w p _ _ _
 have aG:=hid ai;have kL:=hid bV;obtain ⟨b0,b1,b2,b3⟩:=bV;clear h h4 ih aC hks ai;unfold plV
 by_cases k1:p.lv < l
 · rw [Pl.qbB k1];have q1:decide (p.lv < l)=true:=by simpa using k1
   go_enter Tryz.func136,Tryz.ntmps136;go_wp2_with fail;go_ret;exact ⟨rfl,aG.out⟩
 by_cases k2:p.lv=l
 · rw [Pl.qbD k2];have q1:decide (p.lv < l)=false:=by simpa using k1
   have q2:(p.lv == l)=true:=by simpa using k2
   have hw:IntKind.i64.wrap ((p.cs.length:Int) - 1)=(p.cs.length:Int) - 1:=by simp [IntKind.wrap,IntKind.bits,IntKind.signed]; omega
   have Yo:=hid hw;clear k1 k2;clear jD kL H4;generalize p.cs.length=N at *;go_enter Tryz.func136,Tryz.ntmps136;go_wp2_with fail;go_ret;exact ⟨by first | rfl | rw [Yo.out],aG.out⟩
 · rw [Pl.qbC (by omega)];have q1:decide (p.lv < l)=false:=by simpa using k1
   have q2:(p.lv == l)=false:=by simpa using k2
   clear k1 k2;go_enter Tryz.func136,Tryz.ntmps136;go_wp2_with fail;clear hW b0 b1 b2 b3
   go_loopw [25,5] (fun iv mv wr=>∃ k:Nat,k<=p.cs.length/\iv=.int .i64 k/\Hid (mv=.int .i64 (yw l 0 (p.cs.take k))/\Ext W wr)) (fun iv _ _=>p.cs.length - (intOf iv).toNat)
   case atStart=>exact ⟨0,pS _,rfl,⟨by simp [yw],Ext.refl W⟩⟩
   case round =>
    obtain ⟨k,hk,rfl,⟨rfl,iR⟩⟩:=hrel;have Dl:=hid iR
    by_cases af:k < p.cs.length
    · obtain ⟨ad,B0,m0,d0,B1,m1,d1,rfl,ah,bP,bC⟩:=jd.ym H4.out k af;have bQ:Ext w0 wr:=(ay.out.trans aG.out).trans iR;obtain ⟨e0,e1,e2,e3⟩:=bP.ext bQ (by rw [ja]; exact ah);obtain ⟨uS,oW,BD,BC⟩:=jD.out k af;have HC:=hid (fun W' (qI:Ext wr W')=>IH.out p.cs[k] _ W' uS oW BD BC bC (bQ.trans qI));have bY:Hid (yw l 0 (p.cs.take (k+1))=max (yw l 0 (p.cs.take k)) (p.cs[k].yq l)):=by
       have:yw l 0 (p.cs.take (k+1))=max (yw l 0 (p.cs.take k)) (p.cs[k].yq l):=kce _ _ _ _ af;exact this
      generalize yw l 0 (p.cs.take k)=mm at *;generalize p.cs[k]=ck at *;generalize ck.yq l=dk at *;clear bP bC ah uS oW BD BC bQ iR;go_wp2_with fail;refine (HC.out _ ((Ext.refl _).alloc _)).mono ?_;rintro e w2 ⟨rfl,x2⟩;have X2:=hid ((Dl.out.alloc _).trans x2);clear x2 HC e0 e1 e2 e3;go_wp2_with fail
      go_roundw
      case rel=>exact ⟨k+1,by omega,by go_num,⟨by rw [bY.out],X2.out⟩⟩
      case measure=>simp only [intOf]; omega
    · have df:k=p.cs.length:=by omega
      rw [df,pP];clear iR df;generalize yw l 0 p.cs=mm at *;go_wp2_with fail;go_ret;exact ⟨rfl,aG.out.trans Dl.out⟩
theorem jb0 {w:World} {q:Nat->Prop} {l:Int} (hl:1<=l) (p:Pl) (v:Value) (dD:p.Can) (hsz:p.sz<=1099511627776) (h:PlV w q p v):Calls Tryz.prog 136 #[v,.int .i64 l] w (gbf (p.yq l) w):=
 qc8 w q l hl (p.sz+1) p v w (tx _) dD (by have:=Pl.kg p; omega) (fun c hc=>by have:=Pl.jn hc; omega) h (Ext.refl w)
theorem kab {w:World} {p:Pl} {q0:Nat->Prop} (v0:Value) (h0:PlV w q0 p v0) (hp:p.Can):Calls Tryz.prog 20 #[v0] w (vao p.zp w):=by
 have H0:=hid h0;obtain ⟨A0,n0,c0,B0,d0,rfl,-,-,-,-⟩:=h0.open_;clear h0;obtain ⟨W,hW⟩:=n_m (w.alloc (.cells #[.int .i64 (p).lv,.bool (p).neg,.slice A0 n0 c0,.slice B0 (p).cs.length d0] 33));have ai:Ext w W:=by rw [<- hW]; exact (Ext.refl w).alloc _
 have dG:W.heap.size=w.heap.size+1:=by rw [<- hW]; simp
 have ay:=hid ai;have HS:Hid (∀ W',Ext W W'->(Ext w W'/\jb W' (w.heap.size) p (.slice A0 n0 c0) (.slice B0 (p).cs.length d0))):=by
  have:∀ W',Ext W W'->(Ext w W'/\jb W' (w.heap.size) p (.slice A0 n0 c0) (.slice B0 (p).cs.length d0)):=fun W' hx=>by
   obtain ⟨hc,hf⟩:=hx.cells;refine ⟨ai.trans hx,?_,?_,?_,?_⟩ <;> (rw [hc _ _ (by omega),<- hW]; simp [go_sem])
  exact this
 obtain ⟨-,b0,b1,b2,b3⟩:=HS.out W (Ext.refl W);clear ai;unfold plV;go_enter Tryz.func20,Tryz.ntmps20;go_wp2_with fail;clear hW b0 b1 b2 b3;refine (ut _ (H0.out.ext ay.out) hp).mono ?_;rintro e w1 ⟨z1,rfl,m1,x1⟩;obtain ⟨C1,i1,j1,D1,k1,rfl,-⟩:=id m1.open_;have O6:=hid (x1);obtain ⟨-,b0,b1,b2,b3⟩:=HS.out _ O6.out;unfold plV;go_wp2_with fail;clear b0 b1 b2 b3;refine (jae p _ m1).mono ?_;rintro e w2 ⟨rfl,x2⟩;have YY2:=hid (O6.out.trans x2)
 replace m1:=m1.ext x2
 have X2:=hid (ay.out.trans YY2.out);clear m1 x1 x2 HS;generalize p.zp=res at *;go_wp2_with fail;go_ret;exact ⟨rfl,X2.out⟩
theorem xaf {w:World} {q:Nat->Prop} {p:Pl} {l:Int} (v:Value) (hp:p.Can) (hsz:p.sz<=1099511627776) (gY:p.dm<=35184372088832) (h:PlV w q p v):Calls Tryz.prog 109 #[v,.int .i64 l] w (gbf (mdg l p) w):=by
 have HP:=hid h;obtain ⟨A0,n0,c0,A,c,rfl,-⟩:=h.open_;obtain ⟨W,hW⟩:=n_m (w.alloc (.cells #[.int .i64 p.lv,.bool p.neg,.slice A0 n0 c0,.slice A p.cs.length c] 33));have ai:Ext w W:=by rw [<- hW]; exact (Ext.refl w).alloc _
 have Mc:PBx W (fun _=>True) w.heap.size p:=by rw [<- hW]; exact PBx.new (h.mono fun _ _=>trivial) _
 obtain ⟨r,hr⟩:=n_m (mdg l p);have HM:Hid (r=if p.zp=true then -1 else if 1<=l/\l<=4 then p.yq l else 0):=hid (by rw [<- hr]; exact zcn hp);rw [hr];clear hr;have HC:=hid hp;have HN:=hid (qab _ (HP.out.ext ai) hp hsz gY);have aG:=hid ai;have dJ:=hid Mc;have QF:=ai.size;obtain ⟨-,-,B0,b0n,b0c,B1,b1c,⟨b0,b1,b2,b3⟩,-⟩:=id Mc;have hE:jb W (w.heap.size) p (.slice A0 n0 c0) (.slice A p.cs.length c):=by
  rw [<- hW]; exact ⟨by simp [go_sem],by simp [go_sem],by simp [go_sem],by simp [go_sem]⟩
 clear b0 b1 b2 b3 h hp Mc ai;obtain ⟨b0,b1,b2,b3⟩:=hE;unfold plV at HN;unfold plV;go_enter Tryz.func109,Tryz.ntmps109;go_wp2_with fail;clear hW b0 b1 b2 b3;refine HN.out.mono ?_;rintro e w1 ⟨v1,rfl,m1,x1⟩;obtain ⟨C0,j0,f0,C1,f1,rfl,-⟩:=id m1.open_;have qW:=dJ.out.ext x1;obtain ⟨-,bG,B0,b0n,b0c,B1,b1c,⟨b0,b1,b2,b3⟩,-⟩:=id qW;have hsW:w.heap.size < W.heap.size:=dJ.out.1;have xH:=qW.store (Q':=fun _=>True) (m1.mono fun b hb=>⟨trivial,by omega⟩);obtain ⟨W1,aV⟩:=n_m (((((w1.setCell ⟨w.heap.size,0,none⟩ (.int .i64 p.lv)).setCell ⟨w.heap.size,1,none⟩ (.bool p.neg)).setCell ⟨w.heap.size,2,none⟩ (.slice C0 j0 f0)).setCell ⟨w.heap.size,3,none⟩ (.slice C1 p.cs.length f1)));have X1:Hid (Ext w W1):=hid (by rw [<- aV]; exact ((((aG.out.trans x1).setCell (pj _) _).setCell (pj _) _).setCell (pj _) _).setCell (pj _) _);rw [aV] at xH;have yB:=hid xH;have Eh:=bG 0;have f1':=bG 1;have f2':=bG 2;have f3':=bG 3;have hd:jb W1 (w.heap.size) p (.slice C0 j0 f0) (.slice C1 p.cs.length f1):=by
  rw [<- aV]; exact jb.set (dJ.out.ext x1).2.2.choose_spec.choose_spec.choose_spec.choose_spec.choose_spec.1
 have Dv:Hid (PlV W1 (fun b=>W.heap.size<=b) p (plV p (.slice C0 j0 f0) (.slice C1 p.cs.length f1))):=hid (by rw [<- aV]; exact qW.stays m1 (fun b hb=>by omega) _ _ _ _ _ _ _ _);have HD:Hid (∀ W',Ext W1 W'->jb W' (w.heap.size) p (.slice C0 j0 f0) (.slice C1 p.cs.length f1)):=hid (fun W' hx=>by
  have k:∀ i,W'.cell? ⟨w.heap.size,i,none⟩=W1.cell? ⟨w.heap.size,i,none⟩:=fun i=>hx.cell (p:=⟨w.heap.size,i,none⟩) yB.out.1
  exact ⟨(k 0).trans hd.1,(k 1).trans hd.2.1,(k 2).trans hd.2.2.1,(k 3).trans hd.2.2.2⟩)
 have fZ:=hid (kab _ Dv.out HC.out);unfold plV at fZ;unfold plV;clear qW xH bG m1 x1 HN;go_upto_region 2 with fail
 try rw [aV]
 clear aV b0 b1 b2 b3 Eh f1' f2' f3';obtain ⟨b0,b1,b2,b3⟩:=hd;go_wp2_with fail;clear b0 b1 b2 b3;refine fZ.out.mono ?_;rintro e w2 ⟨rfl,x2⟩
 by_cases hz:p.zp=true
 · have hM:=HM.out;rw [if_pos hz] at hM;have HR:=hid hM;rw [hz];have X2:=hid (X1.out.trans x2);clear x2 fZ hM hz HM;go_wp2_with fail;go_ret;exact ⟨by rw [HR.out]; rfl,X2.out⟩
 · rw [show p.zp=false by simpa using hz];have hM:=HM.out;rw [if_neg hz] at hM;have X2:=hid (X1.out.trans x2);have Ye:=hid x2;have YC:=hid hM;clear x2 fZ hz hM HM;go_wp2_with fail;refine (zao l _).mono ?_;rintro e w3 ⟨rfl,rfl⟩;have hM:=YC.out;clear YC
   by_cases hl:1<=l/\l<=4
   · rw [if_pos hl] at hM;have HR:=hid hM;clear hM;have rC:(decide (1<=l) && decide (l<=4))=true:=by simp [hl]
     rw [rC];have oQ:=hid (fun (W':World) (hx:Ext W1 W')=>jb0 hl.1 p _ HC.out hsz (Dv.out.ext hx));unfold plV at oQ;obtain ⟨b0,b1,b2,b3⟩:=HD.out _ Ye.out;clear hl rC;go_wp2_with fail;refine (oQ.out _ Ye.out).mono ?_;rintro e w4 ⟨rfl,x4⟩;have X4:=hid (X2.out.trans x4);clear x4 oQ b0 b1 b2 b3;go_wp2_with fail;go_ret;exact ⟨by rw [HR.out]; rfl,X4.out⟩
   · rw [if_neg hl] at hM;have HR:=hid hM;clear hM;have rC:(decide (1<=l) && decide (l<=4))=false:=by
      simp only [Bool.and_eq_false_iff,decide_eq_false_iff_not];omega
     rw [rC];clear hl rC;go_wp2_with fail;go_ret;exact ⟨by rw [HR.out]; rfl,X2.out⟩
def vab : List Pl -> List Pl -> List Pl
 | [],y=>y
 | a :: r,[]=>a :: r
 | a :: r,b :: s=>a.add b :: vab r s
theorem xa8 : ∀ x y : List Pl, (vab x y).length = max x.length y.length
 | [],y=>by simp [vab]
 | a :: r,[]=>by simp [vab]
 | a :: r,b :: s=>by rw [vab,pL,pL,pL,xa8 r s]; omega
theorem uae (ρ : Int -> Rat) : ∀ (x y : List Pl) (i : Nat), ((vab x y).getD i Pl.zero).val ρ = (x.getD i Pl.zero).val ρ + (y.getD i Pl.zero).val ρ
 | [],y,i=>by rw [vab,Rb,Pl.qu]; grind
 | a :: r,[],i=>by rw [vab,Rb,Pl.qu]; grind
 | a :: r,b :: s,0=>by rw [vab,sP,sP,sP,Pl.yi]
 | a :: r,b :: s,i+1=>by rw [vab,ss,ss,ss,uae ρ r s i]
theorem zbr (ρ : Int -> Rat) (l : Int) : ∀ x y : List Pl, ve ρ l (vab x y) = ve ρ l x + ve ρ l y
 | [],y=>by rw [vab,ve]; grind
 | a :: r,[]=>by rw [vab]; simp only [ve]; grind
 | a :: r,b :: s=>by rw [vab,ve,ve,ve,Pl.yi,zbr ρ l r s]; grind
theorem xbr {P : Pl -> Prop} (CY : ∀ a b, P a -> P b -> P (a.add b)) : ∀ x y : List Pl, (∀ c ∈ x, P c) -> (∀ c ∈ y, P c) -> ∀ c ∈ vab x y, P c
 | [],y,_,hy=>hy
 | a :: r,[],hx,_=>hx
 | a :: r,b :: s,hx,hy=>by
   intro c hc;rw [vab] at hc;rcases pQ.1 hc with rfl | hc
   · exact CY _ _ (hx _ (by simp)) (hy _ (by simp))
   · exact xbr CY r s (fun d hd=>hx d (by simp [hd])) (fun d hd=>hy d (by simp [hd])) c hc
def uk : List Pl -> List Pl -> List Pl
 | [],_=>[]
 | a :: r,b=>vab (b.map fun c=>a.mul c) (Pl.zero :: uk r b)
theorem xbq (ρ : Int -> Rat) (l : Int) : ∀ a b : List Pl, ve ρ l (uk a b) = ve ρ l a * ve ρ l b
 | [],b=>by rw [uk,ve]; grind
 | a :: r,b=>by
   have h:=vbo ρ l (fun c=>a.mul c) (a.val ρ) b fun c _=>by rw [Pl.qD]; grind
   rw [uk,zbr,h,ve,ve,Pl.qu,xbq ρ l r b]
   grind
theorem wax {P : Pl -> Prop} (hz : P Pl.zero) (CY : ∀ a b, P a -> P b -> P (a.add b)) : ∀ a b : List Pl, (∀ x ∈ a, ∀ y ∈ b, P (x.mul y)) -> ∀ c ∈ uk a b, P c
 | [],b,_,c,hc=>by rw [uk] at hc; cases hc
 | x :: r,b,h,c,hc=>by
   rw [uk] at hc;refine xbr CY _ _ (fun d hd=>?_) (fun d hd=>?_) c hc
   · obtain ⟨y,hy,rfl⟩:=pZ.1 hd;exact h x (by simp) y hy
   · rcases pQ.1 hd with rfl | hd
     · exact hz
     · exact wax hz CY r b (fun x' iY y hy=>h x' (by simp [iY]) y hy) d hd
theorem yaj {b : List Pl} (hb : b ≠ []) : ∀ a : List Pl, a ≠ [] -> (uk a b).length = a.length + b.length - 1
 | [],h=>absurd rfl h
 | [x],_=>by
   have:=rA.2 hb;rw [uk,uk,xa8,px];simp;omega
 | x :: y :: r,_=>by
   have:=rA.2 hb;rw [uk,xa8,px,pL,yaj hb (y :: r) (by simp)];simp;omega
theorem qbx (f:Pl->Pl) (b:List Pl) (i:Nat) (hi:i < b.length):(b.map f).getD i Pl.zero=f (b.getD i Pl.zero):=by
 rw [pr,pr,ue,po hi]; rfl
theorem xa3 (b:List Pl) (i:Nat) (hi:b.length<=i):b.getD i Pl.zero=Pl.zero:=by
 rw [pr,sA hi]; rfl
theorem qbq (ρ : Int -> Rat) {b : List Pl} (hb : b ≠ []) : ∀ a : List Pl, a ≠ [] -> ((uk a b).getD (a.length + b.length - 2) Pl.zero).val ρ = (a.getD (a.length - 1) Pl.zero).val ρ * (b.getD (b.length - 1) Pl.zero).val ρ
 | [],h=>absurd rfl h
 | [x],_=>by
   have hp:=rA.2 hb;rw [uk,uk,uae,show [x].length+b.length - 2=b.length - 1 by simp; omega,qbx _ _ _ (by omega),Pl.qD,show ([x]:List Pl).length - 1=0 by simp,sP];have:([Pl.zero].getD (b.length - 1) Pl.zero).val ρ=0:=by
    cases b.length - 1 with
    | zero=>rw [sP,Pl.qu]
    | succ n=>rw [ss,Rb,Pl.qu]
   rw [this]
   grind
 | x :: y :: r,_=>by
   have hp:=rA.2 hb;have ih:=qbq ρ hb (y :: r) (by simp);obtain ⟨i,hi⟩:=n_m ((y :: r).length+b.length - 2);have e:(x :: y :: r).length+b.length - 2=i+1:=by simp at hi ⊢; omega
   rw [hi] at ih;rw [uk,e,uae,xa3 (b.map _) _ (by rw [px]; simp at hi; omega),Pl.qu,ss,ih];have e2:(x :: y :: r).length - 1=(y :: r).length - 1+1:=by simp
   rw [e2,ss]
   grind
theorem kcn {L:List Pl} (hn:L ≠ []) (h:¬ ∀ ρ,(L.getD (L.length - 1) Pl.zero).val ρ=0):L.getLast? ≠ some Pl.zero:=by
 intro e;apply h;intro ρ;have hl:L.length - 1 < L.length:=by have:=rA.2 hn; omega
 rw [sC,po hl] at e;injection e with e
 rw [pr,po hl,Pf,e,Pl.qu]
theorem vda {p q:Pl} (h:p.Can) (k:q.Can) (hp:p ≠ Pl.zero) (hq:q ≠ Pl.zero):¬ ∀ ρ,p.val ρ * q.val ρ=0:=fun hz=>by
 rcases Pl.mul_zero h k hz with e | e
 · exact hp e
 · exact hq e
section
variable {l:Int} (hl:1<=l) (ag:l<=4)
include hl ag
theorem vae {p:Pl} (h:p.Can) (hp:p ≠ Pl.zero):p.xi l ≠ []:=by
 intro e;have:=Pl.K5 hl ag h hp;rw [e] at this;simp at this
theorem gbx {p:Pl} (h:p.Can) (hp:p ≠ Pl.zero):qo l p ≠ Pl.zero:=gag (Pl.xf hl ag h).last (vae hl ag h hp)
theorem wcm {p q:Pl} (h:p.Can) (k:q.Can) (hp:p ≠ Pl.zero) (hq:q ≠ Pl.zero):kam l (p.mul q) (uk (p.xi l) (q.xi l)):=by
 have cp:=Pl.xf hl ag h;have cq:=Pl.xf hl ag k;have np:=vae hl ag h hp;have nq:=vae hl ag k hq;have lp:=rA.2 np;have lq:=rA.2 nq;have hlen:=yaj nq _ np;refine ⟨wax Pl.qS (fun a b _ _=>Pl.yk a b) _ _ fun x _ y _=>Pl.q8 x y,wax (vat l) (fun a b ha hb=>ha.add hb) _ _ fun x hx y hy=>(cp.ind x hx).mul (cq.ind y hy),fun ρ=>by rw [xbq,cp.val,cq.val,Pl.qD],kcn ?_ fun hz=>?_⟩
 · intro e;rw [e] at hlen;simp at hlen;omega
 · refine vda (wag cp.can _) (wag cq.can _) (gbx hl ag h hp) (gbx hl ag k hq) fun ρ=>?_
   have:=hz ρ;rw [hlen,show (p.xi l).length+(q.xi l).length - 1 - 1=(p.xi l).length+(q.xi l).length - 2 by omega,qbq ρ nq _ np] at this;exact this
theorem gbl {p q:Pl} (h:p.Can) (k:q.Can) (hp:p ≠ Pl.zero) (hq:q ≠ Pl.zero):(p.mul q).xi l=uk (p.xi l) (q.xi l):=(Pl.xf hl ag (Pl.q8 p q)).uniq (wcm hl ag h k hp hq)
theorem ub9 {p q:Pl} (h:p.Can) (k:q.Can) (hp:p ≠ Pl.zero) (hq:q ≠ Pl.zero):mdg l (p.mul q)=mdg l p+mdg l q:=by
 have lp:=rA.2 (vae hl ag h hp);have lq:=rA.2 (vae hl ag k hq);unfold mdg;rw [gbl hl ag h k hp hq,yaj (vae hl ag k hq) _ (vae hl ag h hp)];omega
end
end Go.Proofs.YtcepajijiabkmaaGreat
