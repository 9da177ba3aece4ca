/- Layer 22: recpoly.degree. -/
import Derived.Test.YtklnlgnnlmdibaaGreatMq27
set_option linter.unusedSimpArgs false
set_option linter.unusedVariables false

namespace Go.Proofs.YtklnlgnnlmdibaaGreat
open Lib (hid)
open Go.RowKit
theorem Pl.dgL_lt {l:Int} {p:Pl} (h:p.lv < l):p.dgL l=0:=by cases p; simp only [Pl.lv] at h; rw [Pl.dgL,if_pos h]
theorem Pl.dgL_eq {l:Int} {p:Pl} (h:p.lv=l):p.dgL l=p.cs.length - 1:=by
 cases p; simp only [Pl.lv,Pl.cs] at *; rw [Pl.dgL,if_neg (by omega),if_pos h]
theorem Pl.dgL_gt {l:Int} {p:Pl} (h:l < p.lv):p.dgL l=wu l 0 p.cs:=by
 cases p; simp only [Pl.lv,Pl.cs] at *; rw [Pl.dgL,if_neg (by omega),if_neg (by omega)]
def joinL (l:Int) (cs:List Pl):Pl:=if 1<=l/\l<=4 then (Pl.mk l false [] cs).nf else Pl.zero
def ui (l:Int) (p:Pl):Pl:=(p.cfL l).getD ((p.cfL l).length - 1) Pl.zero
def xab (l:Int) (p:Pl):Pl:=joinL l (p.cfL l).dropLast
def vg (l i:Int) (p:Pl):Pl:=if i < 0 then Pl.zero else (p.cfL l).getD i.toNat Pl.zero
def mdg (l:Int) (p:Pl):Int:=((p.cfL l).length:Int) - 1
def jai : Int -> List Pl -> List Pl
 | _,[]=>[]
 | k,c :: r=>c.mul (Pl.const k) :: jai (k+1) r
def qw (l:Int) (p:Pl):Pl:=if 1<=l/\l<=4 then joinL l (jai 1 (p.cfL l).tail) else Pl.zero
theorem qai : ∀ (k : Int) (cs : List Pl), (jai k cs).length = cs.length
 | _,[]=>rfl
 | k,c :: r=>by rw [jai,List.length_cons,List.length_cons,qai (k+1) r]
theorem za0 : ∀ (k : Int) (cs : List Pl) (i : Nat) (h : i < cs.length) (h' : i < (jai k cs).length), (jai k cs)[i] = cs[i].mul (Pl.const (k + i))
 | k,c :: r,0,_,_=>by simp only [jai,List.getElem_cons_zero]; rw [Int.natCast_zero,Int.add_zero]
 | k,c :: r,i+1,h,h'=>by
   simp only [jai,List.getElem_cons_succ];rw [za0 (k+1) r i (by simpa using h)]
   congr 2
   omega
theorem gcb {l:Int} {p:Pl} (h:p.Can):mdg l p=if p.isZ=true then -1 else if 1<=l/\l<=4 then p.dgL l else 0:=by
 unfold mdg
 by_cases hz:p.isZ=true
 · rw [if_pos hz,Pl.cfL,if_pos hz]; rfl
 · rw [if_neg hz]
   by_cases hl:1<=l/\l<=4
   · have hd:=Pl.dgL_bd hl.1 p h p.ex_self;rw [if_pos hl,Pl.cfL_len hl.1 hl.2 h (fun e=>hz ((Pl.zero_isZ h).2 e))];omega
   · rw [if_neg hl,Pl.cfL,if_neg hz,if_neg hl]; rfl
theorem xbq {l:Int} (p:Pl):-1<=mdg l p:=by unfold mdg; omega
theorem uas {l:Int} {p:Pl} (h:p.Can):mdg l p=-1 ↔ p=Pl.zero:=by
 constructor
 · intro e;have hc:p.cfL l=[]:=List.eq_nil_of_length_eq_zero (by unfold mdg at e; omega);rw [Pl.cfL] at hc
   split at hc
   · rename_i hz; exact (Pl.zero_isZ h).1 hz
   · split at hc
     · have:=congrArg List.length hc;rw [List.length_map,Pl.cfs_len] at this;simp at this
     · cases hc
 · rintro rfl; unfold mdg; rw [Pl.cfL_zero]; rfl
theorem yai {l:Int} {p:Pl} {E:Nat} (h:p.Can) (he:p.ex E):mdg l p<=E:=by
 rw [gcb h]
 split
 · omega
 · split
   · rename_i hl; exact (Pl.dgL_bd hl.1 p h he).2
   · omega
theorem uac (l:Int) (cs:List Pl):(joinL l cs).Can:=by
 unfold joinL
 split
 · exact Pl.nf_can _
 · exact Pl.zero_can
theorem vac {l:Int} (hl:1<=l) (ag:l<=4) (ρ:Int->Rat) (cs:List Pl):(joinL l cs).val ρ=ve ρ l cs:=by
 unfold joinL;rw [if_pos ⟨hl,ag⟩,Pl.nf_val,Pl.mk_val ρ _ _ _ (by omega) ag]
theorem gae {L:List Pl} (h:∀ c ∈ L,c.Can) (i:Nat):(L.getD i Pl.zero).Can:=by
 rw [List.getD_eq_getElem?_getD]
 by_cases hi:i < L.length
 · rw [List.getElem?_eq_getElem hi]; exact h _ (List.getElem_mem hi)
 · rw [List.getElem?_eq_none (by omega)]; exact Pl.zero_can
theorem jab {P:Pl->Prop} {L:List Pl} (hz:P Pl.zero) (h:∀ c ∈ L,P c) (i:Nat):P (L.getD i Pl.zero):=by
 rw [List.getD_eq_getElem?_getD]
 by_cases hi:i < L.length
 · rw [List.getElem?_eq_getElem hi]; exact h _ (List.getElem_mem hi)
 · rw [List.getElem?_eq_none (by omega)]; exact hz
theorem jah {l:Int} {p:Pl} (h:p.Can):∀ c ∈ p.cfL l,c.Can:=by
 intro c hc;rw [Pl.cfL] at hc
 split at hc
 · cases hc
 · split at hc
   · obtain ⟨d,-,rfl⟩:=List.mem_map.1 hc;exact d.nf_can
   · rw [List.mem_singleton.1 hc]; exact h
theorem Mo.mul_put {m n:Mo} (l e:Int) (h1:0 < l) (h4:l<=4):(m.mul n).put l (m.get l+e)=m.mul (n.put l e):=by
 rcases (show l=1\/l=2\/l=3\/l=4 by omega) with rfl | rfl | rfl | rfl <;> rfl
mutual
theorem Pl.terms_shift (m : Mo) : ∀ (p : Pl) (n : Mo), ∀ x ∈ p.terms (m.mul n), ∃ y ∈ p.terms n, x.2 = m.mul y.2 /\ x.1 = y.1
 | .mk l ng d cs,n,x,hx=>by
   rw [Pl.terms] at hx ⊢
   split at hx
   · rename_i h;rw [if_pos h,List.mem_singleton.1 hx];exact ⟨_,List.mem_singleton.2 rfl,rfl,rfl⟩
   · rename_i h;rw [if_neg h]
     split at hx
     · cases hx
     · rename_i h4;rw [if_neg h4];rw [Mo.get_mul] at hx;exact ja1 m cs n l (n.get l) (by omega) (by omega) x hx
theorem ja1 (m : Mo) : ∀ (cs : List Pl) (n : Mo) (l e : Int), 0 < l -> l <= 4 -> ∀ x ∈ xe (m.mul n) l (m.get l + e) cs, ∃ y ∈ xe n l e cs, x.2 = m.mul y.2 /\ x.1 = y.1
 | [],n,l,e,_,_,x,hx=>by rw [xe] at hx; cases hx
 | c :: r,n,l,e,h1,h4,x,hx=>by
   rw [xe] at hx ⊢;rcases List.mem_append.1 hx with hx | hx
   · rw [Mo.mul_put l e h1 h4] at hx;obtain ⟨y,hy,e1⟩:=Pl.terms_shift m c _ x hx;exact ⟨y,List.mem_append_left _ hy,e1⟩
   · rw [Int.add_assoc] at hx;obtain ⟨y,hy,e1⟩:=ja1 m r n l (e+1) h1 h4 x hx;exact ⟨y,List.mem_append_right _ hy,e1⟩
end
theorem Mo.mul_one (m:Mo):m.mul Mo.one=m:=by
 unfold Mo.mul Mo.one;simp
theorem ug.kids {l lv:Int} {ng:Bool} {ds:List Nat} {cs:List Pl} (h:(Pl.mk lv ng ds cs).Can) (hl:0 < l) (af:l < lv) (hi:ug l (.mk lv ng ds cs)):∀ c ∈ cs,ug l c:=by
 obtain ⟨-,-,h2,hk,-⟩:=h.kids (by omega);have h4:lv<=4:=h.lv_nonneg.2;intro c hc ρ ρ' he;obtain ⟨i,iJ,rfl⟩:=List.getElem_of_mem hc;have key:∀ x:Rat,hsum x (cs.map (Pl.val ρ))=hsum x (cs.map (Pl.val ρ')):=by
  intro x;have h1:∀ σ:Int->Rat,hsum x (cs.map (Pl.val σ))=(Pl.mk lv ng ds cs).val fun j=>if j=lv then x else σ j:=by
   intro σ;rw [Pl.mk_val _ _ _ _ (by omega) h4,waf,if_pos rfl]
   congr 1
   refine List.map_congr_left fun d hd=>Pl.val_low d (hk.mem d hd).2 fun j hj=>?_
   have:=(hk.mem d hd).1;rw [if_neg (by omega)]
  rw [h1,h1];exact hi _ _ fun j hj=>by
   by_cases qU:j=lv
   · rw [if_pos qU,if_pos qU]
   · rw [if_neg qU,if_neg qU]; exact he j hj
 have hz:=ybr cs.length ((List.range cs.length).map fun i=>(cs.getD i Pl.zero).val ρ+(-1) * (cs.getD i Pl.zero).val ρ') (by simp) (fun x _=>by
  rw [vaz cs.length (fun i=>(cs.getD i Pl.zero).val ρ) (fun i=>(cs.getD i Pl.zero).val ρ'),ka5 x ρ cs _ (Nat.le_refl _),ka5 x ρ' cs _ (Nat.le_refl _),key]
  grind)
 have:=hz _ (List.mem_map.2 ⟨i,List.mem_range.2 iJ,rfl⟩);rw [List.getD_eq_getElem?_getD,List.getElem?_eq_getElem iJ,Option.getD_some] at this
 grind
theorem jav (m : Mo) (l : Int) : ∀ (cs : List Pl) (e : Int), ∀ x ∈ xe m l e cs, ∃ c ∈ cs, ∃ i : Nat, i < cs.length /\ x ∈ c.terms (m.put l (e + i))
 | [],e,x,hx=>by rw [xe] at hx; cases hx
 | c :: r,e,x,hx=>by
   rw [xe] at hx;rcases List.mem_append.1 hx with hx | hx
   · exact ⟨c,by simp,0,by simp,by simpa using hx⟩
   · obtain ⟨d,hd,i,h,hm⟩:=jav m l r (e+1) x hx;refine ⟨d,by simp [hd],i+1,by simpa using h,?_⟩;rw [show e+((i+1:Nat):Int)=e+1+i by omega];exact hm
theorem gbj {l : Int} (hl : 0 < l) (ag : l <= 4) : ∀ p : Pl, p.Can -> ug l p -> ∀ x ∈ p.terms Mo.one, x.2.get l = 0
 | .mk lv ng ds cs,h,hi,x,hx=>by
   have h4:=h.lv_nonneg;simp only [Pl.lv] at h4
   by_cases h1:lv < l
   · have:=Pl.exp_above h (n:=lv.toNat) (by show lv<=_; omega) x hx l.toNat (by omega) (by omega)
     rwa [show ((l.toNat:Nat):Int)=l by omega] at this
   · have ak:=zbb hl h hi;simp only [Pl.lv] at ak;obtain ⟨-,-,-,hk,-⟩:=h.kids (by omega);rw [Pl.terms,if_neg (by omega),if_neg (by omega)] at hx;obtain ⟨c,iT,i,af,hm⟩:=jav _ _ _ _ x hx;have hmul:Mo.one.put lv (Mo.one.get lv+(i:Int))=(Mo.one.put lv (Mo.one.get lv+(i:Int))).mul Mo.one:=(Mo.mul_one _).symm;rw [hmul] at hm;obtain ⟨y,hy,e1,-⟩:=Pl.terms_shift _ _ _ x hm;rw [e1,Mo.get_mul,gbj hl ag c (hk.mem c iT).2 (ug.kids h hl (by omega) hi c iT) y hy];have:=Mo.get_put Mo.one lv.toNat (Mo.one.get lv+(i:Int)) (by omega) (by omega) l.toNat (by omega) (by omega);rw [show ((l.toNat:Nat):Int)=l by omega,show ((lv.toNat:Nat):Int)=lv by omega,if_neg (by omega)] at this;rw [this];rcases (show l=1\/l=2\/l=3\/l=4 by omega) with rfl | rfl | rfl | rfl <;> rfl
theorem yau (m : Mo) (l : Int) : ∀ (cs : List Pl) (e : Int), (∀ c ∈ cs, c.Can) -> qg (xe m l e cs) = ul cs
 | [],e,_=>rfl
 | c :: r,e,h=>by rw [xe,xah,ul,Pl.terms_nr c _ (h c (by simp)),yau m l r (e+1) fun d hd=>h d (by simp [hd])]
theorem za4 {l:Int} {cs:List Pl} {E D:Nat} (h:∀ c ∈ cs,c.Can/\ug l c/\c.ex E) (hlen:cs.length<=E+1) (hn:ul cs < B32 ^ D):Fit (joinL l cs) E D:=by
 unfold joinL
 split
 · rename_i hl;refine ⟨Pl.nf_can _,Pl.ofS_ex fun x hx=>?_,Nat.lt_of_le_of_lt (Pl.ofS_nr _) ?_⟩
   · rw [Pl.terms,if_neg (by omega),if_neg (by omega)] at hx;obtain ⟨c,iT,i,af,hm⟩:=jav _ _ _ _ x hx;obtain ⟨hc,hi,he⟩:=h c iT;rw [<- Mo.mul_one (Mo.one.put l (Mo.one.get l+(i:Int)))] at hm;obtain ⟨y,hy,e1,-⟩:=Pl.terms_shift _ _ _ x hm;have pg:=gbj (by omega) hl.2 _ hc hi y hy;have hye:=(Pl.fit_of hc he).exps y hy;rw [e1];unfold Mo.le Mo.mul Mo.put Mo.one Mo.get at *;rcases (show l=1\/l=2\/l=3\/l=4 by omega) with rfl | rfl | rfl | rfl <;> simp at * <;> omega
   · rw [Pl.terms,if_neg (by omega),if_neg (by omega),yau _ _ _ _ fun c hc=>(h c hc).1];exact hn
 · exact Fit.zero
theorem qcl {cs:List Pl} {M:Nat} (h:∀ c ∈ cs,c.nr<=M):ul cs<=cs.length * M:=by
 induction cs with
 | nil=>rw [ul]; exact Nat.zero_le _
 | cons c r ih =>
   have h1:=ih fun d hd=>h d (by simp [hd])
   have h2:=h c (by simp);rw [ul,List.length_cons,Nat.succ_mul];omega
theorem kba {cs:List Pl} {E D:Nat} (h:∀ c ∈ cs,Fit c E D) (hlen:cs.length<=B32):ul cs < B32 ^ (D+1):=by
 have h1:ul cs<=cs.length * (B32 ^ D - 1):=qcl fun c hc=>by have:=(h c hc).nr; omega
 have h2:cs.length * (B32 ^ D - 1)<=B32 * (B32 ^ D - 1):=Nat.mul_le_mul_right _ hlen;have h3:0 < B32 ^ D:=Nat.pow_pos (by decide);rw [Nat.pow_succ,Nat.mul_comm];have h4:B32 * (B32 ^ D - 1) < B32 * B32 ^ D:=Nat.mul_lt_mul_of_pos_left (by omega) (by decide);omega
theorem uaa {l:Int} (hl:1<=l) (ag:l<=4) {p:Pl} (h:p.Can):∀ c ∈ p.cfL l,ug l c:=(Pl.cfL_coefs hl ag h).ind
theorem uu {l:Int} {p:Pl} {E:Nat} (h:p.Can) (he:p.ex E):(p.cfL l).length<=E+1:=by
 have:=yai (l:=l) h he;unfold mdg at this;omega
theorem zck (l:Int) (p:Pl):(xab l p).Can:=uac _ _
theorem uay {l:Int} {p:Pl} {E D:Nat} (h:Fit p E D) (hE:E < B32):Fit (xab l p) E (D+1):=by
 by_cases hl:1<=l/\l<=4
 · have hm:∀ c ∈ (p.cfL l).dropLast,c ∈ p.cfL l:=fun c hc=>(List.dropLast_sublist _).mem hc
   have hlen:(p.cfL l).dropLast.length<=E+1:=by
    have:=uu (l:=l) h.can h.ex;rw [List.length_dropLast]; omega
   exact za4 (fun c hc=>⟨jah h.can c (hm c hc),uaa hl.1 hl.2 h.can c (hm c hc),(Pl.cfL_fit h c (hm c hc)).ex⟩) hlen (kba (fun c hc=>Pl.cfL_fit h c (hm c hc)) (by omega))
 · unfold xab joinL;rw [if_neg hl];exact Fit.zero
theorem vaf {l:Int} {p:Pl} {E D:Nat} (h:Fit p E D):Fit (ui l p) E D:=jab (P:=fun c=>Fit c E D) Fit.zero (Pl.cfL_fit h) _
theorem xap {l i:Int} {p:Pl} {E D:Nat} (h:Fit p E D):Fit (vg l i p) E D:=by
 unfold vg
 split
 · exact Fit.zero
 · exact jab (P:=fun c=>Fit c E D) Fit.zero (Pl.cfL_fit h) _
theorem waz {k:Int} {cs:List Pl} {c:Pl} (h:c ∈ jai k cs):∃ d ∈ cs,∃ i:Nat,i < cs.length/\c=d.mul (Pl.const (k+i)):=by
 obtain ⟨i,hi,rfl⟩:=List.getElem_of_mem h;have iJ:i < cs.length:=by rw [qai] at hi; exact hi
 exact ⟨cs[i],List.getElem_mem iJ,i,iJ,za0 k cs i iJ hi⟩
theorem ug.mul {l:Int} {p q:Pl} (h:ug l p) (k:ug l q):ug l (p.mul q):=fun ρ ρ' he=>by rw [Pl.mul_val,Pl.mul_val,h ρ ρ' he,k ρ ρ' he]
theorem ug.add {l:Int} {p q:Pl} (h:ug l p) (k:ug l q):ug l (p.add q):=fun ρ ρ' he=>by rw [Pl.add_val,Pl.add_val,h ρ ρ' he,k ρ ρ' he]
theorem ug.opp {l:Int} {p:Pl} (h:ug l p):ug l p.opp:=fun ρ ρ' he=>by rw [Pl.opp_val,Pl.opp_val,h ρ ρ' he]
theorem ug.const (l z:Int):ug l (Pl.const z):=fun ρ ρ' _=>by rw [Pl.const_val,Pl.const_val]
theorem zco (l:Int) (p:Pl):(qw l p).Can:=by
 unfold qw
 split
 · exact uac _ _
 · exact Pl.zero_can
theorem uaj {α : Type} {x : α} : ∀ {L : List α}, x ∈ L.tail -> x ∈ L
 | _ :: _,h=>List.mem_cons_of_mem _ h
theorem yak {l:Int} {p:Pl} {E D:Nat} (h:Fit p E D) (hE:E < B32):Fit (qw l p) E (D+2):=by
 unfold qw
 split
 · rename_i hl;have hlen:=uu (l:=l) h.can h.ex;have hf:∀ c ∈ jai 1 (p.cfL l).tail,Fit c E (D+1)/\ug l c:=fun c hc=>by
    obtain ⟨d,hd,i,hi,rfl⟩:=waz hc;rw [List.length_tail] at hi;refine ⟨?_,(uaa hl.1 hl.2 h.can d (uaj hd)).mul (ug.const l _)⟩;have:=(Pl.cfL_fit h d (uaj hd)).mul (Fit.const (E:=0) (D:=1) (z:=1+(i:Int)) (by rw [Nat.pow_one]; omega));exact this.mono (by omega) (by omega)
   exact za4 (fun c hc=>⟨(hf c hc).1.can,(hf c hc).2,(hf c hc).1.ex⟩) (by rw [qai,List.length_tail]; omega) (kba (fun c hc=>(hf c hc).1) (by rw [qai,List.length_tail]; omega))
 · exact Fit.zero
end Go.Proofs.YtklnlgnnlmdibaaGreat

set_option maxRecDepth 100000
set_option maxHeartbeats 8000000
namespace Go.Proofs.YtklnlgnnlmdibaaGreat
open Lib (hid)
open Go.RowKit
theorem qam (l:Int) (w:World):Calls Tryz.prog 51 #[.int .i64 l] w fun e w'=>e=.returned (.bool (decide (1<=l) && decide (l<=4)))/\w'=w:=by
 by_cases h:1<=l
 · go_enter Tryz.func51,Tryz.ntmps51;go_wp2_with fail;go_ret;simp [h]
 · go_enter Tryz.func51,Tryz.ntmps51;go_wp2_with fail;go_ret;have h':l < 1:=by omega
   simp [h]; omega
def wcz (w0:World) (q:Nat->Prop) (l:Int) (n:Nat):Prop:=∀ (p:Pl) (v:Value) (w:World),p.sz < n->p.Can->p.cs.length<=1099511627776->(∀ c ∈ p.cs,c.sz<=1099511627776)->PlV w0 q p v->Ext w0 w->Calls Tryz.prog 52 #[v,.int .i64 l] w (jcp (p.dgL l) w)
theorem qcv (w0:World) (q:Nat->Prop) (l:Int) (hl:1<=l) (n:Nat):wcz w0 q l n:=by
 induction n with
 | zero=>intro p v w h; omega
 | succ n ih =>
 intro p v w hn dw hlen hks h aC;obtain ⟨A0,n0,c0,A,c,rfl,-,dY,eF,h4⟩:=h.open_;have IH:=hid ih;have H4:=hid h4;have ax:=hid aC;have jC:Hid (∀ k (hk:k < p.cs.length),p.cs[k].sz < n/\p.cs[k].Can/\p.cs[k].cs.length<=1099511627776/\∀ c ∈ p.cs[k].cs,c.sz<=1099511627776):=by
  have:∀ k (hk:k < p.cs.length),p.cs[k].sz < n/\p.cs[k].Can/\p.cs[k].cs.length<=1099511627776/\∀ c ∈ p.cs[k].cs,c.sz<=1099511627776:=fun k hk=>by
   have hm:=List.getElem_mem hk;have h1:=Pl.sz_kid hm;have h2:=hks _ hm;have h3:=Pl.sz_len p.cs[k];refine ⟨by omega,?_,by omega,fun c hc=>by have:=Pl.sz_kid hc; omega⟩;obtain ⟨lv,ng,ds,cs⟩:=p;rcases Int.lt_or_le 0 lv with h0 | h0
   · exact ((dw.kids h0).2.2.2.1.mem _ hm).2
   · have:cs=[]:=by
      have:=dw;rw [Pl.Can] at this;rcases this with ⟨-,h,-⟩ | ⟨h,-⟩
      · exact h
      · omega
     subst this;cases hm
  exact this
 obtain ⟨W,hW⟩:=n_m (w.alloc (.cells #[.int .i64 p.lv,.bool p.neg,.slice A0 n0 c0,.slice A p.cs.length c] 35));have ai:Ext w W:=by rw [<- hW]; exact (Ext.refl w).alloc _
 have dE:W.heap.size=w.heap.size+1:=by rw [<- hW]; simp
 have bG:jb W w.heap.size p (.slice A0 n0 c0) (.slice A p.cs.length c):=by rw [<- hW]; exact jb.new w p _ _ _
 have aF:=hid ai;have iG:=hid bG;obtain ⟨b0,b1,b2,b3⟩:=bG;clear h h4 ih aC hks ai;unfold plV
 by_cases k1:p.lv < l
 · rw [Pl.dgL_lt k1];have q1:decide (p.lv < l)=true:=by simpa using k1
   go_enter Tryz.func52,Tryz.ntmps52;go_wp2_with fail;go_ret;exact ⟨rfl,aF.out⟩
 by_cases k2:p.lv=l
 · rw [Pl.dgL_eq k2];have q1:decide (p.lv < l)=false:=by simpa using k1
   have q2:(p.lv == l)=true:=by simpa using k2
   have hw:IntKind.i64.wrap ((p.cs.length:Int) - 1)=(p.cs.length:Int) - 1:=by simp [IntKind.wrap,IntKind.bits,IntKind.signed]; omega
   have Ze:=hid hw;clear k1 k2;clear jC iG H4;generalize p.cs.length=N at *;go_enter Tryz.func52,Tryz.ntmps52;go_wp2_with fail;go_ret;exact ⟨by first | rfl | rw [Ze.out],aF.out⟩
 · rw [Pl.dgL_gt (by omega)];have q1:decide (p.lv < l)=false:=by simpa using k1
   have q2:(p.lv == l)=false:=by simpa using k2
   clear k1 k2;go_enter Tryz.func52,Tryz.ntmps52;go_wp2_with fail;clear hW b0 b1 b2 b3
   go_loopw [25,5] (fun iv mv wr=>∃ k:Nat,k<=p.cs.length/\iv=.int .i64 k/\Hid (mv=.int .i64 (wu l 0 (p.cs.take k))/\Ext W wr)) (fun iv _ _=>p.cs.length - (intOf iv).toNat)
   case atStart=>exact ⟨0,Nat.zero_le _,rfl,⟨by simp [wu],Ext.refl W⟩⟩
   case round =>
    obtain ⟨k,hk,rfl,⟨rfl,iQ⟩⟩:=hrel;have yD:=hid iQ
    by_cases af:k < p.cs.length
    · obtain ⟨ad,B0,m0,d0,B1,m1,d1,rfl,ah,bY,aW⟩:=jc.kid H4.out k af;have bW:Ext w0 wr:=(ax.out.trans aF.out).trans iQ;obtain ⟨e0,e1,e2,e3⟩:=bY.ext bW (by rw [ja]; exact ah);obtain ⟨uZ,pq,BU,BR⟩:=jC.out k af;have HC:=hid (fun W' (qN:Ext wr W')=>IH.out p.cs[k] _ W' uZ pq BU BR aW (bW.trans qN));have dI:Hid (wu l 0 (p.cs.take (k+1))=max (wu l 0 (p.cs.take k)) (p.cs[k].dgL l)):=by
       have:wu l 0 (p.cs.take (k+1))=max (wu l 0 (p.cs.take k)) (p.cs[k].dgL l):=qb4 _ _ _ _ af;exact this
      generalize wu l 0 (p.cs.take k)=mm at *;generalize p.cs[k]=ck at *;generalize ck.dgL l=dk at *;clear bY aW ah uZ pq BU BR bW iQ;go_wp2_with fail;refine (HC.out _ ((Ext.refl _).alloc _)).mono ?_;rintro e w2 ⟨rfl,x2⟩;have X2:=hid ((yD.out.alloc _).trans x2);clear x2 HC e0 e1 e2 e3;go_wp2_with fail
      go_roundw
      case rel=>exact ⟨k+1,by omega,by go_num,⟨by rw [dI.out],X2.out⟩⟩
      case measure=>simp only [intOf]; omega
    · have bH:k=p.cs.length:=by omega
      rw [bH,List.take_length];clear iQ bH;generalize wu l 0 p.cs=mm at *;go_wp2_with fail;go_ret;exact ⟨rfl,aF.out.trans yD.out⟩
theorem vbs {w:World} {q:Nat->Prop} {l:Int} (hl:1<=l) (p:Pl) (v:Value) (dw:p.Can) (hsz:p.sz<=1099511627776) (h:PlV w q p v):Calls Tryz.prog 52 #[v,.int .i64 l] w (jcp (p.dgL l) w):=
 qcv w q l hl (p.sz+1) p v w (Nat.lt_succ_self _) dw (by have:=Pl.sz_len p; omega) (fun c hc=>by have:=Pl.sz_kid hc; omega) h (Ext.refl w)
theorem uab {w:World} {p:Pl} {q0:Nat->Prop} (v0:Value) (h0:PlV w q0 p v0) (hp:p.Can):Calls Tryz.prog 32 #[v0] w (qao p.isZ w):=by
 have H0:=hid h0;obtain ⟨A0,n0,c0,B0,d0,rfl,-,-,-,-⟩:=h0.open_;clear h0;obtain ⟨W,hW⟩:=n_m (w.alloc (.cells #[.int .i64 (p).lv,.bool (p).neg,.slice A0 n0 c0,.slice B0 (p).cs.length d0] 35));have ai:Ext w W:=by rw [<- hW]; exact (Ext.refl w).alloc _
 have dE:W.heap.size=w.heap.size+1:=by rw [<- hW]; simp
 have ax:=hid ai;have HS:Hid (∀ W',Ext W W'->(Ext w W'/\jb W' (w.heap.size) p (.slice A0 n0 c0) (.slice B0 (p).cs.length d0))):=by
  have:∀ W',Ext W W'->(Ext w W'/\jb W' (w.heap.size) p (.slice A0 n0 c0) (.slice B0 (p).cs.length d0)):=fun W' hx=>by
   obtain ⟨hc,hf⟩:=hx.cells;refine ⟨ai.trans hx,?_,?_,?_,?_⟩ <;> (rw [hc _ _ (by omega),<- hW]; simp [go_sem])
  exact this
 obtain ⟨-,b0,b1,b2,b3⟩:=HS.out W (Ext.refl W);clear ai;unfold plV;go_enter Tryz.func32,Tryz.ntmps32;go_wp2_with fail;clear hW b0 b1 b2 b3;refine (zu _ (H0.out.ext ax.out) hp).mono ?_;rintro e w1 ⟨z1,rfl,m1,x1⟩;obtain ⟨C1,i1,j1,D1,k1,rfl,-⟩:=id m1.open_;have PH:=hid (x1);obtain ⟨-,b0,b1,b2,b3⟩:=HS.out _ PH.out;unfold plV;go_wp2_with fail;clear b0 b1 b2 b3;refine (zae p _ m1).mono ?_;rintro e w2 ⟨rfl,x2⟩;have YY2:=hid (PH.out.trans x2)
 replace m1:=m1.ext x2
 have X2:=hid (ax.out.trans YY2.out);clear m1 x1 x2 HS;generalize p.isZ=res at *;go_wp2_with fail;go_ret;exact ⟨rfl,X2.out⟩
theorem zad {w:World} {q:Nat->Prop} {p:Pl} {l:Int} (v:Value) (hp:p.Can) (hsz:p.sz<=1099511627776) (ig:p.dm<=35184372088832) (h:PlV w q p v):Calls Tryz.prog 21 #[v,.int .i64 l] w (jcp (mdg l p) w):=by
 have HP:=hid h;obtain ⟨A0,n0,c0,A,c,rfl,-⟩:=h.open_;obtain ⟨W,hW⟩:=n_m (w.alloc (.cells #[.int .i64 p.lv,.bool p.neg,.slice A0 n0 c0,.slice A p.cs.length c] 35));have ai:Ext w W:=by rw [<- hW]; exact (Ext.refl w).alloc _
 have MM:PBx W (fun _=>True) w.heap.size p:=by rw [<- hW]; exact PBx.new (h.mono fun _ _=>trivial) _
 obtain ⟨r,hr⟩:=n_m (mdg l p);have HM:Hid (r=if p.isZ=true then -1 else if 1<=l/\l<=4 then p.dgL l else 0):=hid (by rw [<- hr]; exact gcb hp);rw [hr];clear hr;have HC:=hid hp;have HN:=hid (qaa _ (HP.out.ext ai) hp hsz ig);have aF:=hid ai;have dC:=hid MM;have QY:=ai.size;obtain ⟨-,-,B0,b0n,b0c,B1,b1c,⟨b0,b1,b2,b3⟩,-⟩:=id MM;have hE:jb W (w.heap.size) p (.slice A0 n0 c0) (.slice A p.cs.length c):=by
  rw [<- hW]; exact ⟨by simp [go_sem],by simp [go_sem],by simp [go_sem],by simp [go_sem]⟩
 clear b0 b1 b2 b3 h hp MM ai;obtain ⟨b0,b1,b2,b3⟩:=hE;unfold plV at HN;unfold plV;go_enter Tryz.func21,Tryz.ntmps21;go_wp2_with fail;clear hW b0 b1 b2 b3;refine HN.out.mono ?_;rintro e w1 ⟨v1,rfl,m1,x1⟩;obtain ⟨C0,j0,f0,C1,f1,rfl,-⟩:=id m1.open_;have rJ:=dC.out.ext x1;obtain ⟨-,bF,B0,b0n,b0c,B1,b1c,⟨b0,b1,b2,b3⟩,-⟩:=id rJ;have hsW:w.heap.size < W.heap.size:=dC.out.1;have BB:=rJ.store (Q':=fun _=>True) (m1.mono fun b hb=>⟨trivial,by omega⟩);obtain ⟨W1,aT⟩:=n_m (((((w1.setCell ⟨w.heap.size,0,none⟩ (.int .i64 p.lv)).setCell ⟨w.heap.size,1,none⟩ (.bool p.neg)).setCell ⟨w.heap.size,2,none⟩ (.slice C0 j0 f0)).setCell ⟨w.heap.size,3,none⟩ (.slice C1 p.cs.length f1)));have X1:Hid (Ext w W1):=hid (by rw [<- aT]; exact ((((aF.out.trans x1).setCell (Nat.le_refl _) _).setCell (Nat.le_refl _) _).setCell (Nat.le_refl _) _).setCell (Nat.le_refl _) _);rw [aT] at BB;have yN:=hid BB;have EI:=bF 0;have f1':=bF 1;have f2':=bF 2;have f3':=bF 3;have hd:jb W1 (w.heap.size) p (.slice C0 j0 f0) (.slice C1 p.cs.length f1):=by
  rw [<- aT]; exact jb.set (dC.out.ext x1).2.2.choose_spec.choose_spec.choose_spec.choose_spec.choose_spec.1
 have DV:Hid (PlV W1 (fun b=>W.heap.size<=b) p (plV p (.slice C0 j0 f0) (.slice C1 p.cs.length f1))):=hid (by rw [<- aT]; exact rJ.stays m1 (fun b hb=>by omega) _ _ _ _ _ _ _ _);have HD:Hid (∀ W',Ext W1 W'->jb W' (w.heap.size) p (.slice C0 j0 f0) (.slice C1 p.cs.length f1)):=hid (fun W' hx=>by
  have k:∀ i,W'.cell? ⟨w.heap.size,i,none⟩=W1.cell? ⟨w.heap.size,i,none⟩:=fun i=>hx.cell (p:=⟨w.heap.size,i,none⟩) yN.out.1
  exact ⟨(k 0).trans hd.1,(k 1).trans hd.2.1,(k 2).trans hd.2.2.1,(k 3).trans hd.2.2.2⟩)
 have gU:=hid (uab _ DV.out HC.out);unfold plV at gU;unfold plV;clear rJ BB bF m1 x1 HN;go_upto_region 2 with fail
 try rw [aT]
 clear aT b0 b1 b2 b3 EI f1' f2' f3';obtain ⟨b0,b1,b2,b3⟩:=hd;go_wp2_with fail;clear b0 b1 b2 b3;refine gU.out.mono ?_;rintro e w2 ⟨rfl,x2⟩
 by_cases hz:p.isZ=true
 · have hM:=HM.out;rw [if_pos hz] at hM;have HR:=hid hM;rw [hz];have X2:=hid (X1.out.trans x2);clear x2 gU hM hz HM;go_wp2_with fail;go_ret;exact ⟨by rw [HR.out]; rfl,X2.out⟩
 · rw [show p.isZ=false by simpa using hz];have hM:=HM.out;rw [if_neg hz] at hM;have X2:=hid (X1.out.trans x2);have YS:=hid x2;have Zv:=hid hM;clear x2 gU hz hM HM;go_wp2_with fail;refine (qam l _).mono ?_;rintro e w3 ⟨rfl,rfl⟩;have hM:=Zv.out;clear Zv
   by_cases hl:1<=l/\l<=4
   · rw [if_pos hl] at hM;have HR:=hid hM;clear hM;have rE:(decide (1<=l) && decide (l<=4))=true:=by simp [hl]
     rw [rE];have o8:=hid (fun (W':World) (hx:Ext W1 W')=>vbs hl.1 p _ HC.out hsz (DV.out.ext hx));unfold plV at o8;obtain ⟨b0,b1,b2,b3⟩:=HD.out _ YS.out;clear hl rE;go_wp2_with fail;refine (o8.out _ YS.out).mono ?_;rintro e w4 ⟨rfl,x4⟩;have X4:=hid (X2.out.trans x4);clear x4 o8 b0 b1 b2 b3;go_wp2_with fail;go_ret;exact ⟨by rw [HR.out]; rfl,X4.out⟩
   · rw [if_neg hl] at hM;have HR:=hid hM;clear hM;have rE:(decide (1<=l) && decide (l<=4))=false:=by
      simp only [Bool.and_eq_false_iff,decide_eq_false_iff_not];omega
     rw [rE];clear hl rE;go_wp2_with fail;go_ret;exact ⟨by rw [HR.out]; rfl,X2.out⟩
def gab : List Pl -> List Pl -> List Pl
 | [],y=>y
 | a :: r,[]=>a :: r
 | a :: r,b :: s=>a.add b :: gab r s
theorem wa4 : ∀ x y : List Pl, (gab x y).length = max x.length y.length
 | [],y=>by simp [gab]
 | a :: r,[]=>by simp [gab]
 | a :: r,b :: s=>by rw [gab,List.length_cons,List.length_cons,List.length_cons,wa4 r s]; omega
theorem qae (ρ : Int -> Rat) : ∀ (x y : List Pl) (i : Nat), ((gab x y).getD i Pl.zero).val ρ = (x.getD i Pl.zero).val ρ + (y.getD i Pl.zero).val ρ
 | [],y,i=>by rw [gab,List.getD_nil,Pl.zero_val]; grind
 | a :: r,[],i=>by rw [gab,List.getD_nil,Pl.zero_val]; grind
 | a :: r,b :: s,0=>by rw [gab,List.getD_cons_zero,List.getD_cons_zero,List.getD_cons_zero,Pl.add_val]
 | a :: r,b :: s,i+1=>by rw [gab,List.getD_cons_succ,List.getD_cons_succ,List.getD_cons_succ,qae ρ r s i]
theorem zbl (ρ : Int -> Rat) (l : Int) : ∀ x y : List Pl, ve ρ l (gab x y) = ve ρ l x + ve ρ l y
 | [],y=>by rw [gab,ve]; grind
 | a :: r,[]=>by rw [gab]; simp only [ve]; grind
 | a :: r,b :: s=>by rw [gab,ve,ve,ve,Pl.add_val,zbl ρ l r s]; grind
theorem xbl {P : Pl -> Prop} (Dx : ∀ a b, P a -> P b -> P (a.add b)) : ∀ x y : List Pl, (∀ c ∈ x, P c) -> (∀ c ∈ y, P c) -> ∀ c ∈ gab x y, P c
 | [],y,_,hy=>hy
 | a :: r,[],hx,_=>hx
 | a :: r,b :: s,hx,hy=>by
   intro c hc;rw [gab] at hc;rcases List.mem_cons.1 hc with rfl | hc
   · exact Dx _ _ (hx _ (by simp)) (hy _ (by simp))
   · exact xbl Dx r s (fun d hd=>hx d (by simp [hd])) (fun d hd=>hy d (by simp [hd])) c hc
def yl : List Pl -> List Pl -> List Pl
 | [],_=>[]
 | a :: r,b=>gab (b.map fun c=>a.mul c) (Pl.zero :: yl r b)
theorem qbk (ρ : Int -> Rat) (l : Int) : ∀ a b : List Pl, ve ρ l (yl a b) = ve ρ l a * ve ρ l b
 | [],b=>by rw [yl,ve]; grind
 | a :: r,b=>by
   have h:=zbj ρ l (fun c=>a.mul c) (a.val ρ) b fun c _=>by rw [Pl.mul_val]; grind
   rw [yl,zbl,h,ve,ve,Pl.zero_val,qbk ρ l r b]
   grind
theorem zav {P : Pl -> Prop} (hz : P Pl.zero) (Dx : ∀ a b, P a -> P b -> P (a.add b)) : ∀ a b : List Pl, (∀ x ∈ a, ∀ y ∈ b, P (x.mul y)) -> ∀ c ∈ yl a b, P c
 | [],b,_,c,hc=>by rw [yl] at hc; cases hc
 | x :: r,b,h,c,hc=>by
   rw [yl] at hc;refine xbl Dx _ _ (fun d hd=>?_) (fun d hd=>?_) c hc
   · obtain ⟨y,hy,rfl⟩:=List.mem_map.1 hd;exact h x (by simp) y hy
   · rcases List.mem_cons.1 hd with rfl | hd
     · exact hz
     · exact zav hz Dx r b (fun x' iY y hy=>h x' (by simp [iY]) y hy) d hd
theorem kai {b : List Pl} (hb : b ≠ []) : ∀ a : List Pl, a ≠ [] -> (yl a b).length = a.length + b.length - 1
 | [],h=>absurd rfl h
 | [x],_=>by
   have:=List.length_pos_iff.2 hb;rw [yl,yl,wa4,List.length_map];simp;omega
 | x :: y :: r,_=>by
   have:=List.length_pos_iff.2 hb;rw [yl,wa4,List.length_map,List.length_cons,kai hb (y :: r) (by simp)];simp;omega
theorem qbq (f:Pl->Pl) (b:List Pl) (i:Nat) (hi:i < b.length):(b.map f).getD i Pl.zero=f (b.getD i Pl.zero):=by
 rw [List.getD_eq_getElem?_getD,List.getD_eq_getElem?_getD,List.getElem?_map,List.getElem?_eq_getElem hi]; rfl
theorem uaz (b:List Pl) (i:Nat) (hi:b.length<=i):b.getD i Pl.zero=Pl.zero:=by
 rw [List.getD_eq_getElem?_getD,List.getElem?_eq_none hi]; rfl
theorem jbk (ρ : Int -> Rat) {b : List Pl} (hb : b ≠ []) : ∀ a : List Pl, a ≠ [] -> ((yl a b).getD (a.length + b.length - 2) Pl.zero).val ρ = (a.getD (a.length - 1) Pl.zero).val ρ * (b.getD (b.length - 1) Pl.zero).val ρ
 | [],h=>absurd rfl h
 | [x],_=>by
   have hp:=List.length_pos_iff.2 hb;rw [yl,yl,qae,show [x].length+b.length - 2=b.length - 1 by simp; omega,qbq _ _ _ (by omega),Pl.mul_val,show ([x]:List Pl).length - 1=0 by simp,List.getD_cons_zero];have:([Pl.zero].getD (b.length - 1) Pl.zero).val ρ=0:=by
    cases b.length - 1 with
    | zero=>rw [List.getD_cons_zero,Pl.zero_val]
    | succ n=>rw [List.getD_cons_succ,List.getD_nil,Pl.zero_val]
   rw [this]
   grind
 | x :: y :: r,_=>by
   have hp:=List.length_pos_iff.2 hb;have ih:=jbk ρ hb (y :: r) (by simp);obtain ⟨i,hi⟩:=n_m ((y :: r).length+b.length - 2);have e:(x :: y :: r).length+b.length - 2=i+1:=by simp at hi ⊢; omega
   rw [hi] at ih;rw [yl,e,qae,uaz (b.map _) _ (by rw [List.length_map]; simp at hi; omega),Pl.zero_val,List.getD_cons_succ,ih];have e2:(x :: y :: r).length - 1=(y :: r).length - 1+1:=by simp
   rw [e2,List.getD_cons_succ]
   grind
theorem zcc {L:List Pl} (hn:L ≠ []) (h:¬ ∀ ρ,(L.getD (L.length - 1) Pl.zero).val ρ=0):L.getLast? ≠ some Pl.zero:=by
 intro e;apply h;intro ρ;have hl:L.length - 1 < L.length:=by have:=List.length_pos_iff.2 hn; omega
 rw [List.getLast?_eq_getElem?,List.getElem?_eq_getElem hl] at e;injection e with e
 rw [List.getD_eq_getElem?_getD,List.getElem?_eq_getElem hl,Option.getD_some,e,Pl.zero_val]
theorem ucx {p q:Pl} (h:p.Can) (k:q.Can) (hp:p ≠ Pl.zero) (hq:q ≠ Pl.zero):¬ ∀ ρ,p.val ρ * q.val ρ=0:=fun hz=>by
 rcases Pl.mul_zero h k hz with e | e
 · exact hp e
 · exact hq e
section
variable {l:Int} (hl:1<=l) (ag:l<=4)
include hl ag
theorem xae {p:Pl} (h:p.Can) (hp:p ≠ Pl.zero):p.cfL l ≠ []:=by
 intro e;have:=Pl.cfL_len hl ag h hp;rw [e] at this;simp at this
theorem wbq {p:Pl} (h:p.Can) (hp:p ≠ Pl.zero):ui l p ≠ Pl.zero:=xag (Pl.cfL_coefs hl ag h).last (xae hl ag h hp)
theorem ucb {p q:Pl} (h:p.Can) (k:q.Can) (hp:p ≠ Pl.zero) (hq:q ≠ Pl.zero):zal l (p.mul q) (yl (p.cfL l) (q.cfL l)):=by
 have cp:=Pl.cfL_coefs hl ag h;have cq:=Pl.cfL_coefs hl ag k;have np:=xae hl ag h hp;have nq:=xae hl ag k hq;have lp:=List.length_pos_iff.2 np;have lq:=List.length_pos_iff.2 nq;have hlen:=kai nq _ np;refine ⟨zav Pl.zero_can (fun a b _ _=>Pl.add_can a b) _ _ fun x _ y _=>Pl.mul_can x y,zav (vaq l) (fun a b ha hb=>ha.add hb) _ _ fun x hx y hy=>(cp.ind x hx).mul (cq.ind y hy),fun ρ=>by rw [qbk,cp.val,cq.val,Pl.mul_val],zcc ?_ fun hz=>?_⟩
 · intro e;rw [e] at hlen;simp at hlen;omega
 · refine ucx (gae cp.can _) (gae cq.can _) (wbq hl ag h hp) (wbq hl ag k hq) fun ρ=>?_
   have:=hz ρ;rw [hlen,show (p.cfL l).length+(q.cfL l).length - 1 - 1=(p.cfL l).length+(q.cfL l).length - 2 by omega,jbk ρ nq _ np] at this;exact this
theorem ybh {p q:Pl} (h:p.Can) (k:q.Can) (hp:p ≠ Pl.zero) (hq:q ≠ Pl.zero):(p.mul q).cfL l=yl (p.cfL l) (q.cfL l):=(Pl.cfL_coefs hl ag (Pl.mul_can p q)).uniq (ucb hl ag h k hp hq)
theorem ybz {p q:Pl} (h:p.Can) (k:q.Can) (hp:p ≠ Pl.zero) (hq:q ≠ Pl.zero):mdg l (p.mul q)=mdg l p+mdg l q:=by
 have lp:=List.length_pos_iff.2 (xae hl ag h hp);have lq:=List.length_pos_iff.2 (xae hl ag k hq);unfold mdg;rw [ybh hl ag h k hp hq,kai (xae hl ag k hq) _ (xae hl ag h hp)];omega
end
end Go.Proofs.YtklnlgnnlmdibaaGreat
