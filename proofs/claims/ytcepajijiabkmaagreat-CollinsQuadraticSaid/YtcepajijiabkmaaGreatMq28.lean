/- Layer 22: recpoly.degree. -/
import Derived.Test.YtcepajijiabkmaaGreatMq26
set_option linter.unusedSimpArgs false
set_option linter.unusedVariables false

namespace Go.Proofs.YtcepajijiabkmaaGreat
open Lib (hid)
open Go.RowKit
theorem Pl.dgL_lt {l:Int} {p:Pl} (h:p.lv < l):p.dgL l=0:=by cases p; simp only [Pl.lv] at h; rw [Pl.dgL,if_pos h]
theorem Pl.dgL_eq {l:Int} {p:Pl} (h:p.lv=l):p.dgL l=p.cs.length - 1:=by
 cases p; simp only [Pl.lv,Pl.cs] at *; rw [Pl.dgL,if_neg (by omega),if_pos h]
theorem Pl.dgL_gt {l:Int} {p:Pl} (h:l < p.lv):p.dgL l=yw l 0 p.cs:=by
 cases p; simp only [Pl.lv,Pl.cs] at *; rw [Pl.dgL,if_neg (by omega),if_neg (by omega)]
def joinL (l:Int) (cs:List Pl):Pl:=if 1<=l/\l<=4 then (Pl.mk l false [] cs).nf else Pl.zero
def wu (l:Int) (p:Pl):Pl:=(p.cfL l).getD ((p.cfL l).length - 1) Pl.zero
def kag (l:Int) (p:Pl):Pl:=joinL l (p.cfL l).dropLast
def ji (l i:Int) (p:Pl):Pl:=if i < 0 then Pl.zero else (p.cfL l).getD i.toNat Pl.zero
def mdg (l:Int) (p:Pl):Int:=((p.cfL l).length:Int) - 1
def uag : Int -> List Pl -> List Pl
 | _,[]=>[]
 | k,c :: r=>c.mul (Pl.const k) :: uag (k+1) r
def uo (l:Int) (p:Pl):Pl:=if 1<=l/\l<=4 then joinL l (uag 1 (p.cfL l).tail) else Pl.zero
theorem gah : ∀ (k : Int) (cs : List Pl), (uag k cs).length = cs.length
 | _,[]=>rfl
 | k,c :: r=>by rw [uag,List.length_cons,List.length_cons,gah (k+1) r]
theorem za2 : ∀ (k : Int) (cs : List Pl) (i : Nat) (h : i < cs.length) (h' : i < (uag k cs).length), (uag k cs)[i] = cs[i].mul (Pl.const (k + i))
 | k,c :: r,0,_,_=>by simp only [uag,List.getElem_cons_zero]; rw [Int.natCast_zero,Int.add_zero]
 | k,c :: r,i+1,h,h'=>by
   simp only [uag,List.getElem_cons_succ];rw [za2 (k+1) r i (by simpa using h)]
   congr 2
   omega
theorem gcj {l:Int} {p:Pl} (h:p.Can):mdg l p=if p.isZ=true then -1 else if 1<=l/\l<=4 then p.dgL l else 0:=by
 unfold mdg
 by_cases hz:p.isZ=true
 · rw [if_pos hz,Pl.cfL,if_pos hz]; rfl
 · rw [if_neg hz]
   by_cases hl:1<=l/\l<=4
   · have hd:=Pl.dgL_bd hl.1 p h p.ex_self;rw [if_pos hl,Pl.cfL_len hl.1 hl.2 h (fun e=>hz ((Pl.zero_isZ h).2 e))];omega
   · rw [if_neg hl,Pl.cfL,if_neg hz,if_neg hl]; rfl
theorem jc5 {l:Int} (p:Pl):-1<=mdg l p:=by unfold mdg; omega
theorem gbc {l:Int} {p:Pl} (h:p.Can):mdg l p=-1 ↔ p=Pl.zero:=by
 constructor
 · intro e;have hc:p.cfL l=[]:=List.eq_nil_of_length_eq_zero (by unfold mdg at e; omega);rw [Pl.cfL] at hc
   split at hc
   · rename_i hz; exact (Pl.zero_isZ h).1 hz
   · split at hc
     · have:=congrArg List.length hc;rw [List.length_map,Pl.cfs_len] at this;simp at this
     · cases hc
 · rintro rfl; unfold mdg; rw [Pl.cfL_zero]; rfl
theorem ya5 {l:Int} {p:Pl} {E:Nat} (h:p.Can) (he:p.ex E):mdg l p<=E:=by
 rw [gcj h]
 split
 · omega
 · split
   · rename_i hl; exact (Pl.dgL_bd hl.1 p h he).2
   · omega
theorem jad (l:Int) (cs:List Pl):(joinL l cs).Can:=by
 unfold joinL
 split
 · exact Pl.nf_can _
 · exact Pl.zero_can
theorem jac {l:Int} (hl:1<=l) (aj:l<=4) (ρ:Int->Rat) (cs:List Pl):(joinL l cs).val ρ=qf ρ l cs:=by
 unfold joinL;rw [if_pos ⟨hl,aj⟩,Pl.nf_val,Pl.mk_val ρ _ _ _ (by omega) aj]
theorem kbw {L:List Pl} (h:∀ c ∈ L,c.Can) (i:Nat):(L.getD i Pl.zero).Can:=by
 rw [List.getD_eq_getElem?_getD]
 by_cases hi:i < L.length
 · rw [List.getElem?_eq_getElem hi]; exact h _ (List.getElem_mem hi)
 · rw [List.getElem?_eq_none (by omega)]; exact Pl.zero_can
theorem xaf {P:Pl->Prop} {L:List Pl} (hz:P Pl.zero) (h:∀ c ∈ L,P c) (i:Nat):P (L.getD i Pl.zero):=by
 rw [List.getD_eq_getElem?_getD]
 by_cases hi:i < L.length
 · rw [List.getElem?_eq_getElem hi]; exact h _ (List.getElem_mem hi)
 · rw [List.getElem?_eq_none (by omega)]; exact hz
theorem jao {l:Int} {p:Pl} (h:p.Can):∀ c ∈ p.cfL l,c.Can:=by
 intro c hc;rw [Pl.cfL] at hc
 split at hc
 · cases hc
 · split at hc
   · obtain ⟨d,-,rfl⟩:=List.mem_map.1 hc;exact d.nf_can
   · rw [List.mem_singleton.1 hc]; exact h
theorem Mo.mul_put {m n:Mo} (l e:Int) (h1:0 < l) (h4:l<=4):(m.mul n).put l (m.get l+e)=m.mul (n.put l e):=by
 rcases (show l=1\/l=2\/l=3\/l=4 by omega) with rfl | rfl | rfl | rfl <;> rfl
mutual
theorem Pl.terms_shift (m : Mo) : ∀ (p : Pl) (n : Mo), ∀ x ∈ p.terms (m.mul n), ∃ y ∈ p.terms n, x.2 = m.mul y.2 /\ x.1 = y.1
 | .mk l ng d cs,n,x,hx=>by
   rw [Pl.terms] at hx ⊢
   split at hx
   · rename_i h;rw [if_pos h,List.mem_singleton.1 hx];exact ⟨_,List.mem_singleton.2 rfl,rfl,rfl⟩
   · rename_i h;rw [if_neg h]
     split at hx
     · cases hx
     · rename_i h4;rw [if_neg h4];rw [Mo.get_mul] at hx;exact qa3 m cs n l (n.get l) (by omega) (by omega) x hx
theorem qa3 (m : Mo) : ∀ (cs : List Pl) (n : Mo) (l e : Int), 0 < l -> l <= 4 -> ∀ x ∈ xe (m.mul n) l (m.get l + e) cs, ∃ y ∈ xe n l e cs, x.2 = m.mul y.2 /\ x.1 = y.1
 | [],n,l,e,_,_,x,hx=>by rw [xe] at hx; cases hx
 | c :: r,n,l,e,h1,h4,x,hx=>by
   rw [xe] at hx ⊢;rcases List.mem_append.1 hx with hx | hx
   · rw [Mo.mul_put l e h1 h4] at hx;obtain ⟨y,hy,e1⟩:=Pl.terms_shift m c _ x hx;exact ⟨y,List.mem_append_left _ hy,e1⟩
   · rw [Int.add_assoc] at hx;obtain ⟨y,hy,e1⟩:=qa3 m r n l (e+1) h1 h4 x hx;exact ⟨y,List.mem_append_right _ hy,e1⟩
end
theorem Mo.mul_one (m:Mo):m.mul Mo.one=m:=by
 unfold Mo.mul Mo.one;simp
theorem jh.kids {l lv:Int} {ng:Bool} {ds:List Nat} {cs:List Pl} (h:(Pl.mk lv ng ds cs).Can) (hl:0 < l) (af:l < lv) (hi:jh l (.mk lv ng ds cs)):∀ c ∈ cs,jh l c:=by
 obtain ⟨-,-,h2,hk,-⟩:=h.kids (by omega);have h4:lv<=4:=h.lv_nonneg.2;intro c hc ρ ρ' he;obtain ⟨i,iO,rfl⟩:=List.getElem_of_mem hc;have key:∀ x:Rat,hsum x (cs.map (Pl.val ρ))=hsum x (cs.map (Pl.val ρ')):=by
  intro x;have h1:∀ σ:Int->Rat,hsum x (cs.map (Pl.val σ))=(Pl.mk lv ng ds cs).val fun j=>if j=lv then x else σ j:=by
   intro σ;rw [Pl.mk_val _ _ _ _ (by omega) h4,zaf,if_pos rfl]
   congr 1
   refine List.map_congr_left fun d hd=>Pl.val_low d (hk.mem d hd).2 fun j hj=>?_
   have:=(hk.mem d hd).1;rw [if_neg (by omega)]
  rw [h1,h1];exact hi _ _ fun j hj=>by
   by_cases oK:j=lv
   · rw [if_pos oK,if_pos oK]
   · rw [if_neg oK,if_neg oK]; exact he j hj
 have hz:=ybw cs.length ((List.range cs.length).map fun i=>(cs.getD i Pl.zero).val ρ+(-1) * (cs.getD i Pl.zero).val ρ') (by simp) (fun x _=>by
  rw [ja1 cs.length (fun i=>(cs.getD i Pl.zero).val ρ) (fun i=>(cs.getD i Pl.zero).val ρ'),ga6 x ρ cs _ (Nat.le_refl _),ga6 x ρ' cs _ (Nat.le_refl _),key]
  grind)
 have:=hz _ (List.mem_map.2 ⟨i,List.mem_range.2 iO,rfl⟩);rw [List.getD_eq_getElem?_getD,List.getElem?_eq_getElem iO,Option.getD_some] at this
 grind
theorem gaw (m : Mo) (l : Int) : ∀ (cs : List Pl) (e : Int), ∀ x ∈ xe m l e cs, ∃ c ∈ cs, ∃ i : Nat, i < cs.length /\ x ∈ c.terms (m.put l (e + i))
 | [],e,x,hx=>by rw [xe] at hx; cases hx
 | c :: r,e,x,hx=>by
   rw [xe] at hx;rcases List.mem_append.1 hx with hx | hx
   · exact ⟨c,by simp,0,by simp,by simpa using hx⟩
   · obtain ⟨d,hd,i,h,hm⟩:=gaw m l r (e+1) x hx;refine ⟨d,by simp [hd],i+1,by simpa using h,?_⟩;rw [show e+((i+1:Nat):Int)=e+1+i by omega];exact hm
theorem wbm {l : Int} (hl : 0 < l) (aj : l <= 4) : ∀ p : Pl, p.Can -> jh l p -> ∀ x ∈ p.terms Mo.one, x.2.get l = 0
 | .mk lv ng ds cs,h,hi,x,hx=>by
   have h4:=h.lv_nonneg;simp only [Pl.lv] at h4
   by_cases h1:lv < l
   · have:=Pl.exp_above h (n:=lv.toNat) (by show lv<=_; omega) x hx l.toNat (by omega) (by omega)
     rwa [show ((l.toNat:Nat):Int)=l by omega] at this
   · have au:=vbv hl h hi;simp only [Pl.lv] at au;obtain ⟨-,-,-,hk,-⟩:=h.kids (by omega);rw [Pl.terms,if_neg (by omega),if_neg (by omega)] at hx;obtain ⟨c,fC,i,af,hm⟩:=gaw _ _ _ _ x hx;have hmul:Mo.one.put lv (Mo.one.get lv+(i:Int))=(Mo.one.put lv (Mo.one.get lv+(i:Int))).mul Mo.one:=(Mo.mul_one _).symm;rw [hmul] at hm;obtain ⟨y,hy,e1,-⟩:=Pl.terms_shift _ _ _ x hm;rw [e1,Mo.get_mul,wbm hl aj c (hk.mem c fC).2 (jh.kids h hl (by omega) hi c fC) y hy];have:=Mo.get_put Mo.one lv.toNat (Mo.one.get lv+(i:Int)) (by omega) (by omega) l.toNat (by omega) (by omega);rw [show ((l.toNat:Nat):Int)=l by omega,show ((lv.toNat:Nat):Int)=lv by omega,if_neg (by omega)] at this;rw [this];rcases (show l=1\/l=2\/l=3\/l=4 by omega) with rfl | rfl | rfl | rfl <;> rfl
theorem yav (m : Mo) (l : Int) : ∀ (cs : List Pl) (e : Int), (∀ c ∈ cs, c.Can) -> yg (xe m l e cs) = ql cs
 | [],e,_=>rfl
 | c :: r,e,h=>by rw [xe,qag,ql,Pl.terms_nr c _ (h c (by simp)),yav m l r (e+1) fun d hd=>h d (by simp [hd])]
theorem uav {l:Int} {cs:List Pl} {E D:Nat} (h:∀ c ∈ cs,c.Can/\jh l c/\c.ex E) (hlen:cs.length<=E+1) (hn:ql cs < B32 ^ D):Fit (joinL l cs) E D:=by
 unfold joinL
 split
 · rename_i hl;refine ⟨Pl.nf_can _,Pl.ofS_ex fun x hx=>?_,Nat.lt_of_le_of_lt (Pl.ofS_nr _) ?_⟩
   · rw [Pl.terms,if_neg (by omega),if_neg (by omega)] at hx;obtain ⟨c,fC,i,af,hm⟩:=gaw _ _ _ _ x hx;obtain ⟨hc,hi,he⟩:=h c fC;rw [<- Mo.mul_one (Mo.one.put l (Mo.one.get l+(i:Int)))] at hm;obtain ⟨y,hy,e1,-⟩:=Pl.terms_shift _ _ _ x hm;have mi:=wbm (by omega) hl.2 _ hc hi y hy;have VK:=(Pl.fit_of hc he).exps y hy;rw [e1];unfold Mo.le Mo.mul Mo.put Mo.one Mo.get at *;rcases (show l=1\/l=2\/l=3\/l=4 by omega) with rfl | rfl | rfl | rfl <;> simp at * <;> omega
   · rw [Pl.terms,if_neg (by omega),if_neg (by omega),yav _ _ _ _ fun c hc=>(h c hc).1];exact hn
 · exact Fit.zero
theorem jcs {cs:List Pl} {M:Nat} (h:∀ c ∈ cs,c.nr<=M):ql cs<=cs.length * M:=by
 induction cs with
 | nil=>rw [ql]; exact Nat.zero_le _
 | cons c r ih =>
   have h1:=ih fun d hd=>h d (by simp [hd])
   have h2:=h c (by simp);rw [ql,List.length_cons,Nat.succ_mul];omega
theorem kbc {cs:List Pl} {E D:Nat} (h:∀ c ∈ cs,Fit c E D) (hlen:cs.length<=B32):ql cs < B32 ^ (D+1):=by
 have h1:ql cs<=cs.length * (B32 ^ D - 1):=jcs fun c hc=>by have:=(h c hc).nr; omega
 have h2:cs.length * (B32 ^ D - 1)<=B32 * (B32 ^ D - 1):=Nat.mul_le_mul_right _ hlen;have h3:0 < B32 ^ D:=Nat.pow_pos (by decide);rw [Nat.pow_succ,Nat.mul_comm];have h4:B32 * (B32 ^ D - 1) < B32 * B32 ^ D:=Nat.mul_lt_mul_of_pos_left (by omega) (by decide);omega
theorem kac {l:Int} (hl:1<=l) (aj:l<=4) {p:Pl} (h:p.Can):∀ c ∈ p.cfL l,jh l c:=(Pl.cfL_coefs hl aj h).ind
theorem jaa {l:Int} {p:Pl} {E:Nat} (h:p.Can) (he:p.ex E):(p.cfL l).length<=E+1:=by
 have:=ya5 (l:=l) h he;unfold mdg at this;omega
theorem gbb {l:Int} {p:Pl} {E D:Nat} (h:Fit p E D) (hE:E < B32):Fit (kag l p) E (D+1):=by
 by_cases hl:1<=l/\l<=4
 · have hm:∀ c ∈ (p.cfL l).dropLast,c ∈ p.cfL l:=fun c hc=>(List.dropLast_sublist _).mem hc
   have hlen:(p.cfL l).dropLast.length<=E+1:=by
    have:=jaa (l:=l) h.can h.ex;rw [List.length_dropLast]; omega
   exact uav (fun c hc=>⟨jao h.can c (hm c hc),kac hl.1 hl.2 h.can c (hm c hc),(Pl.cfL_fit h c (hm c hc)).ex⟩) hlen (kbc (fun c hc=>Pl.cfL_fit h c (hm c hc)) (by omega))
 · unfold kag joinL;rw [if_neg hl];exact Fit.zero
theorem kbm {l:Int} {p:Pl} {E D:Nat} (h:Fit p E D):Fit (wu l p) E D:=xaf (P:=fun c=>Fit c E D) Fit.zero (Pl.cfL_fit h) _
theorem jcm {l i:Int} {p:Pl} {E D:Nat} (h:Fit p E D):Fit (ji l i p) E D:=by
 unfold ji
 split
 · exact Fit.zero
 · exact xaf (P:=fun c=>Fit c E D) Fit.zero (Pl.cfL_fit h) _
theorem vbd {k:Int} {cs:List Pl} {c:Pl} (h:c ∈ uag k cs):∃ d ∈ cs,∃ i:Nat,i < cs.length/\c=d.mul (Pl.const (k+i)):=by
 obtain ⟨i,hi,rfl⟩:=List.getElem_of_mem h;have iO:i < cs.length:=by rw [gah] at hi; exact hi
 exact ⟨cs[i],List.getElem_mem iO,i,iO,za2 k cs i iO hi⟩
theorem jh.mul {l:Int} {p q:Pl} (h:jh l p) (k:jh l q):jh l (p.mul q):=fun ρ ρ' he=>by rw [Pl.mul_val,Pl.mul_val,h ρ ρ' he,k ρ ρ' he]
theorem jh.add {l:Int} {p q:Pl} (h:jh l p) (k:jh l q):jh l (p.add q):=fun ρ ρ' he=>by rw [Pl.add_val,Pl.add_val,h ρ ρ' he,k ρ ρ' he]
theorem jh.opp {l:Int} {p:Pl} (h:jh l p):jh l p.opp:=fun ρ ρ' he=>by rw [Pl.opp_val,Pl.opp_val,h ρ ρ' he]
theorem jh.const (l z:Int):jh l (Pl.const z):=fun ρ ρ' _=>by rw [Pl.const_val,Pl.const_val]
theorem kbd (l:Int) (p:Pl):(uo l p).Can:=by
 unfold uo
 split
 · exact jad _ _
 · exact Pl.zero_can
theorem vas {α : Type} {x : α} : ∀ {L : List α}, x ∈ L.tail -> x ∈ L
 | _ :: _,h=>List.mem_cons_of_mem _ h
theorem wa1 {l:Int} {p:Pl} {E D:Nat} (h:Fit p E D) (hE:E < B32):Fit (uo l p) E (D+2):=by
 unfold uo
 split
 · rename_i hl;have hlen:=jaa (l:=l) h.can h.ex;have hf:∀ c ∈ uag 1 (p.cfL l).tail,Fit c E (D+1)/\jh l c:=fun c hc=>by
    obtain ⟨d,hd,i,hi,rfl⟩:=vbd hc;rw [List.length_tail] at hi;refine ⟨?_,(kac hl.1 hl.2 h.can d (vas hd)).mul (jh.const l _)⟩;have:=(Pl.cfL_fit h d (vas hd)).mul (Fit.const (E:=0) (D:=1) (z:=1+(i:Int)) (by rw [Nat.pow_one]; omega));exact this.mono (by omega) (by omega)
   exact uav (fun c hc=>⟨(hf c hc).1.can,(hf c hc).2,(hf c hc).1.ex⟩) (by rw [gah,List.length_tail]; omega) (kbc (fun c hc=>(hf c hc).1) (by rw [gah,List.length_tail]; omega))
 · exact Fit.zero
end Go.Proofs.YtcepajijiabkmaaGreat

set_option maxRecDepth 100000
set_option maxHeartbeats 8000000
namespace Go.Proofs.YtcepajijiabkmaaGreat
open Lib (hid)
open Go.RowKit
theorem qam (l:Int) (w:World):Calls Tryz.prog 35 #[.int .i64 l] w fun e w'=>e=.returned (.bool (decide (1<=l) && decide (l<=4)))/\w'=w:=by
 by_cases h:1<=l
 · go_enter Tryz.func35,Tryz.ntmps35;go_wp2_with fail;go_ret;simp [h]
 · go_enter Tryz.func35,Tryz.ntmps35;go_wp2_with fail;go_ret;have h':l < 1:=by omega
   simp [h]; omega
def jc7 (w0:World) (q:Nat->Prop) (l:Int) (n:Nat):Prop:=∀ (p:Pl) (v:Value) (w:World),p.sz < n->p.Can->p.cs.length<=1099511627776->(∀ c ∈ p.cs,c.sz<=1099511627776)->PlV w0 q p v->Ext w0 w->Calls Tryz.prog 136 #[v,.int .i64 l] w (xa6 (p.dgL l) w)
theorem wc2 (w0:World) (q:Nat->Prop) (l:Int) (hl:1<=l) (n:Nat):jc7 w0 q l n:=by
 induction n with
 | zero=>intro p v w h; omega
 | succ n ih =>
 intro p v w hn bQ hlen hks h aF;obtain ⟨A0,n0,c0,A,c,rfl,-,dY,dK,h4⟩:=h.open_;have IH:=hid ih;have H4:=hid h4;have ay:=hid aF;have iT:Hid (∀ k (hk:k < p.cs.length),p.cs[k].sz < n/\p.cs[k].Can/\p.cs[k].cs.length<=1099511627776/\∀ c ∈ p.cs[k].cs,c.sz<=1099511627776):=by
  have:∀ k (hk:k < p.cs.length),p.cs[k].sz < n/\p.cs[k].Can/\p.cs[k].cs.length<=1099511627776/\∀ c ∈ p.cs[k].cs,c.sz<=1099511627776:=fun k hk=>by
   have hm:=List.getElem_mem hk;have h1:=Pl.sz_kid hm;have h2:=hks _ hm;have h3:=Pl.sz_len p.cs[k];refine ⟨by omega,?_,by omega,fun c hc=>by have:=Pl.sz_kid hc; omega⟩;obtain ⟨lv,ng,ds,cs⟩:=p;rcases Int.lt_or_le 0 lv with h0 | h0
   · exact ((bQ.kids h0).2.2.2.1.mem _ hm).2
   · have:cs=[]:=by
      have:=bQ;rw [Pl.Can] at this;rcases this with ⟨-,h,-⟩ | ⟨h,-⟩
      · exact h
      · omega
     subst this;cases hm
  exact this
 obtain ⟨W,hW⟩:=n_m (w.alloc (.cells #[.int .i64 p.lv,.bool p.neg,.slice A0 n0 c0,.slice A p.cs.length c] 33));have ag:Ext w W:=by rw [<- hW]; exact (Ext.refl w).alloc _
 have bY:W.heap.size=w.heap.size+1:=by rw [<- hW]; simp
 have bJ:jc W w.heap.size p (.slice A0 n0 c0) (.slice A p.cs.length c):=by rw [<- hW]; exact jc.new w p _ _ _
 have aB:=hid ag;have eY:=hid bJ;obtain ⟨b0,b1,b2,b3⟩:=bJ;clear h h4 ih aF hks ag;unfold plV
 by_cases k1:p.lv < l
 · rw [Pl.dgL_lt k1];have q1:decide (p.lv < l)=true:=by simpa using k1
   go_enter Tryz.func136,Tryz.ntmps136;go_wp2_with fail;go_ret;exact ⟨rfl,aB.out⟩
 by_cases k2:p.lv=l
 · rw [Pl.dgL_eq k2];have q1:decide (p.lv < l)=false:=by simpa using k1
   have q2:(p.lv == l)=true:=by simpa using k2
   have hw:IntKind.i64.wrap ((p.cs.length:Int) - 1)=(p.cs.length:Int) - 1:=by simp [IntKind.wrap,IntKind.bits,IntKind.signed]; omega
   have HW1:=hid hw;clear k1 k2;clear iT eY H4;generalize p.cs.length=N at *;go_enter Tryz.func136,Tryz.ntmps136;go_wp2_with fail;go_ret;exact ⟨by first | rfl | rw [HW1.out],aB.out⟩
 · rw [Pl.dgL_gt (by omega)];have q1:decide (p.lv < l)=false:=by simpa using k1
   have q2:(p.lv == l)=false:=by simpa using k2
   clear k1 k2;go_enter Tryz.func136,Tryz.ntmps136;go_wp2_with fail;clear hW b0 b1 b2 b3
   go_loopw [25,5] (fun iv mv wr=>∃ k:Nat,k<=p.cs.length/\iv=.int .i64 k/\Hid (mv=.int .i64 (yw l 0 (p.cs.take k))/\Ext W wr)) (fun iv _ _=>p.cs.length - (intOf iv).toNat)
   case atStart=>exact ⟨0,Nat.zero_le _,rfl,⟨by simp [yw],Ext.refl W⟩⟩
   case round =>
    obtain ⟨k,hk,rfl,⟨rfl,mr⟩⟩:=hrel;have vN:=hid mr
    by_cases af:k < p.cs.length
    · obtain ⟨ad,B0,m0,d0,B1,m1,d1,rfl,ah,bF,aV⟩:=jd.kid H4.out k af;have bC:Ext w0 wr:=(ay.out.trans aB.out).trans mr;obtain ⟨e0,e1,e2,e3⟩:=bF.ext bC (by rw [ja]; exact ah);obtain ⟨rX,pI,zK,zJ⟩:=iT.out k af;have HC:=hid (fun W' (nZ:Ext wr W')=>IH.out p.cs[k] _ W' rX pI zK zJ aV (bC.trans nZ));have bG:Hid (yw l 0 (p.cs.take (k+1))=max (yw l 0 (p.cs.take k)) (p.cs[k].dgL l)):=by
       have:yw l 0 (p.cs.take (k+1))=max (yw l 0 (p.cs.take k)) (p.cs[k].dgL l):=kcb _ _ _ _ af;exact this
      generalize yw l 0 (p.cs.take k)=mm at *;generalize p.cs[k]=ck at *;generalize ck.dgL l=dk at *;clear bF aV ah rX pI zK zJ bC mr;go_wp2_with fail;refine (HC.out _ ((Ext.refl _).alloc _)).mono ?_;rintro e w2 ⟨rfl,x2⟩;have X2:=hid ((vN.out.alloc _).trans x2);clear x2 HC e0 e1 e2 e3;go_wp2_with fail
      go_roundw
      case rel=>exact ⟨k+1,by omega,by go_num,⟨by rw [bG.out],X2.out⟩⟩
      case measure=>simp only [intOf]; omega
    · have bV:k=p.cs.length:=by omega
      rw [bV,List.take_length];clear mr bV;generalize yw l 0 p.cs=mm at *;go_wp2_with fail;go_ret;exact ⟨rfl,aB.out.trans vN.out⟩
theorem wbx {w:World} {q:Nat->Prop} {l:Int} (hl:1<=l) (p:Pl) (v:Value) (bQ:p.Can) (hsz:p.sz<=1099511627776) (h:PlV w q p v):Calls Tryz.prog 136 #[v,.int .i64 l] w (xa6 (p.dgL l) w):=
 wc2 w q l hl (p.sz+1) p v w (Nat.lt_succ_self _) bQ (by have:=Pl.sz_len p; omega) (fun c hc=>by have:=Pl.sz_kid hc; omega) h (Ext.refl w)
theorem gai {w:World} {p:Pl} {q0:Nat->Prop} (v0:Value) (h0:PlV w q0 p v0) (hp:p.Can):Calls Tryz.prog 20 #[v0] w (wam p.isZ w):=by
 have H0:=hid h0;obtain ⟨A0,n0,c0,B0,d0,rfl,-,-,-,-⟩:=h0.open_;clear h0;obtain ⟨W,hW⟩:=n_m (w.alloc (.cells #[.int .i64 (p).lv,.bool (p).neg,.slice A0 n0 c0,.slice B0 (p).cs.length d0] 33));have ag:Ext w W:=by rw [<- hW]; exact (Ext.refl w).alloc _
 have bY:W.heap.size=w.heap.size+1:=by rw [<- hW]; simp
 have ay:=hid ag;have HS:Hid (∀ W',Ext W W'->(Ext w W'/\jc W' (w.heap.size) p (.slice A0 n0 c0) (.slice B0 (p).cs.length d0))):=by
  have:∀ W',Ext W W'->(Ext w W'/\jc W' (w.heap.size) p (.slice A0 n0 c0) (.slice B0 (p).cs.length d0)):=fun W' hx=>by
   obtain ⟨hc,hf⟩:=hx.cells;refine ⟨ag.trans hx,?_,?_,?_,?_⟩ <;> (rw [hc _ _ (by omega),<- hW]; simp [go_sem])
  exact this
 obtain ⟨-,b0,b1,b2,b3⟩:=HS.out W (Ext.refl W);clear ag;unfold plV;go_enter Tryz.func20,Tryz.ntmps20;go_wp2_with fail;clear hW b0 b1 b2 b3;refine (jo _ (H0.out.ext ay.out) hp).mono ?_;rintro e w1 ⟨z1,rfl,m1,x1⟩;obtain ⟨C1,i1,j1,D1,k1,rfl,-⟩:=id m1.open_;have LZ:=hid (x1);obtain ⟨-,b0,b1,b2,b3⟩:=HS.out _ LZ.out;unfold plV;go_wp2_with fail;clear b0 b1 b2 b3;refine (kad p _ m1).mono ?_;rintro e w2 ⟨rfl,x2⟩;have YY2:=hid (LZ.out.trans x2)
 replace m1:=m1.ext x2
 have X2:=hid (ay.out.trans YY2.out);clear m1 x1 x2 HS;generalize p.isZ=res at *;go_wp2_with fail;go_ret;exact ⟨rfl,X2.out⟩
theorem jak {w:World} {q:Nat->Prop} {p:Pl} {l:Int} (v:Value) (hp:p.Can) (hsz:p.sz<=1099511627776) (fG:p.dm<=35184372088832) (h:PlV w q p v):Calls Tryz.prog 109 #[v,.int .i64 l] w (xa6 (mdg l p) w):=by
 have HP:=hid h;obtain ⟨A0,n0,c0,A,c,rfl,-⟩:=h.open_;obtain ⟨W,hW⟩:=n_m (w.alloc (.cells #[.int .i64 p.lv,.bool p.neg,.slice A0 n0 c0,.slice A p.cs.length c] 33));have ag:Ext w W:=by rw [<- hW]; exact (Ext.refl w).alloc _
 have Js:PBx W (fun _=>True) w.heap.size p:=by rw [<- hW]; exact PBx.new (h.mono fun _ _=>trivial) _
 obtain ⟨r,hr⟩:=n_m (mdg l p);have HM:Hid (r=if p.isZ=true then -1 else if 1<=l/\l<=4 then p.dgL l else 0):=hid (by rw [<- hr]; exact gcj hp);rw [hr];clear hr;have HC:=hid hp;have HN:=hid (wad _ (HP.out.ext ag) hp hsz fG);have aB:=hid ag;have fO:=hid Js;have NT:=ag.size;obtain ⟨-,-,B0,Zp,Zq,B1,Zo,⟨b0,b1,b2,b3⟩,-⟩:=id Js;have hE:jc W (w.heap.size) p (.slice A0 n0 c0) (.slice A p.cs.length c):=by
  rw [<- hW]; exact ⟨by simp [go_sem],by simp [go_sem],by simp [go_sem],by simp [go_sem]⟩
 clear b0 b1 b2 b3 h hp Js ag;obtain ⟨b0,b1,b2,b3⟩:=hE;unfold plV at HN;unfold plV;go_enter Tryz.func109,Tryz.ntmps109;go_wp2_with fail;clear hW b0 b1 b2 b3;refine HN.out.mono ?_;rintro e w1 ⟨v1,rfl,m1,x1⟩;obtain ⟨C0,j0,f0,C1,f1,rfl,-⟩:=id m1.open_;have AZ:=fO.out.ext x1;obtain ⟨-,bu,B0,Zp,Zq,B1,Zo,⟨b0,b1,b2,b3⟩,-⟩:=id AZ;have hsW:w.heap.size < W.heap.size:=fO.out.1;have uX:=AZ.store (Q':=fun _=>True) (m1.mono fun b hb=>⟨trivial,by omega⟩);obtain ⟨W1,aP⟩:=n_m (((((w1.setCell ⟨w.heap.size,0,none⟩ (.int .i64 p.lv)).setCell ⟨w.heap.size,1,none⟩ (.bool p.neg)).setCell ⟨w.heap.size,2,none⟩ (.slice C0 j0 f0)).setCell ⟨w.heap.size,3,none⟩ (.slice C1 p.cs.length f1)));have X1:Hid (Ext w W1):=hid (by rw [<- aP]; exact ((((aB.out.trans x1).setCell (Nat.le_refl _) _).setCell (Nat.le_refl _) _).setCell (Nat.le_refl _) _).setCell (Nat.le_refl _) _);rw [aP] at uX;have wG:=hid uX;have Ci:=bu 0;have f1':=bu 1;have f2':=bu 2;have f3':=bu 3;have hd:jc W1 (w.heap.size) p (.slice C0 j0 f0) (.slice C1 p.cs.length f1):=by
  rw [<- aP]; exact jc.set (fO.out.ext x1).2.2.choose_spec.choose_spec.choose_spec.choose_spec.choose_spec.1
 have jP:Hid (PlV W1 (fun b=>W.heap.size<=b) p (plV p (.slice C0 j0 f0) (.slice C1 p.cs.length f1))):=hid (by rw [<- aP]; exact AZ.stays m1 (fun b hb=>by omega) _ _ _ _ _ _ _ _);have HD:Hid (∀ W',Ext W1 W'->jc W' (w.heap.size) p (.slice C0 j0 f0) (.slice C1 p.cs.length f1)):=hid (fun W' hx=>by
  have k:∀ i,W'.cell? ⟨w.heap.size,i,none⟩=W1.cell? ⟨w.heap.size,i,none⟩:=fun i=>hx.cell (p:=⟨w.heap.size,i,none⟩) wG.out.1
  exact ⟨(k 0).trans hd.1,(k 1).trans hd.2.1,(k 2).trans hd.2.2.1,(k 3).trans hd.2.2.2⟩)
 have kD:=hid (gai _ jP.out HC.out);unfold plV at kD;unfold plV;clear AZ uX bu m1 x1 HN;go_upto_region 2 with fail
 try rw [aP]
 clear aP b0 b1 b2 b3 Ci f1' f2' f3';obtain ⟨b0,b1,b2,b3⟩:=hd;go_wp2_with fail;clear b0 b1 b2 b3;refine kD.out.mono ?_;rintro e w2 ⟨rfl,x2⟩
 by_cases hz:p.isZ=true
 · have hM:=HM.out;rw [if_pos hz] at hM;have HR:=hid hM;rw [hz];have X2:=hid (X1.out.trans x2);clear x2 kD hM hz HM;go_wp2_with fail;go_ret;exact ⟨by rw [HR.out]; rfl,X2.out⟩
 · rw [show p.isZ=false by simpa using hz];have hM:=HM.out;rw [if_neg hz] at hM;have X2:=hid (X1.out.trans x2);have Jw:=hid x2;have Vf:=hid hM;clear x2 kD hz hM HM;go_wp2_with fail;refine (qam l _).mono ?_;rintro e w3 ⟨rfl,rfl⟩;have hM:=Vf.out;clear Vf
   by_cases hl:1<=l/\l<=4
   · rw [if_pos hl] at hM;have HR:=hid hM;clear hM;have oV:(decide (1<=l) && decide (l<=4))=true:=by simp [hl]
     rw [oV];have lV:=hid (fun (W':World) (hx:Ext W1 W')=>wbx hl.1 p _ HC.out hsz (jP.out.ext hx));unfold plV at lV;obtain ⟨b0,b1,b2,b3⟩:=HD.out _ Jw.out;clear hl oV;go_wp2_with fail;refine (lV.out _ Jw.out).mono ?_;rintro e w4 ⟨rfl,x4⟩;have X4:=hid (X2.out.trans x4);clear x4 lV b0 b1 b2 b3;go_wp2_with fail;go_ret;exact ⟨by rw [HR.out]; rfl,X4.out⟩
   · rw [if_neg hl] at hM;have HR:=hid hM;clear hM;have oV:(decide (1<=l) && decide (l<=4))=false:=by
      simp only [Bool.and_eq_false_iff,decide_eq_false_iff_not];omega
     rw [oV];clear hl oV;go_wp2_with fail;go_ret;exact ⟨by rw [HR.out]; rfl,X2.out⟩
section
variable {l:Int} (hl:1<=l) (aj:l<=4)
include hl aj
theorem jby {p:Pl} (h:p.Can) (hp:p ≠ Pl.zero):p.cfL l ≠ []:=by
 intro e;have:=Pl.cfL_len hl aj h hp;rw [e] at this;simp at this
end
end Go.Proofs.YtcepajijiabkmaaGreat
