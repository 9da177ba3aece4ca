/- Plain: the coefficients of a polynomial in one variable: levels, sizes, degrees. -/
import Derived.Test.YtcepajijiabkmaaGreatMq25
import Derived.Test.YtcepajijiabkmaaGreatMq20
set_option linter.unusedSimpArgs false
set_option linter.unusedVariables false

namespace Go.Proofs.YtcepajijiabkmaaGreat
def Low (n:Int) (p:Pl):Prop:=∀ ρ ρ':Int->Rat,(∀ j,j<=n->ρ j=ρ' j)->p.val ρ=p.val ρ'
theorem Low.indep {n l:Int} {p:Pl} (h:Low n p) (hl:n < l):jh l p:=fun ρ ρ' he=>h ρ ρ' fun j hj=>he j (by omega)
theorem Low.mono {n m:Int} {p:Pl} (h:Low n p) (hm:n<=m):Low m p:=fun ρ ρ' he=>h ρ ρ' fun j hj=>he j (by omega)
theorem Low.nf {n:Int} {p:Pl} (h:Low n p):Low n p.nf:=fun ρ ρ' he=>by rw [Pl.nf_val,Pl.nf_val]; exact h ρ ρ' he
theorem yay {p:Pl} (h:p.Can):Low p.lv p:=fun _ _ he=>p.val_low h he
theorem ya1 (n:Int):Low n Pl.zero:=fun ρ ρ' _=>by rw [Pl.zero_val,Pl.zero_val]
theorem ja2 {l:Int} {ng:Bool} {ds:List Nat} {cs:List Pl} (h:(Pl.mk l ng ds cs).Can) (hl:0 < l):gao l (.mk l ng ds cs) cs:=by
 obtain ⟨-,-,h2,hk,h5⟩:=h.kids hl;exact ⟨fun c hc=>(hk.mem c hc).2,fun c hc=>kah (hk.mem c hc).2 (hk.mem c hc).1,fun ρ=>(Pl.mk_val ρ _ _ _ hl h.lv_nonneg.2).symm,h5⟩
theorem qba {l:Int} {p:Pl} (h:p.Can) (hp:p ≠ Pl.zero) (hi:jh l p):gao l p [p]:=by
 refine ⟨fun c hc=>?_,fun c hc=>?_,fun ρ=>?_,?_⟩
 · rw [List.mem_singleton.1 hc]; exact h
 · rw [List.mem_singleton.1 hc]; exact hi
 · rw [qf,qf]; grind
 · intro e; injection e with e; exact hp e
theorem zcc {p:Pl} (h:p=Pl.zero):p.lv=0:=by rw [h]; rfl
theorem vbv {l:Int} (hl:0 < l) {p:Pl} (h:p.Can) (hi:jh l p):p.lv ≠ l:=by
 intro e;have hp:p ≠ Pl.zero:=fun e'=>by have:=zcc e'; omega
 cases p with
 | mk lv ng ds cs =>
   have e':lv=l:=e;subst e';have h1:=(ja2 h hl).uniq (qba h hp hi);obtain ⟨-,-,h2,-⟩:=h.kids hl;rw [h1] at h2;simp at h2
theorem qa5 {n:Int} (hn:0<=n) {p:Pl} (h:p.Can) (hl:Low n p):p.lv<=n:=by
 by_cases h1:p.lv<=n
 · exact h1
 · exact absurd rfl (vbv (l:=p.lv) (by omega) h (hl.indep (by omega)))
theorem Pl.cfs_low {l : Int} {n : Nat} : ∀ p : Pl, p.Can -> ∀ c ∈ p.cfs l n, Low p.lv c
 | .mk lv ng ds cs,h,c,hc=>by
   have h4:=h.lv_nonneg;simp only [Pl.lv] at h4 ⊢;rw [Pl.cfs] at hc
   by_cases h0:lv<=0
   · by_cases h1:lv < l
     · rw [if_pos h1] at hc;rcases zab _ _ _ hc with rfl | hc
       · exact ya1 _
       · rw [List.mem_singleton.1 hc]; exact yay h
     · rw [if_neg h1] at hc;have eH:cs=[]:=by
        rw [Pl.Can] at h;rcases h with h | h
        · exact h.2.1
        · omega
       subst eH
       split at hc
       · rcases zab _ _ _ hc with rfl | hc
         · exact ya1 _
         · cases hc
       · obtain ⟨i,hi,rfl⟩:=List.mem_map.1 hc;intro ρ ρ' _;rw [jaf,Pl.val,Pl.val,if_pos h0,if_pos h0]
   · obtain ⟨-,-,h2,hk,-⟩:=h.kids (by omega)
     by_cases h1:lv < l
     · rw [if_pos h1] at hc;rcases zab _ _ _ hc with rfl | hc
       · exact ya1 _
       · rw [List.mem_singleton.1 hc]; exact yay h
     · rw [if_neg h1] at hc
       by_cases h3:lv=l
       · rw [if_pos h3] at hc;rcases zab _ _ _ hc with rfl | hc
         · exact ya1 _
         · exact (yay (hk.mem c hc).2).mono (by have:=(hk.mem c hc).1; omega)
       · rw [if_neg h3] at hc;obtain ⟨i,hi,rfl⟩:=List.mem_map.1 hc;rw [wah];intro ρ ρ' he;rw [Pl.mk_val ρ _ _ _ (by omega) h4.2,Pl.mk_val ρ' _ _ _ (by omega) h4.2];refine uaj (he lv (Int.le_refl _)) _ fun d hd=>?_
         obtain ⟨c,hc,rfl⟩:=List.mem_map.1 hd;have hlen:=c.cfs_len l n;have iO:=List.mem_range.1 hi;rw [List.getD_eq_getElem?_getD,List.getElem?_eq_getElem (by omega)];exact Pl.cfs_low c (hk.mem c hc).2 _ (List.getElem_mem _) ρ ρ' fun j hj=>he j (by have:=(hk.mem c hc).1; omega)
theorem wat {l:Int} {n i:Nat} (p:Pl) (hi:i<=n):(p.cfs l n).getD i Pl.zero ∈ p.cfs l n:=by
 have:=p.cfs_len l n;rw [List.getD_eq_getElem?_getD,List.getElem?_eq_getElem (by omega)];exact List.getElem_mem _
theorem gc4 {lv:Int} (h0:0 < lv) (h4:lv<=4) {ks:List Pl} (hk:∀ c ∈ ks,c.nf.lv < lv):(Pl.mk lv false [] ks).nf=uaa lv (ks.map Pl.nf):=by
 have h:=za4 h0 h4 (cs:=ks.map Pl.nf) (zae fun x hx=>by obtain ⟨c,hc,rfl⟩:=List.mem_map.1 hx; exact ⟨hk c hc,c.nf_can⟩);refine Pl.val_uniq (Pl.nf_can _) h.1 fun ρ=>?_
 rw [Pl.nf_val,h.2.2,qbc,Pl.mk_val ρ _ _ _ h0 h4]
theorem kbh {l lv:Int} {n i:Nat} {c:Pl} (hc:c.Can) (hl:c.lv < lv) (hi:i<=n):((c.cfs l n).getD i Pl.zero).nf.lv < lv:=by
 have:=qa5 hc.lv_nonneg.1 (Pl.nf_can _) (Pl.cfs_low c hc _ (wat (l:=l) c hi)).nf;omega
theorem Pl.cfs_fit {l : Int} {n E : Nat} : ∀ p : Pl, p.Can -> p.ex E -> ∀ i, i <= n -> ((p.cfs l n).getD i Pl.zero).nf.ex E /\ ((p.cfs l n).getD i Pl.zero).nf.nr <= p.nr
 | .mk lv ng ds cs,h,he,i,hi=>by
   have h4:=h.lv_nonneg;simp only [Pl.lv] at h4;have hz:Pl.zero.nf.ex E/\Pl.zero.nf.nr<=(Pl.mk lv ng ds cs).nr:=by
    rw [Pl.nf_zero];exact ⟨(Fit.zero (D:=0)).ex,by have:Pl.zero.nr=0:=by { unfold Pl.zero; rw [Pl.nr,if_pos (Int.le_refl _)]; rfl }; omega⟩
   have nI:(Pl.mk lv ng ds cs).nf.ex E/\(Pl.mk lv ng ds cs).nf.nr<=(Pl.mk lv ng ds cs).nr:=by rw [Pl.nf_of_can h]; exact ⟨he,Nat.le_refl _⟩
   have bP:=wat (l:=l) (n:=n) (.mk lv ng ds cs) hi
   by_cases h1:lv < l
   · rw [Pl.cfs,if_pos h1] at bP ⊢;rcases zab _ _ _ bP with e | hc
     · rw [e]; exact hz
     · rw [List.mem_singleton.1 hc]; exact nI
   · by_cases h0:lv<=0
     · have eH:cs=[]:=by
        rw [Pl.Can] at h;rcases h with h | h
        · exact h.2.1
        · omega
       subst eH;rw [Pl.cfs,if_neg h1] at bP ⊢
       split at bP
       · rename_i h3;rw [if_pos h3];rcases zab _ _ _ bP with e | hc
         · rw [e]; exact hz
         · cases hc
       · rename_i h3;rw [if_neg h3,ya3 _ _ (by omega),jaf];have e:(Pl.mk lv false [] []).nf=Pl.zero:=Pl.val_uniq (Pl.nf_can _) Pl.zero_can fun ρ=>by
          rw [Pl.nf_val,Pl.zero_val,Pl.val,if_pos h0]
          rfl
         rw [e];rw [Pl.nf_zero] at hz;exact hz
     · obtain ⟨-,-,h2,hk,-⟩:=h.kids (by omega);have hx:∀ c ∈ cs,c.ex E/\c.nr<=(Pl.mk lv ng ds cs).nr:=fun c hc=>by
        rw [Pl.ex] at he;exact ⟨xat (he.resolve_left (by omega)).2 c hc,by rw [Pl.nr,if_neg h0]; exact jbc hc⟩
       by_cases h3:lv=l
       · rw [Pl.cfs,if_neg h1,if_pos h3] at bP ⊢;rcases zab _ _ _ bP with e | hc
         · rw [e]; exact hz
         · rw [Pl.nf_of_can (hk.mem _ hc).2]; exact hx _ hc
       · rw [Pl.cfs_get l n lv ng ds cs (by omega) hi,wah,gc4 (by omega) h4.2 fun d hd=>by
          obtain ⟨c,hc,rfl⟩:=List.mem_map.1 hd
          exact kbh (hk.mem c hc).2 (hk.mem c hc).1 hi]
         rw [Pl.ex] at he;have hlen:=(he.resolve_left (by omega)).1;have ih:∀ c ∈ cs,((c.cfs l n).getD i Pl.zero).nf.ex E/\((c.cfs l n).getD i Pl.zero).nf.nr<=c.nr:=fun c hc=>Pl.cfs_fit c (hk.mem c hc).2 (hx c hc).1 i hi
         constructor
         · refine xco (fun x ed=>?_) (by simpa using hlen);rw [List.map_map] at ed;obtain ⟨c,hc,rfl⟩:=List.mem_map.1 ed;exact (ih c hc).1
         · refine Nat.le_trans (yco (by omega)) ?_;rw [List.map_map,Pl.nr,if_neg h0];have:=ja9 (f:=Pl.nf ∘ fun c=>(c.cfs l n).getD i Pl.zero) (K:=1) cs fun c hc=>by rw [Nat.mul_one]; exact (ih c hc).2
           rwa [Nat.mul_one] at this
theorem Pl.sz_ge1 (p:Pl):1<=p.sz:=by cases p; rw [Pl.sz]; omega
theorem qa9 {f : Pl -> Pl} : ∀ cs : List Pl, (∀ c ∈ cs, (f c).sz <= c.sz) -> xk (cs.map f) <= xk cs
 | [],_=>Nat.le_refl _
 | c :: r,h=>by
   have h1:=qa9 r fun x hx=>h x (by simp [hx])
   have h2:=h c (by simp);rw [List.map_cons,xk,xk];omega
theorem ua9 {f : Pl -> Pl} : ∀ cs : List Pl, (∀ c ∈ cs, (f c).dm <= c.dm) -> qx (cs.map f) <= qx cs
 | [],_=>Nat.le_refl _
 | c :: r,h=>by
   have h1:=ua9 r fun x hx=>h x (by simp [hx])
   have h2:=h c (by simp);rw [List.map_cons,qx,qx];omega
theorem Pl.cfs_raw {l : Int} {n : Nat} : ∀ p : Pl, ∀ i, i <= n -> ((p.cfs l n).getD i Pl.zero).sz <= p.sz /\ ((p.cfs l n).getD i Pl.zero).dm <= p.dm
 | .mk lv ng ds cs,i,hi=>by
   have hp:=(Pl.mk lv ng ds cs).sz_ge1;have hz:Pl.zero.sz<=(Pl.mk lv ng ds cs).sz/\Pl.zero.dm<=(Pl.mk lv ng ds cs).dm:=by
    have e1:Pl.zero.sz=1:=by decide
    have e2:Pl.zero.dm=0:=by decide
    omega
   have bP:=wat (l:=l) (n:=n) (.mk lv ng ds cs) hi
   by_cases h1:lv < l
   · rw [Pl.cfs,if_pos h1] at bP ⊢;rcases zab _ _ _ bP with e | hc
     · rw [e]; exact hz
     · rw [List.mem_singleton.1 hc]; exact ⟨Nat.le_refl _,Nat.le_refl _⟩
   · by_cases h3:lv=l
     · rw [Pl.cfs,if_neg h1,if_pos h3] at bP ⊢;rcases zab _ _ _ bP with e | hc
       · rw [e]; exact hz
       · exact ⟨Nat.le_of_lt (Pl.sz_kid (p:=.mk lv ng ds cs) hc),Pl.dm_kid (p:=.mk lv ng ds cs) hc⟩
     · rw [Pl.cfs_get l n lv ng ds cs (by omega) hi,wah];have a:=qa9 (f:=fun c=>(c.cfs l n).getD i Pl.zero) cs fun c hc=>(Pl.cfs_raw c i hi).1
       have b:=ua9 (f:=fun c=>(c.cfs l n).getD i Pl.zero) cs fun c hc=>(Pl.cfs_raw c i hi).2
       rw [Pl.sz,Pl.sz,Pl.dm,Pl.dm];exact ⟨by omega,by simp only [List.length_nil]; omega⟩
theorem Pl.ex_self : ∀ p : Pl, p.ex p.sz
 | .mk l n d cs=>by
   rw [Pl.ex]
   by_cases h:l<=0
   · exact .inl h
   · refine .inr ⟨?_,ua6 fun c hc=>?_⟩
     · have:=vac cs;rw [Pl.sz];omega
     · exact Pl.ex_mono (Nat.le_of_lt (Pl.sz_kid (p:=.mk l n d cs) hc)) c (Pl.ex_self c)
theorem xbm (l : Int) : ∀ (cs : List Pl) (a : Int), a < yw l a cs -> ∃ c ∈ cs, c.dgL l = yw l a cs
 | [],a,h=>by rw [yw] at h; omega
 | c :: r,a,h=>by
   rw [yw] at h ⊢
   by_cases h1:max a (c.dgL l) < yw l (max a (c.dgL l)) r
   · obtain ⟨d,hd,e⟩:=xbm l r _ h1;exact ⟨d,by simp [hd],e⟩
   · have:=va0 l r (max a (c.dgL l));exact ⟨c,by simp,by omega⟩
theorem Pl.cfs_top {l : Int} (hl : 1 <= l) : ∀ (p : Pl) (n : Nat), p.Can -> p ≠ Pl.zero -> p.dgL l = n -> ¬ ∀ ρ, ((p.cfs l n).getD n Pl.zero).val ρ = 0
 | .mk lv ng ds cs,n,h,hp,hd=>by
   have h4:=h.lv_nonneg;simp only [Pl.lv] at h4;rw [Pl.dgL] at hd
   by_cases h1:lv < l
   · rw [if_pos h1] at hd;obtain rfl:n=0:=by omega
     rw [Pl.cfs,if_pos h1,vab,List.getD_cons_zero];exact fun hz=>hp (Pl.zero_of_val h hz)
   · obtain ⟨-,-,h2,hk,h5⟩:=h.kids (by omega);rw [if_neg h1] at hd
     by_cases h3:lv=l
     · rw [if_pos h3] at hd;rw [Pl.cfs,if_neg h1,if_pos h3,vbc n cs n (Nat.le_refl _)];have au:=kar h5 (by rintro rfl; simp at h2);rw [show cs.length - 1=n by omega] at au;refine fun hz=>au (Pl.zero_of_val ?_ hz)
       rw [List.getD_eq_getElem?_getD,List.getElem?_eq_getElem (by omega)];exact (hk.mem _ (List.getElem_mem _)).2
     · rw [if_neg h3] at hd;obtain ⟨c,hc,hcz,hcd⟩:∃ c ∈ cs,c ≠ Pl.zero/\c.dgL l=n:=by
        by_cases hn:n=0
        · subst hn;have au:=kar h5 (by rintro rfl; simp at h2);have hm:cs.getD (cs.length - 1) Pl.zero ∈ cs:=by
           rw [List.getD_eq_getElem?_getD,List.getElem?_eq_getElem (by omega)];exact List.getElem_mem _
          refine ⟨_,hm,au,?_⟩;have a:=qav l cs 0 _ hm;have b:=Pl.dgL_bd hl _ (hk.mem _ hm).2 (Pl.ex_self _);omega
        · obtain ⟨c,hc,e⟩:=xbm l cs 0 (by omega);refine ⟨c,hc,fun e'=>?_,by omega⟩;rw [e'] at e;have:Pl.zero.dgL l=0:=by unfold Pl.zero; rw [Pl.dgL,if_pos (by omega)]
          omega
       rw [Pl.cfs_get l n lv ng ds cs (by omega) (Nat.le_refl _),wah];intro hz;refine Pl.cfs_top hl c n (hk.mem c hc).2 hcz hcd ?_;have iC:=xcj (l:=lv) (by omega) h4.2 (ks:=(cs.map fun c=>(c.cfs l n).getD n Pl.zero).map Pl.nf) (fun d hd=>by
        rw [List.map_map] at hd;obtain ⟨c,hc,rfl⟩:=List.mem_map.1 hd
        exact ⟨Pl.nf_can _,kbh (hk.mem c hc).2 (hk.mem c hc).1 (Nat.le_refl _)⟩) (fun ρ=>by rw [qbc,<- Pl.mk_val ρ false [] _ (by omega:0 < lv) h4.2]; exact hz ρ)
       intro ρ;have:=iC _ (List.mem_map.2 ⟨_,List.mem_map.2 ⟨c,hc,rfl⟩,rfl⟩);rw [<- Pl.nf_val,this,Pl.zero_val]
theorem Pl.cfL_of {l:Int} (hl:1<=l) (aj:l<=4) {p:Pl} (hc:p.Can) (hp:p ≠ Pl.zero):p.cfL l=(p.cfs l (p.dgL l).toNat).map Pl.nf:=by rw [Pl.cfL,if_neg (by rw [Pl.zero_isZ hc]; exact hp),if_pos ⟨hl,aj⟩]
theorem Pl.cfL_len {l:Int} (hl:1<=l) (aj:l<=4) {p:Pl} (hc:p.Can) (hp:p ≠ Pl.zero):(p.cfL l).length=(p.dgL l).toNat+1:=by rw [Pl.cfL_of hl aj hc hp,List.length_map,Pl.cfs_len]
theorem Pl.cfL_zero (l:Int):Pl.zero.cfL l=[]:=by rw [Pl.cfL,if_pos (by decide)]
theorem Pl.cfL_coefs {l:Int} (hl:1<=l) (aj:l<=4) {p:Pl} (h:p.Can):gao l p (p.cfL l):=by
 by_cases hp:p=Pl.zero
 · subst hp;rw [Pl.cfL_zero];exact { can:=fun c hc=>(by cases hc),ind:=fun c hc=>(by cases hc),val:=fun ρ=>(by rw [qf,Pl.zero_val]),last:=(by simp) }
 · have hd:=Pl.dgL_bd hl p h p.ex_self;rw [Pl.cfL_of hl aj h hp];refine ⟨fun c hc=>?_,fun c hc=>?_,fun ρ=>?_,fun e=>?_⟩
   · obtain ⟨d,-,rfl⟩:=List.mem_map.1 hc;exact d.nf_can
   · obtain ⟨d,DK,rfl⟩:=List.mem_map.1 hc;exact (Pl.cfs_indep hl p h d DK).nf
   · rw [qbc,Pl.cfs_val hl p h (Int.self_le_toNat _)]
   · have hlen:=p.cfs_len l (p.dgL l).toNat;refine Pl.cfs_top hl p (p.dgL l).toNat h hp (by omega) fun ρ=>?_
     rw [List.getLast?_eq_getElem?,List.getElem?_map,List.length_map,hlen,Nat.add_sub_cancel] at e;rw [List.getD_eq_getElem?_getD];rw [List.getElem?_eq_getElem (by omega)] at e ⊢;simp only [Option.map_some,Option.some.injEq,Option.getD_some] at e ⊢;rw [<- Pl.nf_val,e,Pl.zero_val]
theorem Pl.cfL_fit {l:Int} {p:Pl} {E D:Nat} (h:Fit p E D):∀ c ∈ p.cfL l,Fit c E D:=by
 intro c hc;rw [Pl.cfL] at hc
 split at hc
 · cases hc
 · split at hc
   · obtain ⟨d,hd,rfl⟩:=List.mem_map.1 hc;obtain ⟨i,hi,rfl⟩:=List.getElem_of_mem hd;have hlen:=p.cfs_len l (p.dgL l).toNat;have:=Pl.cfs_fit (l:=l) (n:=(p.dgL l).toNat) p h.can h.ex i (by omega);rw [List.getD_eq_getElem?_getD,List.getElem?_eq_getElem hi] at this;exact ⟨Pl.nf_can _,this.1,Nat.lt_of_le_of_lt this.2 h.nr⟩
   · rw [List.mem_singleton.1 hc]; exact h
theorem Pl.cfL_lv {l:Int} {p:Pl} (h:p.Can):∀ c ∈ p.cfL l,c.lv<=p.lv:=by
 intro c hc;rw [Pl.cfL] at hc
 split at hc
 · cases hc
 · split at hc
   · obtain ⟨d,hd,rfl⟩:=List.mem_map.1 hc;exact qa5 h.lv_nonneg.1 (Pl.nf_can _) (Pl.cfs_low p h d hd).nf
   · rw [List.mem_singleton.1 hc]; exact Int.le_refl _
open Go.RowKit
def PBx (V:World) (Q:Nat->Prop) (g:Nat) (p:Pl):Prop:=g < V.heap.size/\(∀ i,V.frozen? ⟨g,i,none⟩=false)/\∃ A0 n0 c0 A1 c1,jc V g p (.slice A0 n0 c0) (.slice A1 p.cs.length c1)/\PlV V (fun b=>Q b/\b ≠ g) p (plV p (.slice A0 n0 c0) (.slice A1 p.cs.length c1))
section
variable {V V':World} {Q:Nat->Prop} {g:Nat} {p p':Pl}
theorem PBx.ext (h:PBx V Q g p) (hx:Ext V V'):PBx V' Q g p:=by
 obtain ⟨h0,h1,A0,n0,c0,A1,c1,h2,h3⟩:=h;exact ⟨Nat.lt_of_lt_of_le h0 hx.size,fun i=>(hx.frozen (p:=⟨g,i,none⟩) h0).trans (h1 i),A0,n0,c0,A1,c1,h2.ext hx h0,h3.ext hx⟩
theorem PBx.mono {Q':Nat->Prop} (h:PBx V Q g p) (hq:∀ b,Q b->Q' b):PBx V Q' g p:=by
 obtain ⟨h0,h1,A0,n0,c0,A1,c1,h2,h3⟩:=h;exact ⟨h0,h1,A0,n0,c0,A1,c1,h2,h3.mono fun b hb=>⟨hq b hb.1,hb.2⟩⟩
theorem PBx.store (h:PBx V Q g p) {Q':Nat->Prop} {A0 A1:Option Addr} {n0 c0 c1:Nat} (hp:PlV V (fun b=>Q' b/\b ≠ g) p' (plV p' (.slice A0 n0 c0) (.slice A1 p'.cs.length c1))) :
 PBx ((((V.setCell ⟨g,0,none⟩ (.int .i64 p'.lv)).setCell ⟨g,1,none⟩ (.bool p'.neg)).setCell ⟨g,2,none⟩ (.slice A0 n0 c0)).setCell ⟨g,3,none⟩ (.slice A1 p'.cs.length c1)) Q' g p':=by
 obtain ⟨h0,h1,B0,m0,d0,B1,d1,h2,h3⟩:=h;exact ⟨by simpa [World.setCell] using h0,fun i=>by simp only [World.frozen?_setCell]; exact h1 i,_,_,_,_,_,h2.set,h2.keep _ _ _ _ hp fun b _ hb=>⟨hb.2,hb⟩⟩
theorem PBx.stays (h:PBx V Q g p) {q:Nat->Prop} {P:Pl} {v:Value} (hP:PlV V q P v) (hq:∀ b,q b->b ≠ g) (x0:Int) (x1:Bool) (A0 A1:Option Addr) (n0 c0 n1 c1:Nat) :
 PlV ((((V.setCell ⟨g,0,none⟩ (.int .i64 x0)).setCell ⟨g,1,none⟩ (.bool x1)).setCell ⟨g,2,none⟩ (.slice A0 n0 c0)).setCell ⟨g,3,none⟩ (.slice A1 n1 c1)) q P v:=by
 obtain ⟨h0,h1,B0,m0,d0,B1,d1,⟨g0,g1,g2,g3⟩,h3⟩:=h;refine PlV.turn_ (by simp [World.setCell]) (fun v ds hv=>?_) (fun b _ hb=>⟨hb,xac _ _ _ _ _ _ _ (hq b hb)⟩) hP;refine (((hv.box g0 rfl _).box (u:=.bool p.neg) ?_ rfl _).box (u:=.slice B0 m0 d0) ?_ rfl _).box (u:=.slice B1 p.cs.length d1) ?_ rfl _
 · rw [World.cell?_setCell_other _ _ _ _ (by simp)]; exact g1
 · rw [World.cell?_setCell_other _ _ _ _ (by simp),World.cell?_setCell_other _ _ _ _ (by simp)]; exact g2
 · rw [World.cell?_setCell_other _ _ _ _ (by simp),World.cell?_setCell_other _ _ _ _ (by simp),World.cell?_setCell_other _ _ _ _ (by simp)]; exact g3
theorem PBx.new {A0 A1:Option Addr} {n0 c0 c1:Nat} (hp:PlV V Q p (plV p (.slice A0 n0 c0) (.slice A1 p.cs.length c1))) (T:TypeId):PBx (V.alloc (.cells #[.int .i64 p.lv,.bool p.neg,.slice A0 n0 c0,.slice A1 p.cs.length c1] T)) Q V.heap.size p:=by
 refine ⟨by simp,fun i=>by simp [go_sem],A0,n0,c0,A1,c1,jc.new V p _ _ _,?_⟩;exact PlV.turn_ (V.size_alloc _ ▸ Nat.le_succ _) (fun _ _ h=>h.ext ((Ext.refl V).alloc _)) (fun b hb hq=>⟨⟨hq,by omega⟩,((Ext.refl V).alloc _).below.block b hb⟩) hp
end
theorem z_b {W prev:World} (y:Ext W prev):∃ V o,prev.alloc (.cells #[.int .i64 0,.bool false,.slice none 0 0,.slice none 0 0] 33)=V/\prev.heap.size=o/\PBx V (fun _=>False) o Pl.zero/\Ext W V/\W.heap.size<=o/\o < V.heap.size/\Hid (o=prev.heap.size)/\Ext prev V:=
  ⟨_,_,rfl,rfl,PBx.new (Pl.zero_v _ _ none 0 (by omega)) _,y.alloc _,y.size,by simp,Lib.hid rfl,(Ext.refl _).alloc _⟩
theorem z_d {W prev:World} (y:Ext W prev):∃ V o,(prev.alloc (.cells #[.int .i64 0,.bool false,.slice none 0 0,.slice none 0 0] 33)).drew=V/\prev.heap.size=o/\PBx V (fun _=>False) o Pl.zero/\Ext W V/\W.heap.size<=o/\o < V.heap.size/\Hid (o=prev.heap.size)/\Ext prev V:=
  ⟨_,_,rfl,rfl,(PBx.new (Pl.zero_v _ _ none 0 (by omega)) _).ext (Ext.refl _).drew,(y.alloc _).drew,y.size,by have:=(PBx.new (V:=prev) (Q:=fun _=>False) (Pl.zero_v _ _ none 0 (by omega)) 33).1; exact this,Lib.hid rfl,((Ext.refl _).alloc _).drew⟩
theorem b_1 (w:World) (f:Pl) (a b:Value):∃ W,(w.alloc (.cells #[.int .i64 f.lv,.bool f.neg,a,b] 33))=W/\W.heap.size=w.heap.size+1/\Ext w W/\jc W w.heap.size f a b:=⟨_,rfl,by simp,(Ext.refl w).alloc _,jc.new w f _ _ _⟩
theorem b_z (w:World):∃ W,(w.alloc (.cells #[.int .i64 0,.bool false,.slice none 0 0,.slice none 0 0] 33))=W/\W.heap.size=w.heap.size+1/\Ext w W/\uf W w.heap.size:=⟨_,rfl,by simp,(Ext.refl w).alloc _,uf.new w _⟩
theorem b_y (w:World) (f:Pl) (a b:Value):∃ V W,(w.alloc (.cells #[.int .i64 f.lv,.bool f.neg,a,b] 33))=V/\(V.alloc (.cells #[.int .i64 0,.bool false,.slice none 0 0,.slice none 0 0] 33))=W/\V.heap.size=w.heap.size+1/\Ext w V/\W.heap.size=w.heap.size+1+1/\Ext V W/\jc W w.heap.size f a b/\uf W (w.heap.size+1):=by
  obtain ⟨V,hV,h1,h2,h3⟩:=b_1 w f a b;obtain ⟨W,hW,h4,h5,h6⟩:=b_z V;exact ⟨V,W,hV,hW,h1,h2,by omega,h5,h3.ext h5 (by omega),by rw [h1] at h6; exact h6⟩
theorem b_2 (w:World) (f g:Pl) (a b c d:Value):∃ V W,(w.alloc (.cells #[.int .i64 f.lv,.bool f.neg,a,b] 33))=V/\(V.alloc (.cells #[.int .i64 g.lv,.bool g.neg,c,d] 33))=W/\V.heap.size=w.heap.size+1/\Ext w V/\W.heap.size=w.heap.size+1+1/\Ext V W/\jc W w.heap.size f a b/\jc W (w.heap.size+1) g c d:=by
  obtain ⟨V,hV,h1,h2,h3⟩:=b_1 w f a b;obtain ⟨W,hW,h4,h5,h6⟩:=b_1 V g c d;exact ⟨V,W,hV,hW,h1,h2,by omega,h5,h3.ext h5 (by omega),by rw [h1] at h6; exact h6⟩
theorem b_x (w:World) (f g:Pl) (a b c d:Value):∃ U V W,(w.alloc (.cells #[.int .i64 f.lv,.bool f.neg,a,b] 33))=U/\(U.alloc (.cells #[.int .i64 g.lv,.bool g.neg,c,d] 33))=V/\(V.alloc (.cells #[.int .i64 0,.bool false,.slice none 0 0,.slice none 0 0] 33))=W/\U.heap.size=w.heap.size+1/\Ext w U/\V.heap.size=w.heap.size+1+1/\Ext U V/\W.heap.size=w.heap.size+1+1+1/\Ext V W/\jc W w.heap.size f a b/\jc W (w.heap.size+1) g c d/\uf W (w.heap.size+1+1):=by
  obtain ⟨U,V,hU,hV,h1,h2,h3,h4,h5,h6⟩:=b_2 w f g a b c d;obtain ⟨W,hW,h7,h8,h9⟩:=b_z V;exact ⟨U,V,W,hU,hV,hW,h1,h2,h3,h4,by omega,h8,h5.ext h8 (by omega),h6.ext h8 (by omega),by rw [h3] at h9; exact h9⟩
end Go.Proofs.YtcepajijiabkmaaGreat
