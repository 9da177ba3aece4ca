/- Plain: the coefficients of a polynomial in one variable: levels, sizes, degrees. -/
import Derived.Test.YtcepajijiabkmaaGreatMp25
import Derived.Test.YtcepajijiabkmaaGreatMp20
set_option linter.unusedSimpArgs false
set_option linter.unusedVariables false

namespace Go.Proofs.YtcepajijiabkmaaGreat
def Low (n:Int) (p:Pl):Prop:=∀ ρ ρ':Int->Rat,(∀ j,j<=n->ρ j=ρ' j)->p.val ρ=p.val ρ'
theorem Low.indep {n l:Int} {p:Pl} (h:Low n p) (hl:n < l):ug l p:=fun ρ ρ' he=>h ρ ρ' fun j hj=>he j (by omega)
theorem Low.mono {n m:Int} {p:Pl} (h:Low n p) (hm:n<=m):Low m p:=fun ρ ρ' he=>h ρ ρ' fun j hj=>he j (by omega)
theorem Low.nf {n:Int} {p:Pl} (h:Low n p):Low n p.nf:=fun ρ ρ' he=>by rw [Pl.js,Pl.js]; exact h ρ ρ' he
theorem xbm {p:Pl} (h:p.Can):Low p.lv p:=fun _ _ he=>p.kj h he
theorem wa2 (n:Int):Low n Pl.zero:=fun ρ ρ' _=>by rw [Pl.qu,Pl.qu]
theorem wat {l:Int} {ng:Bool} {ds:List Nat} {cs:List Pl} (h:(Pl.mk l ng ds cs).Can) (hl:0 < l):kam l (.mk l ng ds cs) cs:=by
 obtain ⟨-,-,h2,hk,h5⟩:=h.kids hl;exact ⟨fun c hc=>(hk.mem c hc).2,fun c hc=>jar (hk.mem c hc).2 (hk.mem c hc).1,fun ρ=>(Pl.mk_val ρ _ _ _ hl h.qq.2).symm,h5⟩
theorem gay {l:Int} {p:Pl} (h:p.Can) (hp:p ≠ Pl.zero) (hi:ug l p):kam l p [p]:=by
 refine ⟨fun c hc=>?_,fun c hc=>?_,fun ρ=>?_,?_⟩
 · rw [pD.1 hc]; exact h
 · rw [pD.1 hc]; exact hi
 · rw [ve,ve]; grind
 · intro e; injection e with e; exact hp e
theorem zcf {p:Pl} (h:p=Pl.zero):p.lv=0:=by rw [h]; rfl
theorem zbf {l:Int} (hl:0 < l) {p:Pl} (h:p.Can) (hi:ug l p):p.lv ≠ l:=by
 intro e;have hp:p ≠ Pl.zero:=fun e'=>by have:=zcf e'; omega
 cases p with
 | mk lv ng ds cs =>
   have e':lv=l:=e;subst e';have h1:=(wat h hl).uniq (gay h hp hi);obtain ⟨-,-,h2,-⟩:=h.kids hl;rw [h1] at h2;simp at h2
theorem kbx {n:Int} (hn:0<=n) {p:Pl} (h:p.Can) (hl:Low n p):p.lv<=n:=by
 by_cases h1:p.lv<=n
 · exact h1
 · exact absurd rfl (zbf (l:=p.lv) (by omega) h (hl.indep (by omega)))
theorem Pl.Z6 {l : Int} {n : Nat} : ∀ p : Pl, p.Can -> ∀ c ∈ p.zm l n, Low p.lv c
 | .mk lv ng ds cs,h,c,hc=>by
   have h4:=h.qq;simp only [Pl.lv] at h4 ⊢;rw [Pl.zm] at hc
   by_cases h0:lv<=0
   · by_cases h1:lv < l
     · rw [if_pos h1] at hc;rcases yab _ _ _ hc with rfl | hc
       · exact wa2 _
       · rw [pD.1 hc]; exact xbm h
     · rw [if_neg h1] at hc;have fB:cs=[]:=by
        rw [Pl.Can] at h;rcases h with h | h
        · exact h.2.1
        · omega
       subst fB
       split at hc
       · rcases yab _ _ _ hc with rfl | hc
         · exact wa2 _
         · cases hc
       · obtain ⟨i,hi,rfl⟩:=pZ.1 hc;intro ρ ρ' _;rw [yah,Pl.val,Pl.val,if_pos h0,if_pos h0]
   · obtain ⟨-,-,h2,hk,-⟩:=h.kids (by omega)
     by_cases h1:lv < l
     · rw [if_pos h1] at hc;rcases yab _ _ _ hc with rfl | hc
       · exact wa2 _
       · rw [pD.1 hc]; exact xbm h
     · rw [if_neg h1] at hc
       by_cases h3:lv=l
       · rw [if_pos h3] at hc;rcases yab _ _ _ hc with rfl | hc
         · exact wa2 _
         · exact (xbm (hk.mem c hc).2).mono (by have:=(hk.mem c hc).1; omega)
       · rw [if_neg h3] at hc;obtain ⟨i,hi,rfl⟩:=pZ.1 hc;rw [xaj];intro ρ ρ' he;rw [Pl.mk_val ρ _ _ _ (by omega) h4.2,Pl.mk_val ρ' _ _ _ (by omega) h4.2];refine jak (he lv (ub _)) _ fun d hd=>?_
         obtain ⟨c,hc,rfl⟩:=pZ.1 hd;have hlen:=c.xz l n;have jI:=SM.1 hi;rw [pr,po (by omega)];exact Pl.Z6 c (hk.mem c hc).2 _ (pt _) ρ ρ' fun j hj=>he j (by have:=(hk.mem c hc).1; omega)
theorem wav {l:Int} {n i:Nat} (p:Pl) (hi:i<=n):(p.zm l n).getD i Pl.zero ∈ p.zm l n:=by
 have:=p.xz l n;rw [pr,po (by omega)];exact pt _
theorem qda {lv:Int} (h0:0 < lv) (h4:lv<=4) {ks:List Pl} (hk:∀ c ∈ ks,c.nf.lv < lv):(Pl.mk lv false [] ks).nf=vaa lv (ks.map Pl.nf):=by
 have h:=qa5 h0 h4 (cs:=ks.map Pl.nf) (zaf fun x hx=>by obtain ⟨c,hc,rfl⟩:=pZ.1 hx; exact ⟨hk c hc,c.xT⟩);refine Pl.qz (Pl.xT _) h.1 fun ρ=>?_
 rw [Pl.js,h.2.2,xbe,Pl.mk_val ρ _ _ _ h0 h4]
theorem ubj {l lv:Int} {n i:Nat} {c:Pl} (hc:c.Can) (hl:c.lv < lv) (hi:i<=n):((c.zm l n).getD i Pl.zero).nf.lv < lv:=by
 have:=kbx hc.qq.1 (Pl.xT _) (Pl.Z6 c hc _ (wav (l:=l) c hi)).nf;omega
theorem Pl.Jx {l : Int} {n E : Nat} : ∀ p : Pl, p.Can -> p.ex E -> ∀ i, i <= n -> ((p.zm l n).getD i Pl.zero).nf.ex E /\ ((p.zm l n).getD i Pl.zero).nf.nr <= p.nr
 | .mk lv ng ds cs,h,he,i,hi=>by
   have h4:=h.qq;simp only [Pl.lv] at h4;have hz:Pl.zero.nf.ex E/\Pl.zero.nf.nr<=(Pl.mk lv ng ds cs).nr:=by
    rw [Pl.KB];exact ⟨(Fit.zero (D:=0)).ex,by have:Pl.zero.nr=0:=by { unfold Pl.zero; rw [Pl.nr,if_pos (ub _)]; rfl }; omega⟩
   have pU:(Pl.mk lv ng ds cs).nf.ex E/\(Pl.mk lv ng ds cs).nf.nr<=(Pl.mk lv ng ds cs).nr:=by rw [Pl.q7 h]; exact ⟨he,pj _⟩
   have dB:=wav (l:=l) (n:=n) (.mk lv ng ds cs) hi
   by_cases h1:lv < l
   · rw [Pl.zm,if_pos h1] at dB ⊢;rcases yab _ _ _ dB with e | hc
     · rw [e]; exact hz
     · rw [pD.1 hc]; exact pU
   · by_cases h0:lv<=0
     · have fB:cs=[]:=by
        rw [Pl.Can] at h;rcases h with h | h
        · exact h.2.1
        · omega
       subst fB;rw [Pl.zm,if_neg h1] at dB ⊢
       split at dB
       · rename_i h3;rw [if_pos h3];rcases yab _ _ _ dB with e | hc
         · rw [e]; exact hz
         · cases hc
       · rename_i h3;rw [if_neg h3,ja4 _ _ (by omega),yah];have e:(Pl.mk lv false [] []).nf=Pl.zero:=Pl.qz (Pl.xT _) Pl.qS fun ρ=>by
          rw [Pl.js,Pl.qu,Pl.val,if_pos h0]
          rfl
         rw [e];rw [Pl.KB] at hz;exact hz
     · obtain ⟨-,-,h2,hk,-⟩:=h.kids (by omega);have hx:∀ c ∈ cs,c.ex E/\c.nr<=(Pl.mk lv ng ds cs).nr:=fun c hc=>by
        rw [Pl.ex] at he;exact ⟨zav (he.resolve_left (by omega)).2 c hc,by rw [Pl.nr,if_neg h0]; exact qbe hc⟩
       by_cases h3:lv=l
       · rw [Pl.zm,if_neg h1,if_pos h3] at dB ⊢;rcases yab _ _ _ dB with e | hc
         · rw [e]; exact hz
         · rw [Pl.q7 (hk.mem _ hc).2]; exact hx _ hc
       · rw [Pl.Ys l n lv ng ds cs (by omega) hi,xaj,qda (by omega) h4.2 fun d hd=>by
          obtain ⟨c,hc,rfl⟩:=pZ.1 hd
          exact ubj (hk.mem c hc).2 (hk.mem c hc).1 hi]
         rw [Pl.ex] at he;have hlen:=(he.resolve_left (by omega)).1;have ih:∀ c ∈ cs,((c.zm l n).getD i Pl.zero).nf.ex E/\((c.zm l n).getD i Pl.zero).nf.nr<=c.nr:=fun c hc=>Pl.Jx c (hk.mem c hc).2 (hx c hc).1 i hi
         constructor
         · refine ycs (fun x iY=>?_) (by simpa using hlen);rw [wN] at iY;obtain ⟨c,hc,rfl⟩:=pZ.1 iY;exact (ih c hc).1
         · refine py (zcs (by omega)) ?_;rw [wN,Pl.nr,if_neg h0];have:=xbb (f:=Pl.nf ∘ fun c=>(c.zm l n).getD i Pl.zero) (K:=1) cs fun c hc=>by rw [ua]; exact (ih c hc).2
           rwa [ua] at this
theorem Pl.qaT (p:Pl):1<=p.sz:=by cases p; rw [Pl.sz]; omega
theorem ybb {f : Pl -> Pl} : ∀ cs : List Pl, (∀ c ∈ cs, (f c).sz <= c.sz) -> vk (cs.map f) <= vk cs
 | [],_=>pj _
 | c :: r,h=>by
   have h1:=ybb r fun x hx=>h x (by simp [hx])
   have h2:=h c (by simp);rw [sr,vk,vk];omega
theorem kbb {f : Pl -> Pl} : ∀ cs : List Pl, (∀ c ∈ cs, (f c).dm <= c.dm) -> ww (cs.map f) <= ww cs
 | [],_=>pj _
 | c :: r,h=>by
   have h1:=kbb r fun x hx=>h x (by simp [hx])
   have h2:=h c (by simp);rw [sr,ww,ww];omega
theorem Pl.ZS {l : Int} {n : Nat} : ∀ p : Pl, ∀ i, i <= n -> ((p.zm l n).getD i Pl.zero).sz <= p.sz /\ ((p.zm l n).getD i Pl.zero).dm <= p.dm
 | .mk lv ng ds cs,i,hi=>by
   have hp:=(Pl.mk lv ng ds cs).qaT;have hz:Pl.zero.sz<=(Pl.mk lv ng ds cs).sz/\Pl.zero.dm<=(Pl.mk lv ng ds cs).dm:=by
    have e1:Pl.zero.sz=1:=by decide
    have e2:Pl.zero.dm=0:=by decide
    omega
   have dB:=wav (l:=l) (n:=n) (.mk lv ng ds cs) hi
   by_cases h1:lv < l
   · rw [Pl.zm,if_pos h1] at dB ⊢;rcases yab _ _ _ dB with e | hc
     · rw [e]; exact hz
     · rw [pD.1 hc]; exact ⟨pj _,pj _⟩
   · by_cases h3:lv=l
     · rw [Pl.zm,if_neg h1,if_pos h3] at dB ⊢;rcases yab _ _ _ dB with e | hc
       · rw [e]; exact hz
       · exact ⟨Sf (Pl.jn (p:=.mk lv ng ds cs) hc),Pl.qbA (p:=.mk lv ng ds cs) hc⟩
     · rw [Pl.Ys l n lv ng ds cs (by omega) hi,xaj];have a:=ybb (f:=fun c=>(c.zm l n).getD i Pl.zero) cs fun c hc=>(Pl.ZS c i hi).1
       have b:=kbb (f:=fun c=>(c.zm l n).getD i Pl.zero) cs fun c hc=>(Pl.ZS c i hi).2
       rw [Pl.sz,Pl.sz,Pl.dm,Pl.dm];exact ⟨by omega,by simp only [r8]; omega⟩
theorem Pl.ke : ∀ p : Pl, p.ex p.sz
 | .mk l n d cs=>by
   rw [Pl.ex]
   by_cases h:l<=0
   · exact .inl h
   · refine .inr ⟨?_,ua8 fun c hc=>?_⟩
     · have:=xad cs;rw [Pl.sz];omega
     · exact Pl.ZD (Sf (Pl.jn (p:=.mk l n d cs) hc)) c (Pl.ke c)
theorem zbp (l : Int) : ∀ (cs : List Pl) (a : Int), a < yw l a cs -> ∃ c ∈ cs, c.yq l = yw l a cs
 | [],a,h=>by rw [yw] at h; omega
 | c :: r,a,h=>by
   rw [yw] at h ⊢
   by_cases h1:max a (c.yq l) < yw l (max a (c.yq l)) r
   · obtain ⟨d,hd,e⟩:=zbp l r _ h1;exact ⟨d,by simp [hd],e⟩
   · have:=ja2 l r (max a (c.yq l));exact ⟨c,by simp,by omega⟩
theorem Pl.K4 {l : Int} (hl : 1 <= l) : ∀ (p : Pl) (n : Nat), p.Can -> p ≠ Pl.zero -> p.yq l = n -> ¬ ∀ ρ, ((p.zm l n).getD n Pl.zero).val ρ = 0
 | .mk lv ng ds cs,n,h,hp,hd=>by
   have h4:=h.qq;simp only [Pl.lv] at h4;rw [Pl.yq] at hd
   by_cases h1:lv < l
   · rw [if_pos h1] at hd;obtain rfl:n=0:=by omega
     rw [Pl.zm,if_pos h1,wab,sP];exact fun hz=>hp (Pl.jN h hz)
   · obtain ⟨-,-,h2,hk,h5⟩:=h.kids (by omega);rw [if_neg h1] at hd
     by_cases h3:lv=l
     · rw [if_pos h3] at hd;rw [Pl.zm,if_neg h1,if_pos h3,kbe n cs n (pj _)];have ax:=gag h5 (by rintro rfl; simp at h2);rw [show cs.length - 1=n by omega] at ax;refine fun hz=>ax (Pl.jN ?_ hz)
       rw [pr,po (by omega)];exact (hk.mem _ (pt _)).2
     · rw [if_neg h3] at hd;obtain ⟨c,hc,hcz,hcd⟩:∃ c ∈ cs,c ≠ Pl.zero/\c.yq l=n:=by
        by_cases hn:n=0
        · subst hn;have ax:=gag h5 (by rintro rfl; simp at h2);have hm:cs.getD (cs.length - 1) Pl.zero ∈ cs:=by
           rw [pr,po (by omega)];exact pt _
          refine ⟨_,hm,ax,?_⟩;have a:=yax l cs 0 _ hm;have b:=Pl.kB hl _ (hk.mem _ hm).2 (Pl.ke _);omega
        · obtain ⟨c,hc,e⟩:=zbp l cs 0 (by omega);refine ⟨c,hc,fun e'=>?_,by omega⟩;rw [e'] at e;have:Pl.zero.yq l=0:=by unfold Pl.zero; rw [Pl.yq,if_pos (by omega)]
          omega
       rw [Pl.Ys l n lv ng ds cs (by omega) (pj _),xaj];intro hz;refine Pl.K4 hl c n (hk.mem c hc).2 hcz hcd ?_;have iU:=ycm (l:=lv) (by omega) h4.2 (ks:=(cs.map fun c=>(c.zm l n).getD n Pl.zero).map Pl.nf) (fun d hd=>by
        rw [wN] at hd;obtain ⟨c,hc,rfl⟩:=pZ.1 hd
        exact ⟨Pl.xT _,ubj (hk.mem c hc).2 (hk.mem c hc).1 (pj _)⟩) (fun ρ=>by rw [xbe,<- Pl.mk_val ρ false [] _ (by omega:0 < lv) h4.2]; exact hz ρ)
       intro ρ;have:=iU _ (pZ.2 ⟨_,pZ.2 ⟨c,hc,rfl⟩,rfl⟩);rw [<- Pl.js,this,Pl.qu]
theorem Pl.Kl {l:Int} (hl:1<=l) (ag:l<=4) {p:Pl} (hc:p.Can) (hp:p ≠ Pl.zero):p.xi l=(p.zm l (p.yq l).toNat).map Pl.nf:=by rw [Pl.xi,if_neg (by rw [Pl.xj hc]; exact hp),if_pos ⟨hl,ag⟩]
theorem Pl.K5 {l:Int} (hl:1<=l) (ag:l<=4) {p:Pl} (hc:p.Can) (hp:p ≠ Pl.zero):(p.xi l).length=(p.yq l).toNat+1:=by rw [Pl.Kl hl ag hc hp,px,Pl.xz]
theorem Pl.kr (l:Int):Pl.zero.xi l=[]:=by rw [Pl.xi,if_pos (by decide)]
theorem Pl.xf {l:Int} (hl:1<=l) (ag:l<=4) {p:Pl} (h:p.Can):kam l p (p.xi l):=by
 by_cases hp:p=Pl.zero
 · subst hp;rw [Pl.kr];exact { can:=fun c hc=>(by cases hc),ind:=fun c hc=>(by cases hc),val:=fun ρ=>(by rw [ve,Pl.qu]),last:=(by simp) }
 · have hd:=Pl.kB hl p h p.ke;rw [Pl.Kl hl ag h hp];refine ⟨fun c hc=>?_,fun c hc=>?_,fun ρ=>?_,fun e=>?_⟩
   · obtain ⟨d,-,rfl⟩:=pZ.1 hc;exact d.xT
   · obtain ⟨d,FB,rfl⟩:=pZ.1 hc;exact (Pl.Xs hl p h d FB).nf
   · rw [xbe,Pl.K0 hl p h (Int.self_le_toNat _)]
   · have hlen:=p.xz l (p.yq l).toNat;refine Pl.K4 hl p (p.yq l).toNat h hp (by omega) fun ρ=>?_
     rw [sC,ue,px,hlen,ur] at e;rw [pr];rw [po (by omega)] at e ⊢;simp only [Option.map_some,Option.some.injEq,Pf] at e ⊢;rw [<- Pl.js,e,Pl.qu]
theorem Pl.zP {l:Int} {p:Pl} {E D:Nat} (h:Fit p E D):∀ c ∈ p.xi l,Fit c E D:=by
 intro c hc;rw [Pl.xi] at hc
 split at hc
 · cases hc
 · split at hc
   · obtain ⟨d,hd,rfl⟩:=pZ.1 hc;obtain ⟨i,hi,rfl⟩:=tj hd;have hlen:=p.xz l (p.yq l).toNat;have:=Pl.Jx (l:=l) (n:=(p.yq l).toNat) p h.can h.ex i (by omega);rw [pr,po hi] at this;exact ⟨Pl.xT _,this.1,sw this.2 h.nr⟩
   · rw [pD.1 hc]; exact h
theorem Pl.qaF {l:Int} {p:Pl} (h:p.Can):∀ c ∈ p.xi l,c.lv<=p.lv:=by
 intro c hc;rw [Pl.xi] at hc
 split at hc
 · cases hc
 · split at hc
   · obtain ⟨d,hd,rfl⟩:=pZ.1 hc;exact kbx h.qq.1 (Pl.xT _) (Pl.Z6 p h d hd).nf
   · rw [pD.1 hc]; exact ub _
open Go.RowKit
def PBx (V:World) (Q:Nat->Prop) (g:Nat) (p:Pl):Prop:=g < V.heap.size/\(∀ i,V.frozen? ⟨g,i,none⟩=false)/\∃ A0 n0 c0 A1 c1,jb V g p (.slice A0 n0 c0) (.slice A1 p.cs.length c1)/\PlV V (fun b=>Q b/\b ≠ g) p (plV p (.slice A0 n0 c0) (.slice A1 p.cs.length c1))
section
variable {V V':World} {Q:Nat->Prop} {g:Nat} {p p':Pl}
theorem PBx.ext (h:PBx V Q g p) (hx:Ext V V'):PBx V' Q g p:=by
 obtain ⟨h0,h1,A0,n0,c0,A1,c1,h2,h3⟩:=h;exact ⟨pw h0 hx.size,fun i=>(hx.frozen (p:=⟨g,i,none⟩) h0).trans (h1 i),A0,n0,c0,A1,c1,h2.ext hx h0,h3.ext hx⟩
theorem PBx.mono {Q':Nat->Prop} (h:PBx V Q g p) (hq:∀ b,Q b->Q' b):PBx V Q' g p:=by
 obtain ⟨h0,h1,A0,n0,c0,A1,c1,h2,h3⟩:=h;exact ⟨h0,h1,A0,n0,c0,A1,c1,h2,h3.mono fun b hb=>⟨hq b hb.1,hb.2⟩⟩
theorem PBx.store (h:PBx V Q g p) {Q':Nat->Prop} {A0 A1:Option Addr} {n0 c0 c1:Nat} (hp:PlV V (fun b=>Q' b/\b ≠ g) p' (plV p' (.slice A0 n0 c0) (.slice A1 p'.cs.length c1))) :
 PBx ((((V.setCell ⟨g,0,none⟩ (.int .i64 p'.lv)).setCell ⟨g,1,none⟩ (.bool p'.neg)).setCell ⟨g,2,none⟩ (.slice A0 n0 c0)).setCell ⟨g,3,none⟩ (.slice A1 p'.cs.length c1)) Q' g p':=by
 obtain ⟨h0,h1,B0,m0,d0,B1,d1,h2,h3⟩:=h;exact ⟨by simpa [World.setCell] using h0,fun i=>by simp only [rm]; exact h1 i,_,_,_,_,_,h2.set,h2.keep _ _ _ _ hp fun b _ hb=>⟨hb.2,hb⟩⟩
theorem PBx.stays (h:PBx V Q g p) {q:Nat->Prop} {P:Pl} {v:Value} (hP:PlV V q P v) (hq:∀ b,q b->b ≠ g) (x0:Int) (x1:Bool) (A0 A1:Option Addr) (n0 c0 n1 c1:Nat) :
 PlV ((((V.setCell ⟨g,0,none⟩ (.int .i64 x0)).setCell ⟨g,1,none⟩ (.bool x1)).setCell ⟨g,2,none⟩ (.slice A0 n0 c0)).setCell ⟨g,3,none⟩ (.slice A1 n1 c1)) q P v:=by
 obtain ⟨h0,h1,B0,m0,d0,B1,d1,⟨g0,g1,g2,g3⟩,h3⟩:=h;refine PlV.zd (by simp [World.setCell]) (fun v ds hv=>?_) (fun b _ hb=>⟨hb,gab _ _ _ _ _ _ _ (hq b hb)⟩) hP;refine (((hv.box g0 rfl _).box (u:=.bool p.neg) ?_ rfl _).box (u:=.slice B0 m0 d0) ?_ rfl _).box (u:=.slice B1 p.cs.length d1) ?_ rfl _
 · rw [ph _ _ _ _ (by simp)]; exact g1
 · rw [ph _ _ _ _ (by simp),ph _ _ _ _ (by simp)]; exact g2
 · rw [ph _ _ _ _ (by simp),ph _ _ _ _ (by simp),ph _ _ _ _ (by simp)]; exact g3
theorem PBx.new {A0 A1:Option Addr} {n0 c0 c1:Nat} (hp:PlV V Q p (plV p (.slice A0 n0 c0) (.slice A1 p.cs.length c1))) (T:TypeId):PBx (V.alloc (.cells #[.int .i64 p.lv,.bool p.neg,.slice A0 n0 c0,.slice A1 p.cs.length c1] T)) Q V.heap.size p:=by
 refine ⟨by simp,fun i=>by simp [go_sem],A0,n0,c0,A1,c1,jb.new V p _ _ _,?_⟩;exact PlV.zd (V.size_alloc _ ▸ r6 _) (fun _ _ h=>h.ext ((Ext.refl V).alloc _)) (fun b hb hq=>⟨⟨hq,by omega⟩,((Ext.refl V).alloc _).below.block b hb⟩) hp
end
theorem z_b {W prev:World} (y:Ext W prev):∃ V o,prev.alloc (.cells #[.int .i64 0,.bool false,.slice none 0 0,.slice none 0 0] 33)=V/\prev.heap.size=o/\PBx V (fun _=>False) o Pl.zero/\Ext W V/\W.heap.size<=o/\o < V.heap.size/\Hid (o=prev.heap.size)/\Ext prev V:=
  ⟨_,_,rfl,rfl,PBx.new (Pl.xt _ _ none 0 (by omega)) _,y.alloc _,y.size,by simp,Lib.hid rfl,(Ext.refl _).alloc _⟩
theorem z_d {W prev:World} (y:Ext W prev):∃ V o,(prev.alloc (.cells #[.int .i64 0,.bool false,.slice none 0 0,.slice none 0 0] 33)).drew=V/\prev.heap.size=o/\PBx V (fun _=>False) o Pl.zero/\Ext W V/\W.heap.size<=o/\o < V.heap.size/\Hid (o=prev.heap.size)/\Ext prev V:=
  ⟨_,_,rfl,rfl,(PBx.new (Pl.xt _ _ none 0 (by omega)) _).ext (Ext.refl _).drew,(y.alloc _).drew,y.size,by have:=(PBx.new (V:=prev) (Q:=fun _=>False) (Pl.xt _ _ none 0 (by omega)) 33).1; exact this,Lib.hid rfl,((Ext.refl _).alloc _).drew⟩
theorem b_1 (w:World) (f:Pl) (a b:Value):∃ W,(w.alloc (.cells #[.int .i64 f.lv,.bool f.neg,a,b] 33))=W/\W.heap.size=w.heap.size+1/\Ext w W/\jb W w.heap.size f a b:=⟨_,rfl,by simp,(Ext.refl w).alloc _,jb.new w f _ _ _⟩
theorem b_z (w:World):∃ W,(w.alloc (.cells #[.int .i64 0,.bool false,.slice none 0 0,.slice none 0 0] 33))=W/\W.heap.size=w.heap.size+1/\Ext w W/\jf W w.heap.size:=⟨_,rfl,by simp,(Ext.refl w).alloc _,jf.new w _⟩
theorem b_y (w:World) (f:Pl) (a b:Value):∃ V W,(w.alloc (.cells #[.int .i64 f.lv,.bool f.neg,a,b] 33))=V/\(V.alloc (.cells #[.int .i64 0,.bool false,.slice none 0 0,.slice none 0 0] 33))=W/\V.heap.size=w.heap.size+1/\Ext w V/\W.heap.size=w.heap.size+1+1/\Ext V W/\jb W w.heap.size f a b/\jf W (w.heap.size+1):=by
  obtain ⟨V,hV,h1,h2,h3⟩:=b_1 w f a b;obtain ⟨W,hW,h4,h5,h6⟩:=b_z V;exact ⟨V,W,hV,hW,h1,h2,by omega,h5,h3.ext h5 (by omega),by rw [h1] at h6; exact h6⟩
theorem b_2 (w:World) (f g:Pl) (a b c d:Value):∃ V W,(w.alloc (.cells #[.int .i64 f.lv,.bool f.neg,a,b] 33))=V/\(V.alloc (.cells #[.int .i64 g.lv,.bool g.neg,c,d] 33))=W/\V.heap.size=w.heap.size+1/\Ext w V/\W.heap.size=w.heap.size+1+1/\Ext V W/\jb W w.heap.size f a b/\jb W (w.heap.size+1) g c d:=by
  obtain ⟨V,hV,h1,h2,h3⟩:=b_1 w f a b;obtain ⟨W,hW,h4,h5,h6⟩:=b_1 V g c d;exact ⟨V,W,hV,hW,h1,h2,by omega,h5,h3.ext h5 (by omega),by rw [h1] at h6; exact h6⟩
theorem b_x (w:World) (f g:Pl) (a b c d:Value):∃ U V W,(w.alloc (.cells #[.int .i64 f.lv,.bool f.neg,a,b] 33))=U/\(U.alloc (.cells #[.int .i64 g.lv,.bool g.neg,c,d] 33))=V/\(V.alloc (.cells #[.int .i64 0,.bool false,.slice none 0 0,.slice none 0 0] 33))=W/\U.heap.size=w.heap.size+1/\Ext w U/\V.heap.size=w.heap.size+1+1/\Ext U V/\W.heap.size=w.heap.size+1+1+1/\Ext V W/\jb W w.heap.size f a b/\jb W (w.heap.size+1) g c d/\jf W (w.heap.size+1+1):=by
  obtain ⟨U,V,hU,hV,h1,h2,h3,h4,h5,h6⟩:=b_2 w f g a b c d;obtain ⟨W,hW,h7,h8,h9⟩:=b_z V;exact ⟨U,V,W,hU,hV,hW,h1,h2,h3,h4,by omega,h8,h5.ext h8 (by omega),h6.ext h8 (by omega),by rw [h3] at h9; exact h9⟩
end Go.Proofs.YtcepajijiabkmaaGreat
