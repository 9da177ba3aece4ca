/- Plain: the coefficients of a polynomial in one variable: levels, sizes, degrees. -/
import Derived.Test.YtcepajijiabkmaaGreatMo25
import Derived.Test.YtcepajijiabkmaaGreatMo20
set_option linter.all false
namespace Go.Proofs.YtcepajijiabkmaaGreat
def Low (n:Int) (p:Pl):Prop:=∀ ρ ρ':Int->Rat,(∀ j,j<=n->ρ j=ρ' j)->p.val ρ=p.val ρ'
theorem Low.indep {n l:Int} {p:Pl} (h:Low n p) (hl:n < l):zh l p:=fun ρ ρ' he=>h ρ ρ' fun j hj=>he j (by omega)
theorem Low.mono {n m:Int} {p:Pl} (h:Low n p) (hm:n<=m):Low m p:=fun ρ ρ' he=>h ρ ρ' fun j hj=>he j (by omega)
theorem Low.nf {n:Int} {p:Pl} (h:Low n p):Low n p.nf:=fun ρ ρ' he=>by rw [Pl.jt,Pl.jt]; exact h ρ ρ' he
theorem ua1 {p:Pl} (h:p.Can):Low p.lv p:=fun _ _ he=>p.jz h he
theorem va4 (n:Int):Low n Pl.zero:=fun ρ ρ' _=>by rw [Pl.qt,Pl.qt]
theorem zav {l:Int} {ng:Bool} {ds:List Nat} {cs:List Pl} (h:(Pl.mk l ng ds cs).Can) (hl:0 < l):uan l (.mk l ng ds cs) cs:=by
 obtain ⟨-,-,h2,hk,h5⟩:=h.kids hl;exact ⟨fun c hc=>(hk.mem c hc).2,fun c hc=>uas (hk.mem c hc).2 (hk.mem c hc).1,fun ρ=>(Pl.mk_val ρ _ _ _ hl h.qq.2).symm,h5⟩
theorem ua0 {l:Int} {p:Pl} (h:p.Can) (hp:p ≠ Pl.zero) (hi:zh l p):uan l p [p]:=by
 refine ⟨fun c hc=>?_,fun c hc=>?_,fun ρ=>?_,?_⟩
 · rw [pD.1 hc]; exact h
 · rw [pD.1 hc]; exact hi
 · rw [je,je]; grind
 · intro e; injection e with e; exact hp e
theorem jcj {p:Pl} (h:p=Pl.zero):p.lv=0:=by rw [h]; rfl
theorem jbh {l:Int} (hl:0 < l) {p:Pl} (h:p.Can) (hi:zh l p):p.lv ≠ l:=by
 intro e;have hp:p ≠ Pl.zero:=fun e'=>by have:=jcj e'; omega
 cases p with
 | mk lv ng ds cs =>
   have e':lv=l:=e;subst e';have h1:=(zav h hl).uniq (ua0 h hp hi);obtain ⟨-,-,h2,-⟩:=h.kids hl;rw [h1] at h2;simp at h2
theorem gaw {n:Int} (hn:0<=n) {p:Pl} (h:p.Can) (hl:Low n p):p.lv<=n:=by
 by_cases h1:p.lv<=n
 · exact h1
 · exact absurd rfl (jbh (l:=p.lv) (by omega) h (hl.indep (by omega)))
theorem Pl.Jx {l : Int} {n : Nat} : ∀ p : Pl, p.Can -> ∀ c ∈ p.zm l n, Low p.lv c
 | .mk lv ng ds cs,h,c,hc=>by
   have h4:=h.qq;simp only [Pl.lv] at h4 ⊢;rw [Pl.zm] at hc
   by_cases h0:lv<=0
   · by_cases h1:lv < l
     · rw [if_pos h1] at hc;rcases yac _ _ _ hc with rfl | hc
       · exact va4 _
       · rw [pD.1 hc]; exact ua1 h
     · rw [if_neg h1] at hc;have fD:cs=[]:=by
        rw [Pl.Can] at h;rcases h with h | h
        · exact h.2.1
        · omega
       subst fD
       split at hc
       · rcases yac _ _ _ hc with rfl | hc
         · exact va4 _
         · cases hc
       · obtain ⟨i,hi,rfl⟩:=pS.1 hc;intro ρ ρ' _;rw [jai,Pl.val,Pl.val,if_pos h0,if_pos h0]
   · obtain ⟨-,-,h2,hk,-⟩:=h.kids (by omega)
     by_cases h1:lv < l
     · rw [if_pos h1] at hc;rcases yac _ _ _ hc with rfl | hc
       · exact va4 _
       · rw [pD.1 hc]; exact ua1 h
     · rw [if_neg h1] at hc
       by_cases h3:lv=l
       · rw [if_pos h3] at hc;rcases yac _ _ _ hc with rfl | hc
         · exact va4 _
         · exact (ua1 (hk.mem c hc).2).mono (by have:=(hk.mem c hc).1; omega)
       · rw [if_neg h3] at hc;obtain ⟨i,hi,rfl⟩:=pS.1 hc;rw [xak];intro ρ ρ' he;rw [Pl.mk_val ρ _ _ _ (by omega) h4.2,Pl.mk_val ρ' _ _ _ (by omega) h4.2];refine jal (he lv (uv _)) _ fun d hd=>?_
         obtain ⟨c,hc,rfl⟩:=pS.1 hd;have hlen:=c.xz l n;have jG:=S7.1 hi;rw [po,pr (by omega)];exact Pl.Jx c (hk.mem c hc).2 _ (pt _) ρ ρ' fun j hj=>he j (by have:=(hk.mem c hc).1; omega)
theorem qax {l:Int} {n i:Nat} (p:Pl) (hi:i<=n):(p.zm l n).getD i Pl.zero ∈ p.zm l n:=by
 have:=p.xz l n;rw [po,pr (by omega)];exact pt _
theorem vdf {lv:Int} (h0:0 < lv) (h4:lv<=4) {ks:List Pl} (hk:∀ c ∈ ks,c.nf.lv < lv):(Pl.mk lv false [] ks).nf=vab lv (ks.map Pl.nf):=by
 have h:=za7 h0 h4 (cs:=ks.map Pl.nf) (waf fun x hx=>by obtain ⟨c,hc,rfl⟩:=pS.1 hx; exact ⟨hk c hc,c.xV⟩);refine Pl.qv (Pl.xV _) h.1 fun ρ=>?_
 rw [Pl.jt,h.2.2,kbg,Pl.mk_val ρ _ _ _ h0 h4]
theorem zbn {l lv:Int} {n i:Nat} {c:Pl} (hc:c.Can) (hl:c.lv < lv) (hi:i<=n):((c.zm l n).getD i Pl.zero).nf.lv < lv:=by
 have:=gaw hc.qq.1 (Pl.xV _) (Pl.Jx c hc _ (qax (l:=l) c hi)).nf;omega
theorem Pl.JT {l : Int} {n E : Nat} : ∀ p : Pl, p.Can -> p.ex E -> ∀ i, i <= n -> ((p.zm l n).getD i Pl.zero).nf.ex E /\ ((p.zm l n).getD i Pl.zero).nf.nr <= p.nr
 | .mk lv ng ds cs,h,he,i,hi=>by
   have h4:=h.qq;simp only [Pl.lv] at h4;have hz:Pl.zero.nf.ex E/\Pl.zero.nf.nr<=(Pl.mk lv ng ds cs).nr:=by
    rw [Pl.KB];exact ⟨(Fit.zero (D:=0)).ex,by have:Pl.zero.nr=0:=by { unfold Pl.zero; rw [Pl.nr,if_pos (uv _)]; rfl }; omega⟩
   have pV:(Pl.mk lv ng ds cs).nf.ex E/\(Pl.mk lv ng ds cs).nf.nr<=(Pl.mk lv ng ds cs).nr:=by rw [Pl.q7 h]; exact ⟨he,pj _⟩
   have dC:=qax (l:=l) (n:=n) (.mk lv ng ds cs) hi
   by_cases h1:lv < l
   · rw [Pl.zm,if_pos h1] at dC ⊢;rcases yac _ _ _ dC with e | hc
     · rw [e]; exact hz
     · rw [pD.1 hc]; exact pV
   · by_cases h0:lv<=0
     · have fD:cs=[]:=by
        rw [Pl.Can] at h;rcases h with h | h
        · exact h.2.1
        · omega
       subst fD;rw [Pl.zm,if_neg h1] at dC ⊢
       split at dC
       · rename_i h3;rw [if_pos h3];rcases yac _ _ _ dC with e | hc
         · rw [e]; exact hz
         · cases hc
       · rename_i h3;rw [if_neg h3,xa6 _ _ (by omega),jai];have e:(Pl.mk lv false [] []).nf=Pl.zero:=Pl.qv (Pl.xV _) Pl.qT fun ρ=>by
          rw [Pl.jt,Pl.qt,Pl.val,if_pos h0]
          rfl
         rw [e];rw [Pl.KB] at hz;exact hz
     · obtain ⟨-,-,h2,hk,-⟩:=h.kids (by omega);have hx:∀ c ∈ cs,c.ex E/\c.nr<=(Pl.mk lv ng ds cs).nr:=fun c hc=>by
        rw [Pl.ex] at he;exact ⟨qaw (he.resolve_left (by omega)).2 c hc,by rw [Pl.nr,if_neg h0]; exact vbg hc⟩
       by_cases h3:lv=l
       · rw [Pl.zm,if_neg h1,if_pos h3] at dC ⊢;rcases yac _ _ _ dC with e | hc
         · rw [e]; exact hz
         · rw [Pl.q7 (hk.mem _ hc).2]; exact hx _ hc
       · rw [Pl.JN l n lv ng ds cs (by omega) hi,xak,vdf (by omega) h4.2 fun d hd=>by
          obtain ⟨c,hc,rfl⟩:=pS.1 hd
          exact zbn (hk.mem c hc).2 (hk.mem c hc).1 hi]
         rw [Pl.ex] at he;have hlen:=(he.resolve_left (by omega)).1;have ih:∀ c ∈ cs,((c.zm l n).getD i Pl.zero).nf.ex E/\((c.zm l n).getD i Pl.zero).nf.nr<=c.nr:=fun c hc=>Pl.JT c (hk.mem c hc).2 (hx c hc).1 i hi
         constructor
         · refine jcx (fun x iY=>?_) (by simpa using hlen);rw [Pa] at iY;obtain ⟨c,hc,rfl⟩:=pS.1 iY;exact (ih c hc).1
         · refine py (qcx (by omega)) ?_;rw [Pa,Pl.nr,if_neg h0];have:=kbd (f:=Pl.nf ∘ fun c=>(c.zm l n).getD i Pl.zero) (K:=1) cs fun c hc=>by rw [ur]; exact (ih c hc).2
           rwa [ur] at this
theorem Pl.qaU (p:Pl):1<=p.sz:=by cases p; rw [Pl.sz]; omega
theorem jbd {f : Pl -> Pl} : ∀ cs : List Pl, (∀ c ∈ cs, (f c).sz <= c.sz) -> vk (cs.map f) <= vk cs
 | [],_=>pj _
 | c :: r,h=>by
   have h1:=jbd r fun x hx=>h x (by simp [hx])
   have h2:=h c (by simp);rw [ss,vk,vk];omega
theorem gbd {f : Pl -> Pl} : ∀ cs : List Pl, (∀ c ∈ cs, (f c).dm <= c.dm) -> jy (cs.map f) <= jy cs
 | [],_=>pj _
 | c :: r,h=>by
   have h1:=gbd r fun x hx=>h x (by simp [hx])
   have h2:=h c (by simp);rw [ss,jy,jy];omega
theorem Pl.Ys {l : Int} {n : Nat} : ∀ p : Pl, ∀ i, i <= n -> ((p.zm l n).getD i Pl.zero).sz <= p.sz /\ ((p.zm l n).getD i Pl.zero).dm <= p.dm
 | .mk lv ng ds cs,i,hi=>by
   have hp:=(Pl.mk lv ng ds cs).qaU;have hz:Pl.zero.sz<=(Pl.mk lv ng ds cs).sz/\Pl.zero.dm<=(Pl.mk lv ng ds cs).dm:=by
    have e1:Pl.zero.sz=1:=by decide
    have e2:Pl.zero.dm=0:=by decide
    omega
   have dC:=qax (l:=l) (n:=n) (.mk lv ng ds cs) hi
   by_cases h1:lv < l
   · rw [Pl.zm,if_pos h1] at dC ⊢;rcases yac _ _ _ dC with e | hc
     · rw [e]; exact hz
     · rw [pD.1 hc]; exact ⟨pj _,pj _⟩
   · by_cases h3:lv=l
     · rw [Pl.zm,if_neg h1,if_pos h3] at dC ⊢;rcases yac _ _ _ dC with e | hc
       · rw [e]; exact hz
       · exact ⟨Sq (Pl.jn (p:=.mk lv ng ds cs) hc),Pl.qbB (p:=.mk lv ng ds cs) hc⟩
     · rw [Pl.JN l n lv ng ds cs (by omega) hi,xak];have a:=jbd (f:=fun c=>(c.zm l n).getD i Pl.zero) cs fun c hc=>(Pl.Ys c i hi).1
       have b:=gbd (f:=fun c=>(c.zm l n).getD i Pl.zero) cs fun c hc=>(Pl.Ys c i hi).2
       rw [Pl.sz,Pl.sz,Pl.dm,Pl.dm];exact ⟨by omega,by simp only [rK]; omega⟩
theorem Pl.ki : ∀ p : Pl, p.ex p.sz
 | .mk l n d cs=>by
   rw [Pl.ex]
   by_cases h:l<=0
   · exact .inl h
   · refine .inr ⟨?_,wba fun c hc=>?_⟩
     · have:=gad cs;rw [Pl.sz];omega
     · exact Pl.Z6 (Sq (Pl.jn (p:=.mk l n d cs) hc)) c (Pl.ki c)
theorem zbs (l : Int) : ∀ (cs : List Pl) (a : Int), a < vw l a cs -> ∃ c ∈ cs, c.yq l = vw l a cs
 | [],a,h=>by rw [vw] at h; omega
 | c :: r,a,h=>by
   rw [vw] at h ⊢
   by_cases h1:max a (c.yq l) < vw l (max a (c.yq l)) r
   · obtain ⟨d,hd,e⟩:=zbs l r _ h1;exact ⟨d,by simp [hd],e⟩
   · have:=qa4 l r (max a (c.yq l));exact ⟨c,by simp,by omega⟩
theorem Pl.K4 {l : Int} (hl : 1 <= l) : ∀ (p : Pl) (n : Nat), p.Can -> p ≠ Pl.zero -> p.yq l = n -> ¬ ∀ ρ, ((p.zm l n).getD n Pl.zero).val ρ = 0
 | .mk lv ng ds cs,n,h,hp,hd=>by
   have h4:=h.qq;simp only [Pl.lv] at h4;rw [Pl.yq] at hd
   by_cases h1:lv < l
   · rw [if_pos h1] at hd;obtain rfl:n=0:=by omega
     rw [Pl.zm,if_pos h1,wac,sR];exact fun hz=>hp (Pl.j9 h hz)
   · obtain ⟨-,-,h2,hk,h5⟩:=h.kids (by omega);rw [if_neg h1] at hd
     by_cases h3:lv=l
     · rw [if_pos h3] at hd;rw [Pl.zm,if_neg h1,if_pos h3,gbg n cs n (pj _)];have au:=yai h5 (by rintro rfl; simp at h2);rw [show cs.length - 1=n by omega] at au;refine fun hz=>au (Pl.j9 ?_ hz)
       rw [po,pr (by omega)];exact (hk.mem _ (pt _)).2
     · rw [if_neg h3] at hd;obtain ⟨c,hc,hcz,hcd⟩:∃ c ∈ cs,c ≠ Pl.zero/\c.yq l=n:=by
        by_cases hn:n=0
        · subst hn;have au:=yai h5 (by rintro rfl; simp at h2);have hm:cs.getD (cs.length - 1) Pl.zero ∈ cs:=by
           rw [po,pr (by omega)];exact pt _
          refine ⟨_,hm,au,?_⟩;have a:=vay l cs 0 _ hm;have b:=Pl.kI hl _ (hk.mem _ hm).2 (Pl.ki _);omega
        · obtain ⟨c,hc,e⟩:=zbs l cs 0 (by omega);refine ⟨c,hc,fun e'=>?_,by omega⟩;rw [e'] at e;have:Pl.zero.yq l=0:=by unfold Pl.zero; rw [Pl.yq,if_pos (by omega)]
          omega
       rw [Pl.JN l n lv ng ds cs (by omega) (pj _),xak];intro hz;refine Pl.K4 hl c n (hk.mem c hc).2 hcz hcd ?_;have iU:=ycr (l:=lv) (by omega) h4.2 (ks:=(cs.map fun c=>(c.zm l n).getD n Pl.zero).map Pl.nf) (fun d hd=>by
        rw [Pa] at hd;obtain ⟨c,hc,rfl⟩:=pS.1 hd
        exact ⟨Pl.xV _,zbn (hk.mem c hc).2 (hk.mem c hc).1 (pj _)⟩) (fun ρ=>by rw [kbg,<- Pl.mk_val ρ false [] _ (by omega:0 < lv) h4.2]; exact hz ρ)
       intro ρ;have:=iU _ (pS.2 ⟨_,pS.2 ⟨c,hc,rfl⟩,rfl⟩);rw [<- Pl.jt,this,Pl.qt]
theorem Pl.Km {l:Int} (hl:1<=l) (ag:l<=4) {p:Pl} (hc:p.Can) (hp:p ≠ Pl.zero):p.xf l=(p.zm l (p.yq l).toNat).map Pl.nf:=by rw [Pl.xf,if_neg (by rw [Pl.xj hc]; exact hp),if_pos ⟨hl,ag⟩]
theorem Pl.K5 {l:Int} (hl:1<=l) (ag:l<=4) {p:Pl} (hc:p.Can) (hp:p ≠ Pl.zero):(p.xf l).length=(p.yq l).toNat+1:=by rw [Pl.Km hl ag hc hp,pw,Pl.xz]
theorem Pl.kt (l:Int):Pl.zero.xf l=[]:=by rw [Pl.xf,if_pos (by decide)]
theorem Pl.q8 {l:Int} (hl:1<=l) (ag:l<=4) {p:Pl} (h:p.Can):uan l p (p.xf l):=by
 by_cases hp:p=Pl.zero
 · subst hp;rw [Pl.kt];exact { can:=fun c hc=>(by cases hc),ind:=fun c hc=>(by cases hc),val:=fun ρ=>(by rw [je,Pl.qt]),last:=(by simp) }
 · have hd:=Pl.kI hl p h p.ki;rw [Pl.Km hl ag h hp];refine ⟨fun c hc=>?_,fun c hc=>?_,fun ρ=>?_,fun e=>?_⟩
   · obtain ⟨d,-,rfl⟩:=pS.1 hc;exact d.xV
   · obtain ⟨d,FK,rfl⟩:=pS.1 hc;exact (Pl.Xs hl p h d FK).nf
   · rw [kbg,Pl.K0 hl p h (Int.self_le_toNat _)]
   · have hlen:=p.xz l (p.yq l).toNat;refine Pl.K4 hl p (p.yq l).toNat h hp (by omega) fun ρ=>?_
     rw [sI,tS,pw,hlen,uR] at e;rw [po];rw [pr (by omega)] at e ⊢;simp only [paO,T7,Pr] at e ⊢;rw [<- Pl.jt,e,Pl.qt]
theorem Pl.zP {l:Int} {p:Pl} {E D:Nat} (h:Fit p E D):∀ c ∈ p.xf l,Fit c E D:=by
 intro c hc;rw [Pl.xf] at hc
 split at hc
 · cases hc
 · split at hc
   · obtain ⟨d,hd,rfl⟩:=pS.1 hc;obtain ⟨i,hi,rfl⟩:=tj hd;have hlen:=p.xz l (p.yq l).toNat;have:=Pl.JT (l:=l) (n:=(p.yq l).toNat) p h.can h.ex i (by omega);rw [po,pr hi] at this;exact ⟨Pl.xV _,this.1,sB this.2 h.nr⟩
   · rw [pD.1 hc]; exact h
theorem Pl.qaG {l:Int} {p:Pl} (h:p.Can):∀ c ∈ p.xf l,c.lv<=p.lv:=by
 intro c hc;rw [Pl.xf] at hc
 split at hc
 · cases hc
 · split at hc
   · obtain ⟨d,hd,rfl⟩:=pS.1 hc;exact gaw h.qq.1 (Pl.xV _) (Pl.Jx p h d hd).nf
   · rw [pD.1 hc]; exact uv _
open Go.RowKit
def PBx (V:World) (Q:Nat->Prop) (g:Nat) (p:Pl):Prop:=g < V.heap.size/\(∀ i,V.frozen? ⟨g,i,none⟩=false)/\∃ A0 n0 c0 A1 c1,jb V g p (.slice A0 n0 c0) (.slice A1 p.cs.length c1)/\PlV V (fun b=>Q b/\b ≠ g) p (plV p (.slice A0 n0 c0) (.slice A1 p.cs.length c1))
section
variable {V V':World} {Q:Nat->Prop} {g:Nat} {p p':Pl}
theorem PBx.ext (h:PBx V Q g p) (hx:Ext V V'):PBx V' Q g p:=by
 obtain ⟨h0,h1,A0,n0,c0,A1,c1,h2,h3⟩:=h;exact ⟨px h0 hx.size,fun i=>(hx.frozen (p:=⟨g,i,none⟩) h0).trans (h1 i),A0,n0,c0,A1,c1,h2.ext hx h0,h3.ext hx⟩
theorem PBx.mono {Q':Nat->Prop} (h:PBx V Q g p) (hq:∀ b,Q b->Q' b):PBx V Q' g p:=by
 obtain ⟨h0,h1,A0,n0,c0,A1,c1,h2,h3⟩:=h;exact ⟨h0,h1,A0,n0,c0,A1,c1,h2,h3.mono fun b hb=>⟨hq b hb.1,hb.2⟩⟩
theorem PBx.store (h:PBx V Q g p) {Q':Nat->Prop} {A0 A1:Option Addr} {n0 c0 c1:Nat} (hp:PlV V (fun b=>Q' b/\b ≠ g) p' (plV p' (.slice A0 n0 c0) (.slice A1 p'.cs.length c1))) :
 PBx ((((V.setCell ⟨g,0,none⟩ (.int .i64 p'.lv)).setCell ⟨g,1,none⟩ (.bool p'.neg)).setCell ⟨g,2,none⟩ (.slice A0 n0 c0)).setCell ⟨g,3,none⟩ (.slice A1 p'.cs.length c1)) Q' g p':=by
 obtain ⟨h0,h1,B0,m0,d0,B1,d1,h2,h3⟩:=h;exact ⟨by simpa [World.setCell] using h0,fun i=>by simp only [rm]; exact h1 i,_,_,_,_,_,h2.set,h2.keep _ _ _ _ hp fun b _ hb=>⟨hb.2,hb⟩⟩
theorem PBx.stays (h:PBx V Q g p) {q:Nat->Prop} {P:Pl} {v:Value} (hP:PlV V q P v) (hq:∀ b,q b->b ≠ g) (x0:Int) (x1:Bool) (A0 A1:Option Addr) (n0 c0 n1 c1:Nat) :
 PlV ((((V.setCell ⟨g,0,none⟩ (.int .i64 x0)).setCell ⟨g,1,none⟩ (.bool x1)).setCell ⟨g,2,none⟩ (.slice A0 n0 c0)).setCell ⟨g,3,none⟩ (.slice A1 n1 c1)) q P v:=by
 obtain ⟨h0,h1,B0,m0,d0,B1,d1,⟨g0,g1,g2,g3⟩,h3⟩:=h;refine PlV.zd (by simp [World.setCell]) (fun v ds hv=>?_) (fun b _ hb=>⟨hb,gac _ _ _ _ _ _ _ (hq b hb)⟩) hP;refine (((hv.box g0 rfl _).box (u:=.bool p.neg) ?_ rfl _).box (u:=.slice B0 m0 d0) ?_ rfl _).box (u:=.slice B1 p.cs.length d1) ?_ rfl _
 · rw [ph _ _ _ _ (by simp)]; exact g1
 · rw [ph _ _ _ _ (by simp),ph _ _ _ _ (by simp)]; exact g2
 · rw [ph _ _ _ _ (by simp),ph _ _ _ _ (by simp),ph _ _ _ _ (by simp)]; exact g3
theorem PBx.new {A0 A1:Option Addr} {n0 c0 c1:Nat} (hp:PlV V Q p (plV p (.slice A0 n0 c0) (.slice A1 p.cs.length c1))) (T:TypeId):PBx (V.alloc (.cells #[.int .i64 p.lv,.bool p.neg,.slice A0 n0 c0,.slice A1 p.cs.length c1] T)) Q V.heap.size p:=by
 refine ⟨by simp,fun i=>by simp [go_sem],A0,n0,c0,A1,c1,jb.new V p _ _ _,?_⟩;exact PlV.zd (V.size_alloc _ ▸ se _) (fun _ _ h=>h.ext ((Ext.refl V).alloc _)) (fun b hb hq=>⟨⟨hq,by omega⟩,((Ext.refl V).alloc _).below.block b hb⟩) hp
end
theorem z_b {W prev:World} (y:Ext W prev):∃ V o,prev.alloc (.cells #[.int .i64 0,.bool false,.slice none 0 0,.slice none 0 0] 33)=V/\prev.heap.size=o/\PBx V (fun _=>False) o Pl.zero/\Ext W V/\W.heap.size<=o/\o < V.heap.size/\Hid (o=prev.heap.size)/\Ext prev V:=
  ⟨_,_,rfl,rfl,PBx.new (Pl.xt _ _ none 0 (by omega)) _,y.alloc _,y.size,by simp,Lib.hid rfl,(Ext.refl _).alloc _⟩
theorem z_d {W prev:World} (y:Ext W prev):∃ V o,(prev.alloc (.cells #[.int .i64 0,.bool false,.slice none 0 0,.slice none 0 0] 33)).drew=V/\prev.heap.size=o/\PBx V (fun _=>False) o Pl.zero/\Ext W V/\W.heap.size<=o/\o < V.heap.size/\Hid (o=prev.heap.size)/\Ext prev V:=
  ⟨_,_,rfl,rfl,(PBx.new (Pl.xt _ _ none 0 (by omega)) _).ext (Ext.refl _).drew,(y.alloc _).drew,y.size,by have:=(PBx.new (V:=prev) (Q:=fun _=>False) (Pl.xt _ _ none 0 (by omega)) 33).1; exact this,Lib.hid rfl,((Ext.refl _).alloc _).drew⟩
theorem b_1 (w:World) (f:Pl) (a b:Value):∃ W,(w.alloc (.cells #[.int .i64 f.lv,.bool f.neg,a,b] 33))=W/\W.heap.size=w.heap.size+1/\Ext w W/\jb W w.heap.size f a b:=⟨_,rfl,by simp,(Ext.refl w).alloc _,jb.new w f _ _ _⟩
theorem b_z (w:World):∃ W,(w.alloc (.cells #[.int .i64 0,.bool false,.slice none 0 0,.slice none 0 0] 33))=W/\W.heap.size=w.heap.size+1/\Ext w W/\jf W w.heap.size:=⟨_,rfl,by simp,(Ext.refl w).alloc _,jf.new w _⟩
theorem b_y (w:World) (f:Pl) (a b:Value):∃ V W,(w.alloc (.cells #[.int .i64 f.lv,.bool f.neg,a,b] 33))=V/\(V.alloc (.cells #[.int .i64 0,.bool false,.slice none 0 0,.slice none 0 0] 33))=W/\V.heap.size=w.heap.size+1/\Ext w V/\W.heap.size=w.heap.size+1+1/\Ext V W/\jb W w.heap.size f a b/\jf W (w.heap.size+1):=by
  obtain ⟨V,hV,h1,h2,h3⟩:=b_1 w f a b;obtain ⟨W,hW,h4,h5,h6⟩:=b_z V;exact ⟨V,W,hV,hW,h1,h2,by omega,h5,h3.ext h5 (by omega),by rw [h1] at h6; exact h6⟩
theorem b_2 (w:World) (f g:Pl) (a b c d:Value):∃ V W,(w.alloc (.cells #[.int .i64 f.lv,.bool f.neg,a,b] 33))=V/\(V.alloc (.cells #[.int .i64 g.lv,.bool g.neg,c,d] 33))=W/\V.heap.size=w.heap.size+1/\Ext w V/\W.heap.size=w.heap.size+1+1/\Ext V W/\jb W w.heap.size f a b/\jb W (w.heap.size+1) g c d:=by
  obtain ⟨V,hV,h1,h2,h3⟩:=b_1 w f a b;obtain ⟨W,hW,h4,h5,h6⟩:=b_1 V g c d;exact ⟨V,W,hV,hW,h1,h2,by omega,h5,h3.ext h5 (by omega),by rw [h1] at h6; exact h6⟩
theorem b_x (w:World) (f g:Pl) (a b c d:Value):∃ U V W,(w.alloc (.cells #[.int .i64 f.lv,.bool f.neg,a,b] 33))=U/\(U.alloc (.cells #[.int .i64 g.lv,.bool g.neg,c,d] 33))=V/\(V.alloc (.cells #[.int .i64 0,.bool false,.slice none 0 0,.slice none 0 0] 33))=W/\U.heap.size=w.heap.size+1/\Ext w U/\V.heap.size=w.heap.size+1+1/\Ext U V/\W.heap.size=w.heap.size+1+1+1/\Ext V W/\jb W w.heap.size f a b/\jb W (w.heap.size+1) g c d/\jf W (w.heap.size+1+1):=by
  obtain ⟨U,V,hU,hV,h1,h2,h3,h4,h5,h6⟩:=b_2 w f g a b c d;obtain ⟨W,hW,h7,h8,h9⟩:=b_z V;exact ⟨U,V,W,hU,hV,hW,h1,h2,h3,h4,by omega,h8,h5.ext h8 (by omega),h6.ext h8 (by omega),by rw [h3] at h9; exact h9⟩
end Go.Proofs.YtcepajijiabkmaaGreat
