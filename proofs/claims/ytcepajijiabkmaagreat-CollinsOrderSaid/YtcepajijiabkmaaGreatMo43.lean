/- Layer 41: collins.Required where it refuses; the levels of the required polynomials. -/
import Derived.Test.YtcepajijiabkmaaGreatMo42
import Derived.Test.YtcepajijiabkmaaGreatMo41
import Derived.Shelf.SlSortCmp.Whole1
set_option linter.all false
namespace Go.Proofs.YtcepajijiabkmaaGreat
open Lib (hid)
open Go.RowKit
theorem yc0 {l:Int} {fs:List Pl}:(dF l fs).length<=(elems l fs).length:=by
 have:=qbg (elems l fs) [];rw [rK,ri] at this;exact this
theorem jdc {p:Pl} (hp:p.Can) (h:p ≠ Pl.zero) {z:Int} (hz:z ≠ 0):p.mul (Pl.const z) ≠ Pl.zero:=fun e=>by
 rcases Pl.mul_zero hp (qp z) (fun ρ=>by rw [<- Pl.qD,e,Pl.qt]) with h1 | h1
 · exact h h1
 · have h2:=Pl.qS (fun _=>0) z;rw [h1,Pl.qt] at h2;exact hz (by exact_mod_cast h2.symm)
section
variable {h f g:Pl} (hh:h.Can/\h.lv < 4) (hf:f.Can/\f.lv < 4) (hg:g.Can/\g.lv < 4) (h0:h ≠ Pl.zero)
include hh hf hg h0
end
section
variable {f g:Pl} (hf:f.Can/\f.lv < 4) (hg:g.Can/\g.lv < 4)
include hf hg
end
section
variable {h f g:Pl} (hh:h.Can/\h.lv < 4) (hf:f.Can/\f.lv < 4) (hg:g.Can/\g.lv < 4) (h0:h ≠ Pl.zero)
include hh hf hg h0
end
def Prp (p q:Pl):Prop:=∃ a b:Int,a ≠ 0/\b ≠ 0/\∀ ρ,p.val ρ * (a:Rat)=q.val ρ * (b:Rat)
theorem Prp.refl (p:Pl):Prp p p:=⟨1,1,by omega,by omega,fun _=>rfl⟩
theorem Prp.trans {p q r:Pl} (h:Prp p q) (k:Prp q r):Prp p r:=by
 obtain ⟨a,b,ha,hb,h⟩:=h;obtain ⟨c,d,hc,hd,k⟩:=k;refine ⟨a * c,d * b,Pp ha hc,Pp hd hb,fun ρ=>?_⟩;have h1:=h ρ;have h2:=k ρ
 push_cast
 grind
theorem Prp.of {p q:Pl} (c:Int) (hc:c ≠ 0) (h:∀ ρ,q.val ρ=p.val ρ * (c:Rat)):Prp p q:=⟨c,1,hc,by omega,fun ρ=>by rw [h ρ]; grind⟩
def scl (c:Int) (p:Pl):Pl:=p.mul (Pl.const c)
theorem xu (c:Int) (p:Pl):(scl c p).Can:=Pl.q9 _ _
theorem kw (c:Int) (p:Pl) (ρ:Int->Rat):(scl c p).val ρ=p.val ρ * (c:Rat):=by unfold scl; rw [Pl.qD,Pl.qS]
theorem qby (c:Int):scl c Pl.zero=Pl.zero:=Pl.qv (xu _ _) Pl.qT fun ρ=>by rw [kw,Pl.qt]; grind
theorem qaq {c:Int} (hc:c ≠ 0) (p:Pl):Prp p (scl c p):=Prp.of c hc fun ρ=>kw c p ρ
theorem va7 {c:Int} (hc:c ≠ 0) {p:Pl} (h:p.Can):(scl c p).lv=p.lv:=by
 have h1:(scl c p).lv<=p.lv:=gaw h.qq.1 (xu c p) fun ρ ρ' he=>by
  rw [kw,kw,p.jz h he]
 have h2:p.lv<=(scl c p).lv:=gaw (xu c p).qq.1 h fun ρ ρ' he=>by
  have h3:=(scl c p).jz (xu c p) he;rw [kw,kw] at h3;have:(c:Rat) ≠ 0:=by exact_mod_cast hc
  grind
 omega
theorem va8 {ρ : Int -> Rat} {l c : Int} : ∀ L : List Pl, je ρ l (L.map (scl c)) = je ρ l L * (c : Rat)
 | []=>by simp [je]
 | x :: r=>by simp only [ss,je,va8 r,kw]; grind
theorem qb5 {ρ : Int -> Rat} {l c : Int} : ∀ (k : Int) (L : List Pl), je ρ l (jae k (L.map (scl c))) = je ρ l (jae k L) * (c : Rat)
 | _,[]=>by simp [je,jae]
 | k,x :: r=>by simp only [ss,je,jae,qb5 (k+1) r,Pl.qD,kw,Pl.qS]; grind
theorem kbh {c:Int} (L:List Pl) (i:Nat):(L.map (scl c)).getD i Pl.zero=scl c (L.getD i Pl.zero):=by
 rw [po,po,tS];cases L[i]? with
 | none=>exact (qby c).symm
 | some x=>rfl
section
variable {l:Int} (hl:1<=l) (ag:l<=4) {c:Int} (hc:c ≠ 0)
include hl ag
theorem gcs (L:List Pl):joinL l (L.map (scl c))=scl c (joinL l L):=Pl.qv (zad _ _) (xu _ _) fun ρ=>by
 rw [uz hl ag,kw,uz hl ag,va8]
include hc
theorem jaq {p:Pl} (h:p.Can):(scl c p).xf l=(p.xf l).map (scl c):=by
 refine (Pl.q8 hl ag (xu c p)).uniq ⟨fun x hx=>?_,fun x hx=>?_,fun ρ=>?_,fun e=>?_⟩
 · obtain ⟨d,-,rfl⟩:=pS.1 hx; exact xu c d
 · obtain ⟨d,hd,rfl⟩:=pS.1 hx; exact (qx hl ag h d hd).mul (zh.const l _)
 · rw [va8,(Pl.q8 hl ag h).val,kw]
 · rw [T8] at e;cases hL:(p.xf l).getLast? with
   | none=>rw [hL] at e; cases e
   | some x =>
     rw [hL] at e;injection e with e
     have hx:x ≠ Pl.zero:=fun e2=>(Pl.q8 hl ag h).last (by rw [hL,e2])
     exact jdc (wae h x (pac hL)) hx hc e
theorem qav {p:Pl} (h:p.Can):mdg l (scl c p)=mdg l p:=by
 unfold mdg; rw [jaq hl ag hc h,pw]
theorem zbg {p:Pl} (h:p.Can):yl l (scl c p)=scl c (yl l p):=by
 unfold yl; rw [jaq hl ag hc h,pw,kbh]
theorem wcc {p:Pl} (h:p.Can):wag l (scl c p)=scl c (wag l p):=by
 unfold wag; rw [jaq hl ag hc h,<- List.map_dropLast,gcs hl ag]
theorem jdb {p:Pl} (h:p.Can):yab l (scl c p)=scl c (yab l p):=Pl.qv (gbh _ _) (xu _ _) fun ρ=>by
 unfold yab;rw [if_pos ⟨hl,ag⟩,if_pos ⟨hl,ag⟩,kw,uz hl ag,uz hl ag,jaq hl ag hc h,<- List.map_tail,qb5]
theorem vcz {p:Pl} (h:p.Can) {i:Int}:qi l i (scl c p)=scl c (qi l i p):=by
 unfold qi
 split
 · exact (qby c).symm
 · rw [jaq hl ag hc h,kbh]
theorem ubj : ∀ (n : Nat) {p : Pl}, p.Can -> jab l n (scl c p) = (jab l n p).map (scl c)
 | 0,_,_=>rfl
 | n+1,p,h=>by
   rw [jab,jab,qav hl ag hc h,zbg hl ag hc h,va7 hc (show (yl l p).Can from zae (wae h) _),wcc hl ag hc h,ubj n (gby _ _)]
   split
   · split <;> rfl
   · rfl
theorem gbj : ∀ (n : Nat) {p : Pl}, p.Can -> zah l n (scl c p) = zah l n p
 | 0,_,_=>rfl
 | n+1,p,h=>by
   rw [zah,zah,qav hl ag hc h,zbg hl ag hc h,va7 hc (show (yl l p).Can from zae (wae h) _),wcc hl ag hc h,gbj n (gby _ _)]
theorem ka7 {p:Pl} (h:p.Can):vg l (scl c p)=(vg l p).map (scl c):=by
 unfold vg; rw [qav hl ag hc h,ubj hl ag hc _ h]
theorem vch {p:Pl} (h:p.Can):gag l (scl c p)=gag l p:=by
 unfold gag; rw [qav hl ag hc h,gbj hl ag hc _ h]
end
def Sim (A B:List Pl):Prop:=(∀ x ∈ A,∃ y ∈ B,Prp x y)/\∀ y ∈ B,∃ x ∈ A,Prp x y
theorem Sim.refl (A:List Pl):Sim A A:=⟨fun x hx=>⟨x,hx,Prp.refl x⟩,fun x hx=>⟨x,hx,Prp.refl x⟩⟩
theorem Sim.trans {A B C:List Pl} (h:Sim A B) (k:Sim B C):Sim A C:=⟨fun x hx=>by obtain ⟨y,hy,e⟩:=h.1 x hx; obtain ⟨z,hz,e2⟩:=k.1 y hy; exact ⟨z,hz,e.trans e2⟩,fun x hx=>by obtain ⟨y,hy,e⟩:=k.2 x hx; obtain ⟨z,hz,e2⟩:=h.2 y hy; exact ⟨z,hz,e2.trans e⟩⟩
theorem Sim.append {A B C D:List Pl} (h:Sim A B) (k:Sim C D):Sim (A ++ C) (B ++ D):=⟨fun x hx=>by
 rcases pT.1 hx with hx | hx
 · obtain ⟨y,hy,e⟩:=h.1 x hx; exact ⟨y,Ra _ hy,e⟩
 · obtain ⟨y,hy,e⟩:=k.1 x hx; exact ⟨y,ux _ hy,e⟩,fun x hx=>by
 rcases pT.1 hx with hx | hx
 · obtain ⟨y,hy,e⟩:=h.2 x hx; exact ⟨y,Ra _ hy,e⟩
 · obtain ⟨y,hy,e⟩:=k.2 x hx; exact ⟨y,ux _ hy,e⟩⟩
theorem Sim.same {A B:List Pl} (h:∀ x,x ∈ A ↔ x ∈ B):Sim A B:=⟨fun x hx=>⟨x,(h x).1 hx,Prp.refl x⟩,fun x hx=>⟨x,(h x).2 hx,Prp.refl x⟩⟩
theorem Sim.one {p q:Pl} (h:Prp p q):Sim [p] [q]:=⟨fun x hx=>⟨q,by simp,pD.1 hx ▸ h⟩,fun x hx=>⟨p,by simp,pD.1 hx ▸ h⟩⟩
theorem Sim.flat {α:Type} {A:List α} {f g:α->List Pl} (h:∀ a ∈ A,Sim (f a) (g a)):Sim (A.flatMap f) (A.flatMap g):=⟨fun x hx=>by
 obtain ⟨a,ha,hx⟩:=rL.1 hx;obtain ⟨y,hy,e⟩:=(h a ha).1 x hx;exact ⟨y,rL.2 ⟨a,ha,hy⟩,e⟩,fun x hx=>by
 obtain ⟨a,ha,hx⟩:=rL.1 hx;obtain ⟨y,hy,e⟩:=(h a ha).2 x hx
 exact ⟨y,rL.2 ⟨a,ha,hy⟩,e⟩⟩
section
variable {l:Int} (hl:1<=l) (ag:l<=4)
theorem vbl {p:Pl} (h:0 < mdg l p) (h2:mdg l p<=2):(∃ a b,p.xf l=[a,b])\/∃ a b d,p.xf l=[a,b,d]:=by
 unfold mdg at h h2;rcases hL:p.xf l with _ | ⟨a,_ | ⟨b,_ | ⟨d,_ | ⟨e,r⟩⟩⟩⟩
 · rw [hL] at h; simp at h
 · rw [hL] at h; simp at h
 · exact Or.inl ⟨a,b,rfl⟩
 · exact Or.inr ⟨a,b,d,rfl⟩
 · rw [hL] at h2; simp at h2; omega
include hl ag
theorem kcd {r s:Pl} (hr:r.Can) (hs:s.Can) (r2:mdg l r<=2) (s2:mdg l s<=2) {a b:Int} (ha:a ≠ 0) (hb:b ≠ 0):Sim (gp l r s) (gp l (scl a r) (scl b s)):=by
 unfold gp;rw [qav hl ag ha hr,qav hl ag hb hs]
 by_cases h0:mdg l r<=0\/mdg l s<=0
 · rw [if_pos h0,if_pos h0]; exact Sim.refl _
 rw [if_neg h0,if_neg h0];have er:=jaq hl ag ha hr;have es:=jaq hl ag hb hs;have kF:a * b ≠ 0:=Pp ha hb;rcases vbl (p:=r) (by omega) r2 with ⟨f0,f1,ef⟩ | ⟨f0,f1,f2,ef⟩ <;> rcases vbl (p:=s) (by omega) s2 with ⟨g0,g1,eg⟩ | ⟨g0,g1,g2,eg⟩
 all_goals
  rw [ef] at er;rw [eg] at es;have mr:mdg l r=((r.xf l).length:Int) - 1:=rfl;have ms:mdg l s=((s.xf l).length:Int) - 1:=rfl;rw [ef] at mr;rw [eg] at ms;simp only [ss,Ss,pH,rK] at er es mr ms;simp only [mr,ms]
 · refine Sim.one (Prp.of (a * b) kF fun ρ=>?_);rw [kbj hl ag hr hs ef eg,kbj hl ag (xu _ _) (xu _ _) er es];simp only [kw]; push_cast; grind
 · refine Sim.one (Prp.of (b * a * a) (Pp (Pp hb ha) ha) fun ρ=>?_);rw [ya7 hl ag hs hr eg ef,ya7 hl ag (xu _ _) (xu _ _) es er];simp only [kw]; push_cast; grind
 · refine Sim.one (Prp.of (a * b * b) (Pp kF hb) fun ρ=>?_);rw [ya7 hl ag hr hs ef eg,ya7 hl ag (xu _ _) (xu _ _) er es];simp only [kw]; push_cast; grind
 · refine Sim.append (A:=[_]) (B:=[_]) (Sim.one (Prp.of (a * b * (a * b)) (Pp kF kF) fun ρ=>?_)) (Sim.one (Prp.of (a * b) kF fun ρ=>?_))
   · rw [kas hl ag hr hs ef eg,kas hl ag (xu _ _) (xu _ _) er es];simp only [kw]; push_cast; grind
   · rw [(xa1 hl ag hr hs ef eg ρ).2,(xa1 hl ag (xu _ _) (xu _ _) er es ρ).2];simp only [kw]; push_cast; grind
theorem wc1 {r s:Pl} (hr:r.Can) (hs:s.Can) (r2:mdg l r<=2) (s2:mdg l s<=2):Sim (gp l r s) (gp l s r):=by
 unfold gp
 by_cases h0:mdg l r<=0\/mdg l s<=0
 · rw [if_pos h0,if_pos (Or.comm.1 h0)]; exact Sim.refl _
 rw [if_neg h0,if_neg (fun h=>h0 (Or.comm.1 h))];rcases vbl (p:=r) (by omega) r2 with ⟨f0,f1,ef⟩ | ⟨f0,f1,f2,ef⟩ <;> rcases vbl (p:=s) (by omega) s2 with ⟨g0,g1,eg⟩ | ⟨g0,g1,g2,eg⟩
 all_goals
  have mr:mdg l r=((r.xf l).length:Int) - 1:=rfl;have ms:mdg l s=((s.xf l).length:Int) - 1:=rfl;rw [ef] at mr;rw [eg] at ms;simp only [pH,rK] at mr ms;simp only [mr,ms]
 · refine Sim.one (Prp.of (-1) (by omega) fun ρ=>?_);rw [kbj hl ag hr hs ef eg,kbj hl ag hs hr eg ef]
   grind
 · exact Sim.refl _
 · exact Sim.refl _
 · refine Sim.append (A:=[_]) (B:=[_]) (Sim.one (Prp.of 1 (by omega) fun ρ=>?_)) (Sim.one (Prp.of (-1) (by omega) fun ρ=>?_))
   · rw [kas hl ag hr hs ef eg,kas hl ag hs hr eg ef]
     grind
   · rw [(xa1 hl ag hr hs ef eg ρ).2,(xa1 hl ag hs hr eg ef ρ).2]
     grind
end
theorem wb2 (x : Sp) : ∀ l : List Sp, (zar x l).length <= l.length + 1
 | []=>by simp [zar]
 | y :: r=>by
   have:=wb2 x r;unfold zar
   repeat' split
   all_goals simp only [pH] at *; omega
theorem xb4 : ∀ l : List Sp, (qap l).length <= l.length
 | []=>pj _
 | x :: r=>by
   have h1:=xb4 r;have h2:=wb2 x (qap r);have e:qap (x :: r)=zar x (qap r):=rfl;rw [e,pH]; omega
theorem jc6 (ps:List Pl):(qaa ps).length<=ps.length:=by
 unfold qaa uat;rw [pw];refine py (xb4 _) ?_;rw [pw];refine py (uE _ _) ?_;rw [pw]; omega
theorem kc6 {ps:List Pl} {E D:Nat} (h:∀ p ∈ ps,Fit p E D):∀ p ∈ qaa ps,Fit p E D:=fun p hp=>by
 obtain ⟨y,hy,rfl,-⟩:=qar.1 (xc6.1 hp);exact uam (h y hy)
theorem Prp.qbS {p q:Pl} (h:Prp p q) (hp:p.Can) (hq:q.Can):snP p=snP q:=by
 obtain ⟨a,b,ha,hb,h⟩:=h;have e:scl a p=scl b q:=Pl.qv (xu _ _) (xu _ _) fun ρ=>by rw [kw,kw,h]
 rw [<- jbf (p:=p) ha (xu a p) fun ρ=>kw a p ρ,e];exact jbf (p:=q) hb (xu b q) fun ρ=>kw b q ρ
theorem qb4 {A B:List Pl} (h:Sim A B) (hA:∀ p ∈ A,p.Can) (hB:∀ p ∈ B,p.Can):qaa A=qaa B:=vbh (fun p hp _=>by
 obtain ⟨q,hq,e⟩:=h.1 p hp
 exact ⟨q,hq,(e.qbS (hA p hp) (hB q hq)).symm⟩) fun p hp _=>by
 obtain ⟨q,hq,e⟩:=h.2 p hp;exact ⟨q,hq,e.qbS (hA q hq) (hB p hp)⟩
theorem jck {A C:List Pl} (hC:∀ p ∈ C,p.Can/\p.lv=0):qaa (C ++ A)=qaa A:=vbh (fun p hp h=>by
 rcases pT.1 hp with hp | hp
 · obtain ⟨h1,h2⟩:=hC p hp;rw [ycp h1,h2] at h;exact absurd h (by omega)
 · exact ⟨p,hp,rfl⟩) fun p hp _=>⟨p,ux _ hp,rfl⟩
theorem jan {l:Int} (p:Pl):elems l [p]=gaf l p:=by
 simp [elems,xa4,tO]
theorem vbm {l:Int} (p q:Pl):elems l [p,q]=gaf l p ++ gaf l q ++ prE l (vg l p) (vg l q):=by
 simp [elems,xa4,tO]
section
variable {l:Int} (hl:1<=l) (ag:l<=4)
include hl ag
theorem gdg {p:Pl} (h:p.Can) (h2:mdg l p<=2):mdg l (yab l p)<=2:=by
 by_cases h0:0 < mdg l p
 · have:=qcf hl ag h h0; omega
 · have:=xa9 (l:=l) hl ag (cs:=jae 1 (p.xf l).tail) (fun c hc=>(zbi 1 _ (fun c hc=>⟨wae h c (vah hc),qx hl ag h c (vah hc)⟩) c hc).1) fun c hc=>(zbi 1 _ (fun c hc=>⟨wae h c (vah hc),qx hl ag h c (vah hc)⟩) c hc).2
   unfold yab;rw [if_pos ⟨hl,ag⟩];rw [xai,ud] at this;unfold mdg at h0 this ⊢;omega
theorem qcz {c:Int} (hc:c ≠ 0) {r:Pl} (h:r.Can) (h2:mdg l r<=2):Sim (zac l r) (zac l (scl c r)):=by
 unfold zac;rw [zbg hl ag hc h,jdb hl ag hc h];exact Sim.append (A:=[_]) (B:=[_]) (Sim.one (qaq hc _)) (kcd hl ag h (gbh _ _) h2 (gdg hl ag h h2) hc hc)
theorem zaw {c:Int} (hc:c ≠ 0) {p:Pl} {D:Nat} (h:Fit p 2 D):Sim (gaf l p) (gaf l (scl c p)):=by
 have hr:∀ r ∈ vg l p,r.Can/\mdg l r<=2:=fun r hr=>by
  have h1:=(kab (l:=l) (fs:=[p]) (fun f hf=>pD.1 hf ▸ h) (pD.2 rfl) r hr).1;exact ⟨h1.can,by have:=waj (l:=l) h1.can h1.ex; omega⟩
 unfold gaf;rw [ka7 hl ag hc h.can,vch hl ag hc h.can,pw,kbh,List.flatMap_map];refine Sim.append (Sim.flat fun r h1=>qcz hl ag hc (hr r h1).1 (hr r h1).2) ?_
 split
 · exact Sim.refl _
 · rename_i au;have hr0:0 < (vg l p).length:=by omega
   have h1:(vg l p).getD 0 Pl.zero ∈ vg l p:=by rw [po,pr hr0]; exact pt _
   rw [vcz hl ag hc (hr _ h1).1];exact Sim.one (qaq hc _)
theorem jc2 {c d:Int} (hc:c ≠ 0) (hd:d ≠ 0) {A B:List Pl} (hA:∀ r ∈ A,r.Can/\mdg l r<=2) (hB:∀ r ∈ B,r.Can/\mdg l r<=2):Sim (prE l A B) (prE l (B.map (scl d)) (A.map (scl c))):=by
 have key:∀ r ∈ A,∀ s ∈ B,Sim (gp l r s) (gp l (scl d s) (scl c r)):=fun r hr s hs =>
  (wc1 hl ag (hA r hr).1 (hB s hs).1 (hA r hr).2 (hB s hs).2).trans (kcd hl ag (hB s hs).1 (hA r hr).1 (hB s hs).2 (hA r hr).2 hd hc)
 constructor
 · intro x hx;obtain ⟨r,hr,hx⟩:=rL.1 hx;obtain ⟨s,hs,hx⟩:=rL.1 hx;obtain ⟨y,hy,e⟩:=(key r hr s hs).1 x hx;exact ⟨y,rL.2 ⟨_,pS.2 ⟨s,hs,rfl⟩,rL.2 ⟨_,pS.2 ⟨r,hr,rfl⟩,hy⟩⟩,e⟩
 · intro x hx;obtain ⟨s',yJ,hx⟩:=rL.1 hx;obtain ⟨s,hs,rfl⟩:=pS.1 yJ;obtain ⟨r',EX,hx⟩:=rL.1 hx;obtain ⟨r,hr,rfl⟩:=pS.1 EX;obtain ⟨y,hy,e⟩:=(key r hr s hs).2 x hx;exact ⟨y,rL.2 ⟨r,hr,rL.2 ⟨s,hs,hy⟩⟩,e⟩
theorem xcl {c d:Int} (hc:c ≠ 0) (hd:d ≠ 0) {p q:Pl} {D:Nat} (hp:Fit p 2 D) (hq:Fit q 2 D):Sim (elems l [p,q]) (elems l [scl d q,scl c p]):=by
 have hr:∀ p:Pl,Fit p 2 D->∀ r ∈ vg l p,r.Can/\mdg l r<=2:=fun p h r hr=>by
  have h1:=(kab (l:=l) (fs:=[p]) (fun f hf=>pD.1 hf ▸ h) (pD.2 rfl) r hr).1;exact ⟨h1.can,by have:=waj (l:=l) h1.can h1.ex; omega⟩
 rw [vbm,vbm,ka7 hl ag hc hp.can,ka7 hl ag hd hq.can];refine Sim.append ?_ (jc2 hl ag hc hd (hr p hp) (hr q hq));refine (Sim.append (zaw hl ag hc hp) (zaw hl ag hd hq)).trans (Sim.same fun x=>?_);rw [pT,pT];exact Or.comm
end
def jq (l:Int) (ps:List Pl):List Pl:=ps.filter fun p=>decide (p.lv=l)
def yw (l:Int) (ps:List Pl):List Pl:=ps.filter fun p=>decide (p.lv < l)
def kap : List Pl -> List Pl
 | [p]=>[Pl.const 7,Pl.const 0,scl (-2) p]
 | [p,q]=>[Pl.const 7,Pl.const 0,scl (-3) q,scl (-2) p]
 | _=>[Pl.const 7,Pl.const 0]
theorem wbt {ps:List Pl} {D:Nat} (hf:∀ p ∈ ps,Fit p 2 D):∀ p ∈ kap ps,Fit p 2 (D+1):=by
 have h7:∀ z:Int,z.natAbs < 100->Fit (Pl.const z) 2 (D+1):=fun z hz=>(Fit.const (E:=2) (D:=1) (by have:B32 ^ 1=4294967296:=rfl; omega)).mono (pj _) (by omega)
 have hs:∀ z:Int,z.natAbs < 100->∀ p ∈ ps,Fit (scl z p) 2 (D+1):=fun z hz p hp=>((hf p hp).mul (Fit.const (E:=0) (D:=1) (by have:B32 ^ 1=4294967296:=rfl; omega))).mono (by omega) (by omega)
 intro p hp;unfold kap at hp
 split at hp
 · simp only [pN,sr,or_false] at hp;rcases hp with rfl | rfl | rfl
   · exact h7 _ (by decide)
   · exact h7 _ (by decide)
   · exact hs _ (by decide) _ (by simp)
 · simp only [pN,sr,or_false] at hp;rcases hp with rfl | rfl | rfl | rfl
   · exact h7 _ (by decide)
   · exact h7 _ (by decide)
   · exact hs _ (by decide) _ (by simp)
   · exact hs _ (by decide) _ (by simp)
 · simp only [pN,sr,or_false] at hp;rcases hp with rfl | rfl
   · exact h7 _ (by decide)
   · exact h7 _ (by decide)
theorem kcr {l:Int} (hl:1<=l) (ag:l<=4) {ps:List Pl} {D:Nat} (hn:ps.length<=2) (hf:∀ p ∈ ps,Fit p 2 D) :
 qaa (dF l (jq l ps) ++ yw l ps)=qaa (dF l (jq l (kap ps)) ++ yw l (kap ps)):=by
 have hb:=wbt hf;have e1:=kaz hl ag (fs:=jq l ps) (D:=D) fun p hp=>hf p (sw.1 hp).1
 have e2:=kaz hl ag (fs:=jq l (kap ps)) (D:=D+1) fun p hp=>hb p (sw.1 hp).1
 have l1:∀ p ∈ yw l ps,p.Can:=fun p hp=>(hf p (sw.1 hp).1).can
 have l2:∀ p ∈ yw l (kap ps),p.Can:=fun p hp=>(hb p (sw.1 hp).1).can
 rw [jb4 fun p hp=>(e1 p hp).can,jb4 fun p hp=>(e2 p hp).can];have n7:jq l [Pl.const 7,Pl.const 0]=[]:=by
  have a:(Pl.const 7).lv=0:=rfl;have b:(Pl.const 0).lv=0:=rfl;simp only [jq,rR,SD,a,b];rw [if_neg (by simp; omega),if_neg (by simp; omega)]
 have m7:yw l [Pl.const 7,Pl.const 0]=[Pl.const 7,Pl.const 0]:=by
  have a:(Pl.const 7).lv=0:=rfl;have b:(Pl.const 0).lv=0:=rfl;simp only [yw,rR,SD,a,b];rw [if_pos (by simp; omega),if_pos (by simp; omega)]
 have eG:∀ R:List Pl,(∀ p ∈ elems l (jq l ([Pl.const 7,Pl.const 0] ++ R)),p.Can)->(∀ p ∈ yw l ([Pl.const 7,Pl.const 0] ++ R),p.Can)->Sim (elems l (jq l ps)) (elems l (jq l R))->Sim (yw l ps) (yw l R) ->
  qaa (elems l (jq l ps) ++ yw l ps)=qaa (elems l (jq l ([Pl.const 7,Pl.const 0] ++ R)) ++ yw l ([Pl.const 7,Pl.const 0] ++ R)):=fun R k1 k2 s1 s2=>by
  have o7:jq l ([Pl.const 7,Pl.const 0] ++ R)=jq l R:=by
   have:jq l ([Pl.const 7,Pl.const 0] ++ R)=jq l [Pl.const 7,Pl.const 0] ++ jq l R:=tL ..;rw [this,n7,tz]
  have w7:yw l ([Pl.const 7,Pl.const 0] ++ R)=[Pl.const 7,Pl.const 0] ++ yw l R:=by
   have:yw l ([Pl.const 7,Pl.const 0] ++ R)=yw l [Pl.const 7,Pl.const 0] ++ yw l R:=tL ..;rw [this,m7]
  rw [o7] at k1 ⊢;rw [w7] at k2 ⊢;have hz:∀ p ∈ [Pl.const 7,Pl.const 0],p.Can/\p.lv=0:=fun p hp=>by
   simp only [pN,sr,or_false] at hp;rcases hp with rfl | rfl
   · exact ⟨qp 7,rfl⟩
   · exact ⟨qp 0,rfl⟩
  have c1:∀ p ∈ elems l (jq l ps) ++ yw l ps,p.Can:=fun p hp=>by
   rcases pT.1 hp with hp | hp
   · exact (e1 p hp).can
   · exact l1 p hp
  have c2:∀ p ∈ elems l (jq l R) ++ yw l R,p.Can:=fun p hp=>by
   rcases pT.1 hp with hp | hp
   · exact k1 p hp
   · exact k2 p (ux _ hp)
  rw [qb4 (s1.append s2) c1 c2,<- jck (A:=elems l (jq l R) ++ yw l R) hz];refine qb4 (Sim.same fun x=>?_) (fun p hp=>?_) fun p hp=>?_
  · simp only [pT]
    constructor
    · rintro (h | h | h)
      · exact .inr (.inl h)
      · exact .inl h
      · exact .inr (.inr h)
    · rintro (h | h | h)
      · exact .inr (.inl h)
      · exact .inl h
      · exact .inr (.inr h)
  · rcases pT.1 hp with hp | hp
    · exact (hz p hp).1
    · exact c2 p hp
  · rcases pT.1 hp with hp | hp
    · exact k1 p hp
    · exact k2 p hp
 match ps,hn,hf,e1,e2,l1,l2,eG with
 | [],_,_,_,e2,_,l2,eG=>exact eG [] (fun p hp=>(e2 p hp).can) l2 (Sim.refl _) (Sim.refl _)
 | [p],_,hf,_,e2,_,l2,eG =>
   have hp:=hf p (by simp);have v:=va7 (c:=-2) (by omega) hp.can;refine eG [scl (-2) p] (fun p hp=>(e2 p hp).can) l2 ?_ ?_
   · unfold jq;rw [rR,rR,v]
     split
     · simp only [SD];rw [jan,jan];exact zaw hl ag (by omega) hp
     · exact Sim.refl _
   · unfold yw;rw [rR,rR,v]
     split
     · exact Sim.one (qaq (by omega) p)
     · exact Sim.refl _
 | [p,q],_,hf,_,e2,_,l2,eG =>
   have hp:=hf p (by simp);have hq:=hf q (by simp);have v:=va7 (c:=-2) (by omega) hp.can;have u:=va7 (c:=-3) (by omega) hq.can;refine eG [scl (-3) q,scl (-2) p] (fun p hp=>(e2 p hp).can) l2 ?_ ?_
   · unfold jq;simp only [rR,v,u,SD]
     by_cases h1:decide (p.lv=l)=true <;> by_cases h2:decide (q.lv=l)=true
     · rw [if_pos h1,if_pos h2,if_pos h2,if_pos h1];exact xcl hl ag (by omega) (by omega) hp hq
     · rw [if_pos h1,if_neg h2,if_neg h2,if_pos h1,jan,jan];exact zaw hl ag (by omega) hp
     · rw [if_neg h1,if_pos h2,if_pos h2,if_neg h1,jan,jan];exact zaw hl ag (by omega) hq
     · rw [if_neg h1,if_neg h2,if_neg h2,if_neg h1];exact Sim.refl _
   · unfold yw;simp only [rR,v,u,SD]
     by_cases h1:decide (p.lv < l)=true <;> by_cases h2:decide (q.lv < l)=true
     · rw [if_pos h1,if_pos h2,if_pos h2,if_pos h1];have h3:=Sim.append (Sim.one (qaq (c:=-2) (by omega) p)) (Sim.one (qaq (c:=-3) (by omega) q));exact h3.trans (Sim.same fun x=>by simp only [pT,pN,sr,or_false]; exact Or.comm)
     · rw [if_pos h1,if_neg h2,if_neg h2,if_pos h1];exact Sim.one (qaq (by omega) p)
     · rw [if_neg h1,if_pos h2,if_pos h2,if_neg h1];exact Sim.one (qaq (by omega) q)
     · rw [if_neg h1,if_neg h2,if_neg h2,if_neg h1];exact Sim.refl _
 | _ :: _ :: _ :: _,hn,_,_,_,_,_,_=>simp at hn
end Go.Proofs.YtcepajijiabkmaaGreat

set_option maxRecDepth 100000
set_option maxHeartbeats 8000000
namespace Go.Proofs.YtcepajijiabkmaaGreat
open Lib (hid)
open Go.RowKit Go.Shelf
attribute [local go_sem] Oper.semAt_some vb3 jb3 qb3 xb3 zcf wce gce uce
def up (e i h:Int):Int:=if 0 < e/\h < i then i else h
def qam (m : Mo) : Nat -> Int
 | 0=>m.a
 | 1=>m.b
 | 2=>m.c
 | _=>m.d
def ybh (m : Mo) (t : Int) : Nat -> Int
 | 0=>t
 | k+1=>up (qam m k) (k+1) (ybh m t k)
theorem gay (m:Mo) (t:Int) (k:Nat):ybh m t (k+1)=up (qam m k) (k+1) (ybh m t k):=rfl
def Mo.Ki (m:Mo):Int:=if 0 < m.d then 4 else if 0 < m.c then 3 else if 0 < m.b then 2 else if 0 < m.a then 1 else 0
def qag (l:Sp):Int:=l.foldl (fun a x=>max a x.2.Ki) 0
theorem jcs (m:Mo) (t:Int) (h:0<=t):ybh m t 4=max t m.Ki:=by
 simp only [ybh,up,qam,Mo.Ki]
 repeat' split
 all_goals omega
theorem qcs (l:Sp) (k:Nat) (hk:k < l.length):qag (l.take (k+1))=max (qag (l.take k)) l[k].2.Ki:=by
 unfold qag;rw [pC hk,T9]; rfl
theorem xbs : ∀ (l : Sp) (a : Int), a <= l.foldl (fun a x => max a x.2.Ki) a
 | [],a=>uv _
 | x :: r,a=>Int.le_trans (by omega) (xbs r (max a x.2.Ki))
theorem yca (l:Sp):0<=qag l:=xbs l 0
theorem va6 : ∀ (l : Sp) (a : Int), 0 <= a -> (0 < l.foldl (fun a x => max a x.2.Ki) a ↔ 0 < a \/ ∃ x ∈ l, 0 < x.2.Ki)
 | [],a,_=>by simp
 | x :: r,a,h=>by
   rw [Rc,va6 r (max a x.2.Ki) (by omega)];simp only [pN,exists_eq_or_imp]
   constructor
   · rintro (h1 | h1)
     · by_cases h2:0 < a
       · exact .inl h2
       · exact .inr (.inl (by omega))
     · exact .inr (.inr h1)
   · rintro (h1 | h1 | h1)
     · exact .inl (by omega)
     · exact .inl (by omega)
     · exact .inr h1
theorem zc4 {l:Sp}:0 < qag l ↔ ∃ x ∈ l,0 < x.2.Ki:=by
 unfold qag;rw [va6 l 0 (uv _)]; simp
theorem kcx {w:World} {A:Option Addr} {n c:Nat} {l:Sp} (hc:Calls Tryz.prog 31 #[.slice A n c] w (wa5 l w)):Calls Tryz.prog 28 #[.slice A n c] w (vbv l w):=by
 have bH:=hid hc;clear hc;go_enter Tryz.func28,Tryz.ntmps28;go_wp2_with fail;refine bH.out.mono ?_;rintro e w2 ⟨v2,rfl,h2,x2⟩;obtain ⟨A2,c2,rfl,-⟩:=id h2
 have HF:Hid (vbv l w (.returned (.func (.func 52) #[] #[.pointer (some ⟨w2.heap.size,0,none⟩)])) (w2.alloc (.cells #[.slice A2 l.length c2] 23))):=
  hid ⟨_,_,rfl,by simp [go_sem],x2.size,by simp,h2.ext ((Ext.refl w2).alloc _),x2.alloc _⟩
 clear x2 h2 bH;go_wp2_with fail;go_ret;exact HF.out
structure LvP (B : Nat) (w W W' : World) (h : Int) : Prop where
 from_:KeepsFrom B W W'
 keep:jr w.heap.size W W'
 ext:Ext w W'
 size:B<=W'.heap.size
 box:W'.heap[w.heap.size]?=some (.cells #[.int .i64 h] 3 (0,0))
theorem LvP.cell {B:Nat} {w W W':World} {h:Int} (p:LvP B w W W' h):W'.cell? ⟨w.heap.size,0,none⟩=some (.int .i64 h):=box1 p.box
theorem LvP.free {B:Nat} {w W W':World} {h:Int} (p:LvP B w W W' h):W'.frozen? ⟨w.heap.size,0,none⟩=false:=by simp [World.frozen?,p.box]
theorem LvP.put {B : Nat} {w W W' : World} {h v : Int} (p : LvP B w W W' h) (hB : w.heap.size < B) : LvP B w W (W'.setCell ⟨w.heap.size, 0, none⟩ (.int .i64 v)) v where
 from_:=p.from_.trans (KeepsFrom.of_grownBy (grownBy_setCell' W' _ _) (fun j e=>by injection e with e; omega))
 keep:=p.keep.trans (jr.setCell _ W' _ p.cell rfl)
 ext:=p.ext.setCell (pj _) _
 size:=by
  have h1:=p.size;have:(W'.setCell ⟨w.heap.size,0,none⟩ (.int .i64 v)).heap.size=W'.heap.size:=by simp [World.setCell]
  omega
 box:=Boxed.set _ p.box
theorem LvP.done {B:Nat} {w W W':World} {h h':Int} (p:LvP B w W W' h) (e:h=h'):KeepsFrom B W W'/\jr w.heap.size W W'/\Ext w W'/\B<=W'.heap.size/\W'.heap[w.heap.size]?=some (.cells #[.int .i64 h'] 3 (0,0)):=by
 subst e; exact ⟨p.from_,p.keep,p.ext,p.size,p.box⟩
theorem xc4 {w:World} {A0:Option Addr} {l0 k0:Nat} {l:Sp} (HN:∀ W',Ext w W'->Calls Tryz.prog 31 #[.slice A0 l0 k0] W' (wa5 l W')) (ik:∀ x ∈ l,(dg x.1.natAbs).length<=1099511627776) (hlen:l.length<=1099511627776):Calls Tryz.prog 8 #[.slice A0 l0 k0] w (vbi (qag l) w):=by
 have nN:=hid ik;have MV:=hid (fun (W':World) (hx:Ext w W')=>kcx (HN W' hx));clear ik HN;have nJ:∀ k:Nat,(Fence.wide.depth.isSome=true->1<=k):=fun k h=>by cases h
 obtain ⟨V0,gI⟩:=n_m ((w.alloc (.cells #[.int .i64 0] 3)));obtain ⟨W0,FW⟩:=n_m ((V0.setCell ⟨w.heap.size,0,none⟩ (.int .i64 0)));have aC:Ext w W0:=by rw [<- FW,<- gI]; exact ((Ext.refl w).alloc _).setCell (pj _) _
 have iT:W0.heap.size=w.heap.size+1:=by rw [<- FW,<- gI]; simp [World.setCell]
 have LC:V0.heap[w.heap.size]?=some (.cells #[.int .i64 0] 3 (0,0)):=by rw [<- gI]; exact heap_alloc_new w _
 have FT:W0.heap[w.heap.size]?=some (.cells #[.int .i64 0] 3 (0,0)):=by rw [<- FW]; exact Boxed.set _ LC
 have c0:V0.cell? ⟨w.heap.size,0,none⟩=some (.int .i64 0):=box1 LC;have f0:V0.frozen? ⟨w.heap.size,0,none⟩=false:=by simp [World.frozen?,LC]
 clear LC;have ay:=hid aC;have Gz:=hid FT;clear aC FT;refine (callsIn_wide (n:=5)).1 ?_;refine callsIn_of_wp_marks Tryz.func8 rfl trivial ?_ rfl;simp only [Tryz.ntmps8,tB,pH,rK,Nat.reduceAdd,Nat.reduceSub,Array.replicate_succ,Array.replicate_zero,Pd,wh,tz,rI]
 gi_wp2_with fail
 clear FW gI c0 f0;refine ⟨trivial,?_⟩;refine (callsIn_wide.2 (MV.out W0 ay.out)).mono ?_;rintro e w2 ⟨B2,v2,rfl,dP,qV,xC,⟨A2,k2,rfl,yQ,hk2,aK⟩,x2⟩;have X2:=hid (ay.out.trans x2);have WI:=hid ((x2.below.block _ (by omega)).trans Gz.out);have jF:=x2.size;have vT:=hid (fun n=>jbq w.heap.size yQ hk2 aK (aK.apart WI.out) (fun x hx=>nN.out x hx) B2 xC (by omega) dP n);clear x2 dP aK MV ay Gz
 gi_wp2_with fail
 refine zbz (by omega) (gf := 52) (lb := #[.pointer (some ⟨B2, 0, none⟩)]) rfl (enters_of Tryz.func52 (by kernel_rfl) rfl) (vT.out _) jr.trans (fun W l o o' _ h1 h2 _ => jr.putObj _ W l o o' h1 h2) (Below.refl _ _) (fun _ => rfl)
  (fun k W=>Ext w W/\w2.heap.size<=W.heap.size/\W.heap[w.heap.size]?=some (.cells #[.int .i64 (qag (l.take k))] 3 (0,0)))
  ?ownI ?startI
  (fun k x a' W=>(∃ g,a'={ tmps:=#[.slice A0 l0 k0,undef,.int .i64 0,.pointer (some ⟨w.heap.size,0,none⟩),.pointer (some ⟨g,0,none⟩),undef,undef,.slice A0 l0 k0,.func (.func 52) #[] #[.pointer (some ⟨B2,0,none⟩)],.agg #[.int .i64 x.1.a,.int .i64 x.1.b,.int .i64 x.1.c,.int .i64 x.1.d],x.2,undef,undef,undef,undef,undef,undef,undef,undef,undef,undef,undef,undef,undef,undef,undef,undef,undef],defers:=[] }/\w2.heap.size<=g/\W.heap[g]?=some (.cells #[.int .i64 x.1.a,.int .i64 x.1.b,.int .i64 x.1.c,.int .i64 x.1.d] 61 (0,0)))/\(∃ h:k < l.length,x.1=l[k].2)/\Ext w W/\w2.heap.size<=W.heap.size/\W.heap[w.heap.size]?=some (.cells #[.int .i64 (qag (l.take k))] 3 (0,0)))
  ?ownA ?assign ?body ?done
 case ownI =>
  rintro k W W' row ⟨h1,h2,h3⟩ hg hr;exact ⟨Below.grown h1.below hg h1.size (fun r e=>by have:=(hr r e).1; have:=h1.size; have:=X2.out.size; omega),py h2 hg.size,cells_kept hg (fun r e=>(hr r e).2) h3⟩
 case startI=>exact ⟨X2.out,pj _,WI.out⟩
 case ownA =>
  rintro k x a' s W W' row ⟨⟨g,ha,jQ,dR⟩,hk,h1,h2,h3⟩ hg hr;have eX:=fun r e=>(hr r e).2
  exact ⟨⟨g,ha,jQ,cells_kept hg eX dR⟩,hk,Below.grown h1.below hg h1.size (fun r e=>by have:=(hr r e).1; have:=h1.size; have:=X2.out.size; omega),py h2 hg.size,cells_kept hg eX h3⟩
 case assign =>
  rintro lp k ⟨mk,xv⟩ W K hk ⟨h1,h2,h3⟩ ⟨lX,hm,hz⟩ hK;dsimp only at hm hz;have hx1:Ext W (W.alloc (.cells #[.int .i64 mk.a,.int .i64 mk.b,.int .i64 mk.c,.int .i64 mk.d] 61)):=(Ext.refl W).alloc _;have HK:=hK { tmps:=#[.slice A0 l0 k0,undef,.int .i64 0,.pointer (some ⟨w.heap.size,0,none⟩),.pointer (some ⟨W.heap.size,0,none⟩),undef,undef,.slice A0 l0 k0,.func (.func 52) #[] #[.pointer (some ⟨B2,0,none⟩)],.agg #[.int .i64 mk.a,.int .i64 mk.b,.int .i64 mk.c,.int .i64 mk.d],xv,undef,undef,undef,undef,undef,undef,undef,undef,undef,undef,undef,undef,undef,undef,undef,undef,undef],defers:=[] } _ (kat hx1) (jr.xi _ hx1) ⟨⟨W.heap.size,rfl,h2,heap_alloc_new W _⟩,⟨lX,hm⟩,h1.trans hx1,py h2 hx1.size,(hx1.below.block _ (by have:=X2.out.size; have:=h1.size; omega)).trans h3⟩;have PI:=hid HK;clear HK hK h1 h2 h3 hx1 hz hm;simp only [jbv,moV]
  gi_wp2
  exact PI.out
 case body =>
  rintro lp k ⟨mk,xv⟩ a' W hk ⟨⟨g,rfl,jQ,dR⟩,⟨lX,hm⟩,h1,h2,h3⟩;dsimp only at hm dR;have bZ:Hid (qag (l.take (k+1))=ybh mk (qag (l.take k)) 4):=hid (by rw [qcs l k lX,hm,jcs _ _ (yca _)]);have HP0:Hid (LvP w2.heap.size w W W (qag (l.take k))):=hid ⟨KeepsFrom.refl _ _,jr.refl _ _,h1,h2,h3⟩;have kC:Hid (∀ (W':World) (h v:Int),LvP w2.heap.size w W W' h->LvP w2.heap.size w W (W'.setCell ⟨w.heap.size,0,none⟩ (.int .i64 v)) v):=hid (fun W' h v hp=>hp.put (by have:=X2.out.size; have:=jF; have:=iT; omega));obtain ⟨m0,m1,m2,m3⟩:=box4 dR;clear h1 h2 h3 dR hm;rw [bZ.out];generalize hL0:qag (l.take k)=tk at HP0;clear bZ;obtain ⟨xa,eU⟩:=n_m (mk.a);obtain ⟨xb,nP⟩:=n_m (mk.b);obtain ⟨xc,AA⟩:=n_m (mk.c);obtain ⟨xd,Zz⟩:=n_m (mk.d);rw [eU] at m0;rw [nP] at m1;rw [AA] at m2;rw [Zz] at m3;have HM:=hid (show mk.a=xa/\mk.b=xb/\mk.c=xc/\mk.d=xd from ⟨eU,nP,AA,Zz⟩);clear eU nP AA Zz
  gi_wp2_with fail
  clear m0 m1 m2 m3
  gi_loopw [12] (fun iv wr=>∃ k:Nat,k<=4/\iv=.int .i64 k/\∃ h,Hid (LvP w2.heap.size w W wr h/\ybh mk tk k=h)) (fun iv _=>4 - (intOf iv).toNat)
  case atStart=>exact ⟨0,by omega,rfl,tk,hid ⟨HP0.out,rfl⟩⟩
  case round =>
   obtain ⟨k,hk,rfl,h,HR⟩:=hrel;have t0:=HR.out.1.cell;have tf:=HR.out.1.free;have Ew:=hid (fun v=>kC.out _ _ v HR.out.1);rcases (by omega:k=0\/k=1\/k=2\/k=3\/k=4) with rfl | rfl | rfl | rfl | rfl
   · have HN:=hid (gay mk tk 0)
     by_cases hp:0 < xa
     · by_cases hq:h < 1
       · gi_wp2_with fail
         go_roundw
         case rel=>exact ⟨1,by omega,by first | rfl | go_num,1,hid ⟨Ew.out _,by rw [HN.out,HR.out.2]; simp [up,qam,HM.out,hp,hq]⟩⟩
         case measure=>simp [intOf]
       · gi_wp2_with fail
         go_roundw
         case rel=>exact ⟨1,by omega,by first | rfl | go_num,h,hid ⟨HR.out.1,by rw [HN.out,HR.out.2]; simp [up,qam,HM.out,hp,hq]⟩⟩
         case measure=>simp [intOf]
     · gi_wp2_with fail
       go_roundw
       case rel=>exact ⟨1,by omega,by first | rfl | go_num,h,hid ⟨HR.out.1,by rw [HN.out,HR.out.2]; simp [up,qam,HM.out,hp]⟩⟩
       case measure=>simp [intOf]
   · have HN:=hid (gay mk tk 1)
     by_cases hp:0 < xb
     · by_cases hq:h < 2
       · gi_wp2_with fail
         go_roundw
         case rel=>exact ⟨2,by omega,by first | rfl | go_num,2,hid ⟨Ew.out _,by rw [HN.out,HR.out.2]; simp [up,qam,HM.out,hp,hq]⟩⟩
         case measure=>simp [intOf]
       · gi_wp2_with fail
         go_roundw
         case rel=>exact ⟨2,by omega,by first | rfl | go_num,h,hid ⟨HR.out.1,by rw [HN.out,HR.out.2]; simp [up,qam,HM.out,hp,hq]⟩⟩
         case measure=>simp [intOf]
     · gi_wp2_with fail
       go_roundw
       case rel=>exact ⟨2,by omega,by first | rfl | go_num,h,hid ⟨HR.out.1,by rw [HN.out,HR.out.2]; simp [up,qam,HM.out,hp]⟩⟩
       case measure=>simp [intOf]
   · have HN:=hid (gay mk tk 2)
     by_cases hp:0 < xc
     · by_cases hq:h < 3
       · gi_wp2_with fail
         go_roundw
         case rel=>exact ⟨3,by omega,by first | rfl | go_num,3,hid ⟨Ew.out _,by rw [HN.out,HR.out.2]; simp [up,qam,HM.out,hp,hq]⟩⟩
         case measure=>simp [intOf]
       · gi_wp2_with fail
         go_roundw
         case rel=>exact ⟨3,by omega,by first | rfl | go_num,h,hid ⟨HR.out.1,by rw [HN.out,HR.out.2]; simp [up,qam,HM.out,hp,hq]⟩⟩
         case measure=>simp [intOf]
     · gi_wp2_with fail
       go_roundw
       case rel=>exact ⟨3,by omega,by first | rfl | go_num,h,hid ⟨HR.out.1,by rw [HN.out,HR.out.2]; simp [up,qam,HM.out,hp]⟩⟩
       case measure=>simp [intOf]
   · have HN:=hid (gay mk tk 3)
     by_cases hp:0 < xd
     · by_cases hq:h < 4
       · gi_wp2_with fail
         go_roundw
         case rel=>exact ⟨4,by omega,by first | rfl | go_num,4,hid ⟨Ew.out _,by rw [HN.out,HR.out.2]; simp [up,qam,HM.out,hp,hq]⟩⟩
         case measure=>simp [intOf]
       · gi_wp2_with fail
         go_roundw
         case rel=>exact ⟨4,by omega,by first | rfl | go_num,h,hid ⟨HR.out.1,by rw [HN.out,HR.out.2]; simp [up,qam,HM.out,hp,hq]⟩⟩
         case measure=>simp [intOf]
     · gi_wp2_with fail
       go_roundw
       case rel=>exact ⟨4,by omega,by first | rfl | go_num,h,hid ⟨HR.out.1,by rw [HN.out,HR.out.2]; simp [up,qam,HM.out,hp]⟩⟩
       case measure=>simp [intOf]
   · gi_wp2_with fail
     simp only [ga8];exact HR.out.1.done HR.out.2.symm
 case done =>
  rintro D W hD ⟨h1,h2,h3⟩ hK;rw [pQ] at h3;have t0:=box1 h3;have H1:=hid h1;have PK:=hid hK;have yD:=X2.out.size;clear h1 h2 h3 hK
  gi_wp2_with fail
  refine ⟨by simp,.inl ⟨_,_,rfl,run_takeDeferred PK.out,?_⟩⟩;exact ⟨.int .i64 (qag l),by simp [results,Tryz.results8,go_sem],rfl,Below.grown H1.out.below (grownBy_putObj' _ D _) H1.out.size (fun k e=>by injection e with e; omega)⟩
theorem kcs {w:World} {v:Value} {l:Sp} (h:SpV w none v l) (hc:qg l=l) (ik:∀ x ∈ l,(dg x.1.natAbs).length<=1099511627776) (hL:(dg (zg l)).length<=1099511627776) (hlen:l.length<=1099511627776):Calls Tryz.prog 8 #[v] w (vbi (qag l) w):=by
 have HN:=fun (W':World) (hx:Ext w W')=>uad 1099511627776 (h.ext hx) (fun z ⟨x,hx,e⟩=>by rw [<- e]; exact ik x hx) (by omega) hlen
 rw [hc] at HN;obtain ⟨A,c,rfl,-⟩:=h;exact xc4 HN ik hlen
end Go.Proofs.YtcepajijiabkmaaGreat

namespace Go.Proofs.YtcepajijiabkmaaGreat
open Lib (hid)
def vbj:Go.Shelf.Ren:=⟨fun | 6=>45 | 14=>73 | 20=>94 | 21=>95 | 22=>96 | 23=>97 | 24=>98 | 25=>99 | 26=>100 | 27=>101 | 46=>118 | 47=>119 | 48=>120 | 49=>121 | 50=>122 | 15=>74 | 57=>148 | 28=>102 | 29=>103 | n=>n,fun | 24=>23 | 22=>48 | 3=>3 | 25=>73 | 4=>4 | 0=>0 | 46=>127 | 45=>126 | 50=>115 | 66=>146 | 39=>85 | 55=>67 | 70=>150 | 76=>168 | 77=>169 | 53=>84 | 5=>5 | 9=>9 | n=>n,fun | n=>n⟩
theorem uco : Go.Proofs.SlLaysF.n6 Tryz.prog vbj := {
 mixed:=by kernel_rfl,
 f6:=⟨Tryz.f45.name,by decide,Tryz.func45.trans (congrArg some (by kernel_rfl))⟩,
 f14:=⟨Tryz.f73.name,by decide,Tryz.func73.trans (congrArg some (by kernel_rfl))⟩,
 f15:=Tryz.func74.trans (congrArg some (by kernel_rfl)),
 f20:=⟨Tryz.f94.name,by decide,Tryz.func94.trans (congrArg some (by kernel_rfl))⟩,
 f21:=⟨Tryz.f95.name,by decide,Tryz.func95.trans (congrArg some (by kernel_rfl))⟩,
 f22:=⟨Tryz.f96.name,by decide,Tryz.func96.trans (congrArg some (by kernel_rfl))⟩,
 f23:=⟨Tryz.f97.name,by decide,Tryz.func97.trans (congrArg some (by kernel_rfl))⟩,
 f24:=⟨Tryz.f98.name,by decide,Tryz.func98.trans (congrArg some (by kernel_rfl))⟩,
 f25:=⟨Tryz.f99.name,by decide,Tryz.func99.trans (congrArg some (by kernel_rfl))⟩,
 f26:=⟨Tryz.f100.name,by decide,Tryz.func100.trans (congrArg some (by kernel_rfl))⟩,
 f27:=⟨Tryz.f101.name,by decide,Tryz.func101.trans (congrArg some (by kernel_rfl))⟩,
 f28:=Tryz.func102.trans (congrArg some (by kernel_rfl)),
 f29:=Tryz.func103.trans (congrArg some (by kernel_rfl)),
 f46:=⟨Tryz.f118.name,by decide,Tryz.func118.trans (congrArg some (by kernel_rfl))⟩,
 f47:=Tryz.func119.trans (congrArg some (by kernel_rfl)),
 f48:=Tryz.func120.trans (congrArg some (by kernel_rfl)),
 f49:=⟨Tryz.f121.name,by decide,Tryz.func121.trans (congrArg some (by kernel_rfl))⟩,
 f50:=⟨Tryz.f122.name,by decide,Tryz.func122.trans (congrArg some (by kernel_rfl))⟩,
 f57:=⟨Tryz.f148.name,by decide,Tryz.func148.trans (congrArg some (by kernel_rfl))⟩,
 t0:=Tryz.underlying0,
 a0:=Tryz.isAgg0,
 z0:=Tryz.sizeOf0,
 v0:=Tryz.zeroValue0,
 t3:=Tryz.underlying3,
 a3:=paN,
 z3:=Wc,
 v3:=paK,
 t4:=S8,
 a4:=Tryz.isAgg4,
 z4:=Tryz.sizeOf4,
 v4:=Tryz.zeroValue4,
 t5:=Tryz.underlying5,
 a5:=Tryz.isAgg5,
 z5:=Tryz.sizeOf5,
 v5:=Tryz.zeroValue5,
 t9:=Tryz.underlying9,
 a9:=Tryz.isAgg9,
 z9:=Tryz.sizeOf9,
 v9:=Tryz.zeroValue9,
 t22:=T5,
 a22:=Tryz.isAgg48,
 z22:=Tryz.sizeOf48,
 v22:=Tryz.zeroValue48,
 a24:=Tryz.isAgg23,
 z24:=Tryz.sizeOf23,
 t25:=Tryz.underlying73,
 a25:=Tryz.isAgg73,
 z25:=Tryz.sizeOf73,
 v25:=Tryz.zeroValue73,
 t39:=Tryz.underlying85,
 a39:=Tryz.isAgg85,
 z39:=Tryz.sizeOf85,
 v39:=Tryz.zeroValue85,
 t45:=Tryz.underlying126,
 a45:=Tryz.isAgg126,
 z45:=Tryz.sizeOf126,
 v45:=Tryz.zeroValue126,
 t46:=Tryz.underlying127,
 a46:=Tryz.isAgg127,
 z46:=Tryz.sizeOf127,
 v46:=Tryz.zeroValue127,
 t50:=Tryz.underlying115,
 a50:=Tryz.isAgg115,
 z50:=Tryz.sizeOf115,
 v50:=Tryz.zeroValue115,
 t53:=pav,
 a53:=Tryz.isAgg84,
 z53:=Tryz.sizeOf84,
 v53:=Tryz.zeroValue84,
 t55:=Tryz.underlying67,
 a55:=Tryz.isAgg67,
 z55:=Tryz.sizeOf67,
 v55:=Tryz.zeroValue67,
 t66:=Tryz.underlying146,
 a66:=Tryz.isAgg146,
 z66:=Tryz.sizeOf146,
 v66:=Tryz.zeroValue146,
 t70:=Tryz.underlying150,
 a70:=Tryz.isAgg150,
 z70:=Tryz.sizeOf150,
 v70:=Tryz.zeroValue150,
 t76:=Tryz.underlying168,
 a76:=Tryz.isAgg168,
 z76:=Tryz.sizeOf168,
 v76:=Tryz.zeroValue168,
 t77:=Tryz.underlying169,
 a77:=Tryz.isAgg169,
 z77:=Tryz.sizeOf169,
 v77:=Tryz.zeroValue169 }
open Go
theorem ycw {α:Type} (a:Ask α):∀ w:World,w.drawn<=(w.ask a).2.drawn:=by
 induction a with
 | done a=>intro w; exact pj _
 | ask what range k ih =>
   intro w;unfold World.ask;simp only []
   split
   · exact ih _ _
   · exact py (se w.drawn) (ih _ { w with drawn:=w.drawn+1 })
theorem yco (w:World) (c:Sys):w.drawn<=(w.sys c).2.drawn:=by
 have h:=ycw (Kernel.perform c w.os) w;unfold World.sys
 split
 · exact pj _
 · rename_i r os w' _ e;rw [e] at h;exact h
theorem qbe {ε α β:Type} {x:Except ε α} {f:α->Except ε β} {b:β} (h:x.bind f=.ok b):∃ a,x=.ok a/\f a=.ok b:=by
 cases x with
 | error e=>cases h
 | ok a=>exact ⟨a,rfl,h⟩
theorem wbi {p:Program} {w w':World} {at_:Addr} {u:TypeId} {k:Addr} {v:Value} {b:Bool} {l:List Addr} (h:w.viewStore p at_ u k v b=.ok (w',l)):w'.drawn=w.drawn:=by
 unfold World.viewStore at h;simp only [bind] at h
 split at h
 · cases h
 obtain ⟨a,-,h⟩:=qbe h
 split at h
 · split at h
   · cases h
   obtain ⟨c,-,h⟩:=qbe h;injection h with h
   injection h with h
   rw [<- h]
 · cases h
theorem qbp {p:Program} {w w':World} {a:Addr} {v:Value} {b:Bool} {l:List Addr} (h:w.farStore p a v b=.ok (w',l)):w'.drawn=w.drawn:=by
 unfold World.farStore at h
 split at h
 · split at h
   · rename_i e;injection h with h
     rw [h] at e;exact wbi e
   · cases h
 · cases h
def uby {α : Type} : Result α -> World
 | .ok _ w=>w
 | .halt _ w=>w
theorem yay {α:Type} (p:Program) (s:Sem α):∀ w:World,w.drawn<=(uby (s.run p w)).drawn:=by
 induction s with
 | pure a=>intro w; exact pj _
 | load m a k ih =>
   intro w;unfold Sem.run
   split
   · exact ih _ _
   · split
     · exact ih _ _
     · exact pj _
 | store m a v k ih =>
   intro w
   have key:w.drawn<=(uby (match w.cell? a with
    | some _ => if w.frozen? a then .halt (.unsupported (.unsafePointer "a write to bytes that a string shares")) w else k.run p (w.setCell a v)
    | none=>match w.farStore p a v (m == .atomic) with
      | .ok (w,_)=>k.run p w
      | .error h=>.halt h w)).drawn:=by
    split
    · split
      · exact pj _
      · exact ih (w.setCell a v)
    · split
      · rename_i e;rw [<- qbp e];exact ih _
      · exact pj _
   cases v <;> first | exact pj _ | exact key
 | new o k ih=>intro w; exact ih _ { w with heap:=w.heap.push o }
 | shape r k ih=>intro w; exact ih _ _
 | freeze a n k ih =>
   intro w;have:(w.freeze a n).drawn=w.drawn:=by unfold World.freeze; split <;> rfl
   exact this ▸ ih (w.freeze a n)
 | frozen a k ih=>intro w; exact ih _ _
 | getObj r k ih =>
   intro w;unfold Sem.run
   split
   · exact pj _
   · exact ih _ _
   · exact pj _
 | setObj r o k ih =>
   intro w;unfold Sem.run
   split
   · exact pj _
   · exact ih { w with heap:=w.heap.setIfInBounds r o }
   · exact pj _
 | choose q k ih =>
   intro w;unfold Sem.run
   split
   · exact ih _ _
   · exact py (se w.drawn) (ih _ { w with drawn:=w.drawn+1 })
 | sys c k ih =>
   intro w;exact py (yco w c) (ih _ _)
 | program k ih=>intro w; exact ih _ _
 | mark m k ih=>intro w; exact ih _
 | halt h=>intro w; exact pj _
theorem qau {α:Type} (p:Program) (s:Sem α) (w:World) (es:Array Event):w.drawn<=(uby (s.runT p w es).1).drawn:=by
 rw [Sem.runT_fst]; exact yay p s w
theorem vdb {α:Type} {p:Program} {s:Sem α} {w w':World} {a:α} {es es':Array Event} (h:s.runT p w es=(.ok a w',es')):w.drawn<=w'.drawn:=by
 have:=qau p s w es; rw [h] at this; exact this
theorem zcq {α:Type} {p:Program} {s:Sem α} {w w':World} {a:Halt} {es es':Array Event} (h:s.runT p w es=(.halt a w',es')):w.drawn<=w'.drawn:=by
 have:=qau p s w es; rw [h] at this; exact this
def gW (n : Nat) : GStep -> Prop
 | .go _ w _ | .comm _ _ _ _ w _ | .spawn _ _ w _ | .count _ w _ | .timer _ _ w _ | .alone _ _ w _ | .newcoro _ _ _ w _ | .coroswitch _ _ _ w _ | .collect _ w _ | .watch _ w _=>n<=w.drawn
 | .ended ..=>True
theorem zak {n:Nat} {es:Array Event} {s:GStep} (h:gW n s):gW n (s.after es):=by cases s <;> exact h
theorem gW.mono {n m:Nat} {s:GStep} (h:gW n s) (hm:m<=n):gW m s:=by
 cases s <;> first | exact trivial | exact py hm h
theorem ga1 {n:Nat} {c:Prop} [Decidable c] {a b:GStep} (ha:gW n a) (hb:gW n b):gW n (if c then a else b):=by
 split
 · exact ha
 · exact hb
theorem xcf {n:Nat} {α:Type} {o:Option α} {b:GStep} {f:α->GStep} (hb:gW n b) (hf:∀ a,gW n (f a)):gW n (o.elim b f):=by
 cases o with
 | none=>exact hb
 | some a=>exact hf a
theorem zx {α:Type} {p:Program} {s:Sem α} {w w':World} {a:α} (h:s.run p w=.ok a w'):w.drawn<=w'.drawn:=by
 have:=yay p s w; rw [h] at this; exact this
theorem ucj {α:Type} {p:Program} {s:Sem α} {w w':World} {a:Halt} (h:s.run p w=.halt a w'):w.drawn<=w'.drawn:=by
 have:=yay p s w; rw [h] at this; exact this
theorem jcb (fr:Frame) (l:List ByteArray) (m:String) (b:Bool) (w:World):gW w.drawn (dieOf fr l m b w):=pj _
theorem zal (fr:Frame) (m:String) (w:World):gW w.drawn (endThrow fr m w):=pj _
theorem wbu (w:World) (fd:Nat) (t:ByteArray) (o:Outcome):gW w.drawn (endWith w fd t o):=by
 unfold endWith;dsimp only
 split
 · split
   · exact trivial
   · exact trivial
 · exact trivial
 · exact trivial
theorem zau (p:Program) (fr:Frame) (v:Value) (w:World):gW w.drawn (endPrinting p fr v w):=by
 unfold endPrinting;simp only []
 split
 · exact zal _ _ _
 · exact trivial
theorem ya2 (p:Program) (fr:Frame) (callers:List Frame) (dying:Option Dying) (m:String) (w:World):gW w.drawn (endFatal p fr callers dying m w):=by
 unfold endFatal;simp only []
 split
 · rename_i e; exact (jcb _ _ _ _ _).mono (zx e)
 · exact trivial
 · exact trivial
theorem jbu (p:Program) (fr:Frame) (d:Dying) (f:Fatal) (w:World):gW w.drawn (writeOn p fr d f w):=by
 unfold writeOn;simp only []
 split
 · exact trivial
 · split
   · rename_i e;exact vdb e
   · rename_i e;exact zcq e
   · exact trivial
   · exact trivial
theorem uaj {α:Type} {p:Program} {s:Sem α} {w:World} {r:Result α} {es es':Array Event} (h:s.runT p w es=(r,es')):w.drawn<=(uby r).drawn:=by
 have:=qau p s w es; rw [h] at this; exact this
theorem gcu (p:Program) (fr:Frame) (d:Dying) (w:World):gW w.drawn (die p fr d w):=by
 unfold die
 split
 · exact jbu _ _ _ _ _
 · split
   · split
     · exact pj _
     · exact wbu _ _ _ _
   · dsimp only
     split
     · exact pj _
     · split
       · rename_i e; exact zx e
       · exact trivial
     · generalize hr:Sem.runT p (invoke _ _) w #[]=x;obtain ⟨r,es⟩:=x;have hd:=uaj hr;dsimp only;refine zak ?_;clear hr
       revert hd
       split <;> intro hd
       · exact hd
       · exact hd
       · exact trivial
       · exact (zau _ _ _ _).mono hd
       · exact trivial
     · exact trivial
theorem yal (p:Program) (main:Bool) (fr:Frame) (callers:List Frame) (dying:Option Dying) (v:Value) (w:World):gW w.drawn (doReturn p main fr callers dying v w):=by
 unfold doReturn
 split
 · split <;> exact pj _
 · split
   · exact pj _
   · exact trivial
   · split
     · exact pj _
     · split
       · exact pj _
       · exact trivial
theorem zba (p:Program) (fr:Frame) (callers:List Frame) (dying:Option Dying) (d:Deferred) (w:World):gW w.drawn (callDeferred p fr callers dying d w):=by
 unfold callDeferred;refine ga1 trivial ?_
 · generalize hr:Sem.runT p (invoke _ _) w #[]=x;obtain ⟨r,es⟩:=x;have hd:=uaj hr;dsimp only;refine zak ?_;clear hr
   revert hd
   split <;> intro hd
   all_goals first
     | exact trivial
     | exact hd
     | exact (ya2 _ _ _ _ _ _).mono hd
     | exact (zal _ _ _).mono hd
     | (split <;> exact hd)
theorem wbv (p:Program) (main:Bool) (fr:Frame) (callers:List Frame) (dying:Option Dying) (w:World):gW w.drawn (unwind p main fr callers dying w):=by
 unfold unwind
 split
 · generalize hr:Sem.runT p (Instr.takeDeferred _) w #[]=x;obtain ⟨r,es⟩:=x;have hd:=uaj hr;dsimp only;refine zak ?_;clear hr
   revert hd
   split <;> intro hd
   · exact hd
   · exact trivial
 · exact zba _ _ _ _ _ _
 · split
   · exact trivial
   · split
     · exact trivial
     · split
       · exact pj _
       · split
         · split
           · exact pj _
           · split
             · rename_i e; exact zx e
             · exact trivial
             · exact trivial
         · split
           · exact zau _ _ _ _
           · exact trivial
   · split
     · exact yal _ _ _ _ _ _ _
     · generalize hr:Sem.runT p (results _ _) w #[]=x;obtain ⟨r,es⟩:=x;have hd:=uaj hr;dsimp only;refine zak ?_;clear hr
       revert hd
       split <;> intro hd
       · exact (yal _ _ _ _ _ _ _).mono hd
       · exact trivial
       · exact trivial
theorem ycb (p:Program) (fr:Frame) (callers:List Frame) (dying:Option Dying) (g:Nat) (w:World):gW w.drawn (early p fr callers dying g w):=by
 have notYet:∀ (w0 w:World),w0.drawn<=w.drawn->gW w0.drawn (match w.heap[g]? with
  | some (.pending c elem) =>
    GStep.go { frame:=fr,callers,status:=.running,dying } { w with heap:=w.heap.setIfInBounds g (.cells c elem) }
  | _ => .ended (.stuck "early: the variable does not wait" (fr.pos p)) w) := by
  intro w0 w h
  split
  · exact h
  · exact trivial
 unfold early;dsimp only
 split
 · exact notYet w w (pj _)
 · split
   · exact trivial
   · split
     · exact notYet w w (pj _)
     · split
       · exact notYet w w (pj _)
       · split
         · exact trivial
         · exact pj _
         · exact trivial
         · exact notYet w w (pj _)
         · split
           · exact pj _
           · split
             · exact notYet w w (pj _)
             · split
               · rename_i e; exact notYet w _ (zx e)
               · rename_i e; exact zx e
               · exact trivial
theorem kal (p:Program) (listen:Bool) (fr:Frame) (callers:List Frame) (dying:Option Dying) (s:Sem Next) (w:World):gW w.drawn (stepG.apply p listen fr callers dying s w):=by
 unfold stepG.apply;dsimp only;generalize hr:(if listen=true then s.runT p w #[] else (s.run p w,#[]))=x;have hd:w.drawn<=(uby x.1).drawn:=by
  rw [<- hr]
  split
  · exact qau p s w #[]
  · exact yay p s w
 obtain ⟨r,es⟩:=x;dsimp only at hd ⊢;refine zak ?_;clear hr
 revert hd
 split <;> intro hd
 all_goals first
   | exact trivial
   | exact hd
   | exact (ya2 _ _ _ _ _ _).mono hd
   | exact (zal _ _ _).mono hd
   | exact (ycb _ _ _ _ _ _).mono hd
   | (refine ga1 ((zal _ _ _).mono hd) hd)
   | (split <;> exact hd)
theorem zcj (p:Program) (listen:Bool) (fr:Frame) (callers:List Frame) (dying:Option Dying) (w:World):gW w.drawn (stepG.oper p listen fr callers dying w):=by
 unfold stepG.oper
 split
 · exact trivial
 · split
   · exact kal _ _ _ _ _ _ _
   · exact kal _ _ _ _ _ _ _
theorem uck (p:Program) (main listen:Bool) (fr:Frame) (callers:List Frame) (dying:Option Dying) (w:World):gW w.drawn (stepG.exec p main listen fr callers dying w):=by
 have leave:∀ jump:Option Code,gW w.drawn (match fr.roundOf with
  | none => if jump matches none | some .ret then .go { frame := { fr with mode := .returning }, callers, status := .running, dying } w else .ended (.stuck "exit, goto: no such block or label" (fr.pos p)) w
  | some l =>
    let (r,es):=(Instr.endRound l jump).runT p w #[]
    GStep.after (seen p fr.fn es) <| match r with
    | .ok v w=>doReturn p main fr callers dying v w
    | .halt _ w => .ended (.stuck "range over a function: no such loop" (fr.pos p)) w) := by
  intro jump
  split
  · exact ga1 (pj _) trivial
  · generalize hr:Sem.runT p (Instr.endRound _ jump) w #[]=x;obtain ⟨r,es⟩:=x;have hd:=uaj hr;dsimp only;refine zak ?_;clear hr
    revert hd
    split <;> intro hd
    · exact (yal _ _ _ _ _ _ _).mono hd
    · exact trivial
 unfold stepG.exec;dsimp only
 split
 all_goals first
   | exact pj _
   | exact trivial
   | exact leave none
   | exact leave (some .ret)
   | exact kal _ _ _ _ _ _ _
   | (refine xcf ?_ (fun _=>pj _)
      split
      · exact ga1 (pj _) trivial
      · refine zak ?_;generalize hr:Sem.runT p (Instr.endRound _ _) w #[]=x;have hd:=uaj (r:=x.1) (es':=x.2) hr;clear hr;obtain ⟨r,es⟩:=x;dsimp only at hd ⊢
        revert hd
        split <;> intro hd
        · exact (yal _ _ _ _ _ _ _).mono hd
        · exact trivial)
   | exact xcf trivial (fun _=>kal _ _ _ _ _ _ _)
   | exact ga1 (zcj _ _ _ _ _ _) (pj _)
   | (split <;> first | exact pj _ | exact trivial)
   | (refine ga1 (pj _) ?_
      split
      · rename_i e; exact zx e
      · exact trivial)
   | skip
 all_goals refine zak ?_
 · generalize hr:Sem.runT p (Instr.enterLoop _ _ _ _ _ _) w #[]=x;have hd:=uaj (r:=x.1) (es':=x.2) hr;clear hr;obtain ⟨r,es⟩:=x;dsimp only at hd ⊢
   revert hd
   split <;> intro hd
   · exact (kal _ _ _ _ _ _ _).mono hd
   · exact trivial
 · generalize hr:Sem.runT p (Instr.endLoop _) w #[]=x;have hd:=uaj (r:=x.1) (es':=x.2) hr;clear hr;obtain ⟨r,es⟩:=x;dsimp only at hd ⊢
   revert hd
   split <;> intro hd
   · exact hd
   · exact hd
   · exact trivial
theorem ub7 (p:Program) (main:Bool) (g:Goroutine) (w:World) (listen:Bool):gW w.drawn (stepG p main g w listen):=by
 unfold stepG;dsimp only
 split
 · exact gcu _ _ _ _
 · exact uck _ _ _ _ _ _ _
 · exact wbv _ _ _ _ _ _
def sW (n : Nat) : Stepped -> Prop
 | .next m=>n<=m.world.drawn
 | .ended ..=>True
theorem sW.mono {n m:Nat} {s:Stepped} (h:sW n s) (hm:m<=n):sW m s:=by
 cases s <;> first | exact trivial | exact py hm h
theorem gbi {rest:Rest} {cases:Array CommCase} {w w':World} (h:waitingAt rest cases w=some w'):w'.drawn=w.drawn:=by
 unfold waitingAt at h
 split at h
 · split at h
   · injection h with h; rw [<- h]
   · cases h
 · injection h with h; rw [h]
theorem vcl (p:Program) (rest:Rest) (gs:Array Goroutine) (i:Nat) (g:Goroutine) (cases:Array CommCase) (blocking:Bool) (shape:CommShape) (w:World):sW w.drawn (communicate p rest gs i g cases blocking shape w).1:=by
 unfold communicate;dsimp only
 split
 · exact trivial
 · split
   · split
     · split
       · rename_i e; exact Nat.le_of_eq (gbi e).symm
       · exact trivial
     · exact pj _
   · split
     · exact trivial
     · rename_i e;have hd:=zx e;clear e
       split
       · split
         · rename_i e;have h2:=ucj e;exact py hd h2
         · exact trivial
       · exact hd
       · exact hd
       · split
         · exact hd
         · split
           · rename_i e;have h2:=zx e;exact py hd h2
           · exact trivial
       · exact hd
       · exact hd
       · exact trivial
theorem xcb (w:World) (c:Nat):(drain w c).2.drawn=w.drawn:=by
 unfold drain
 split <;> rfl
theorem wa7 (m:Machine) (k:Nat) (t:Timer) (a b:Nat):(retime m k t a b).2.world.drawn=m.world.drawn:=by
 have h:(match t.chan with | some c=>drain m.world c | none=>(false,m.world)).2.drawn=m.world.drawn:=by
  split
  · exact xcb _ _
  · rfl
 exact h
theorem kbu {m m':Machine} {op:TimerOp} {v:Value} (h:timerOp m op=.ok (v,m')):m'.world.drawn=m.world.drawn:=by
 have hn:∀ (m m2:Machine) (var:Addr) (f:Nat->Timer->Value × Machine),(∀ k t,(f k t).2.world.drawn=m2.world.drawn)->timerOp.named m var f=.ok (v,m')->m'.world.drawn=m2.world.drawn:=by
  intro m m2 var f hf h;unfold timerOp.named at h
  split at h
  · injection h with h
    have hs:_=m':=congrArg Prod.snd h;rw [<- hs];exact hf _ _
  · cases h
 unfold timerOp at h
 split at h
 · split at h
   · injection h with h; injection h with _ h; rw [<- h]; rfl
   · split at h
     · split at h
       · cases h
       · injection h with h; injection h with _ h; rw [<- h]
     · cases h
 · exact hn _ m _ _ (fun k t=>wa7 _ _ _ _ _) h
 · split at h
   · rename_i m2 e;have:=hn _ m2 _ _ (fun k t=>wa7 _ _ _ _ _) h;rw [this];unfold timerOp.opened at e
     split at e
     · split at e
       · injection e with e; rw [<- e]
       · cases e
     · injection e with e; rw [e]
   · cases h
 · injection h with h; injection h with _ h; rw [<- h]; rfl
theorem xb8 (p:Program) (m:Machine) (k:Nat):sW m.world.drawn (serve p m k):=by
 unfold serve
 split
 · exact trivial
 · exact pj _
 · dsimp only
   split
   · exact trivial
   · exact pj _
theorem jbl (p:Program) (gs:Array Goroutine) (rest:Rest) (w:World):sW w.drawn (look p gs rest w):=by
 unfold look
 split
 · dsimp only
   split
   · exact trivial
   · split
     · exact trivial
     · split
       · rename_i e;have hd:=zx e;exact hd
       · exact trivial
       · exact trivial
 · exact trivial
theorem xbp (p:Program) (m:Machine) (i:Nat) (listen:Bool):sW m.world.drawn (Go.runT p m i listen).1:=by
 unfold Go.runT;dsimp only;have hg:=ub7 p (i == 0) (m.gs.swapAt! i { (default:Goroutine) with status:=.finished }).1 m.world listen;generalize stepG p (i == 0) (m.gs.swapAt! i { (default:Goroutine) with status:=.finished }).1 m.world listen=s at hg ⊢;cases s with
 | ended o w es=>exact trivial
 | comm g cases blocking shape w es=>exact (vcl _ _ _ _ _ _ _ _ _).mono hg
 | go g w es=>exact hg
 | spawn g child w es=>exact hg
 | count g w es =>
   dsimp only
   split
   · exact trivial
   · exact hg
 | alone g on w es=>exact hg
 | collect g w es=>exact (jbl _ _ _ _).mono hg
 | watch g w es=>exact hg
 | newcoro g c d w es=>exact hg
 | coroswitch g c exit w es =>
   dsimp only
   split
   · exact hg
   · exact hg
   · exact trivial
 | timer g op w es =>
   dsimp only
   split
   · rename_i v m' e;have:=kbu e;exact py hg (Nat.le_of_eq this.symm)
   · exact hg
   · exact trivial
   · exact trivial
def mW (n : Nat) : Move -> Prop
 | .goroutine m _=>n<=m.world.drawn
 | .machine s _=>sW n s
theorem mW.mono {n m:Nat} {s:Move} (h:mW n s) (hm:m<=n):mW m s:=by
 cases s with
 | goroutine m i=>exact py hm h
 | machine s ops=>exact sW.mono h hm
theorem wa0 (p:Program) (m:Machine):mW m.world.drawn (askOn p m):=by
 have pick:∀ (n:Nat) (rs:List Nat) (m:Machine),n<=m.world.drawn->mW n (match (choose (.sched rs.length)).run p m.world with
  | .halt _ w => Move.machine (.ended (.stuck "sched" "") w)
  | .ok k world =>
    if rs.length<=1 then .goroutine { m with world } (rs.getD k 0) else
    match (choose (.extern "sched.slice" 65536)).run p world with
    | .halt _ w => .machine (.ended (.stuck "sched.slice" "") w)
    | .ok n world=>.goroutine { m with world,rest:={ m.rest with slice:=if n=0 then none else some (rs.getD k 0,n) } } (rs.getD k 0)):=by
  intro n rs m hm
  split
  · exact trivial
  · rename_i e;have h1:=zx e
    split
    · exact py hm h1
    · split
      · exact trivial
      · rename_i e;have h2:=zx e;exact py hm (py h1 h2)
 unfold askOn;dsimp only
 split
 · exact trivial
 · rename_i e;have h1:=zx e;clear e
   split
   · exact sW.mono (xb8 p _ _) h1
   · split
     · split
       · exact h1
       · split
         · exact h1
         · split <;> exact trivial
     · split
       · refine pick _ _ { m with world:=_ } ?_;exact h1
       · split
         · exact trivial
         · rename_i e;have h2:=zx e;refine pick _ _ { m with world:=_ } ?_;exact py h1 h2
         · rename_i e;have h2:=zx e;exact py h1 h2
         · rename_i e;have h2:=zx e;refine pick _ _ (Machine.advanceTo { m with world:=_ } _) ?_;exact py h1 h2
theorem qbn (p:Program) (m:Machine):mW m.world.drawn (ask p m):=by
 unfold ask
 split
 · split
   · exact trivial
   · rename_i e;have h1:=zx e;have h2:=jbl p m.gs m.rest
     split
     · rename_i w1 _ m' e2;have h3:=h2 w1;rw [e2] at h3;exact (wa0 p m').mono (py h1 h3)
     · rename_i w1 _ e2;exact (h2 w1).mono h1
   · rename_i e;have h1:=zx e;exact (wa0 p _).mono h1
 · exact wa0 p m
theorem qcj (p:Program) (m:Machine):mW m.world.drawn (move p m):=by
 unfold move
 split
 · split
   · exact pj _
   · exact trivial
 · split
   · split
     · exact pj _
     · exact qbn p _
   · exact qbn p m
theorem wcg (p:Program) (m:Machine):sW m.world.drawn (step p m):=by
 unfold step stepT;have h:=qcj p m
 split
 · rename_i m' i e;rw [e] at h;exact (xbp p m' i _).mono h
 · rename_i s ops e;rw [e] at h;exact h
theorem vb7 {p:Program} {m m':Machine} (h:Steps p m m'):m.world.drawn<=m'.world.drawn:=by
 obtain ⟨n,hn⟩:=h
 induction n generalizing m with
 | zero=>injection hn with hn; rw [hn]; exact pj _
 | succ n ih =>
   unfold runN at hn;have h1:=wcg p m
   split at hn
   · rename_i m1 e;rw [e] at h1;exact py h1 (ih hn)
   · rename_i e;exact absurd hn (by intro h; exact e _ h)
theorem xcc {P:Program} {f:FuncId} {args:Array Value} {w:World} {R:Ending->World->Prop} (h:Calls P f args w R):Calls P f args w fun e w'=>R e w'/\(∀ v,e=.returned v->w.drawn<=w'.drawn):=fun cs=>by
 obtain ⟨e,w',fr,hr,hc,h1,h2⟩:=h cs;refine ⟨e,w',fr,⟨hr,fun v ev=>?_⟩,hc,h1,h2⟩;subst ev;exact vb7 hc
theorem Ext.qbM {w w':World} (hx:Ext w w') (hd:w.drawn<=w'.drawn):∃ q os',w'=Go.Sort.grow (w.drewN q) os':=by
 refine ⟨w'.drawn - w.drawn,w'.heap.extract w.heap.size w'.heap.size,?_⟩;have hs:=hx.size;have hh:w'.heap=w.heap ++ w'.heap.extract w.heap.size w'.heap.size:=by
  refine Array.ext (by simp; omega) fun i h1 h2=>?_
  by_cases hi:i < w.heap.size
  · rw [Array.getElem_append_left hi];have:=hx.below.block i hi;rw [pbc h1,pbc hi] at this;exact Option.some.inj this
  · rw [Array.getElem_append_right (by omega),Array.getElem_extract]
    congr 1
    omega
 have FK:w'.drawn=w.drawn+(w'.drawn - w.drawn):=by omega
 have e1:=hx.below.os;have e2:=hx.below.tape;have e3:=hx.below.output;obtain ⟨h',t',d',o',p'⟩:=w';obtain ⟨h0,t0,d0,o0,p0⟩:=w;simp only at *;subst e1 e2 e3;unfold Go.Sort.grow World.drewN;simp only [World.mk.injEq,true_and,and_true];exact ⟨hh,FK⟩
theorem xcm {P:Program} {f:FuncId} {args:Array Value} {w:World} {v:Value} (h:Calls P f args w fun e w'=>e=.returned v/\Ext w w'):Calls P f args w fun e w'=>e=.returned v/\∃ q os',w'=Go.Sort.grow (w.drewN q) os':=
 (xcc h).mono fun _ _ ⟨⟨he,hx⟩,hd⟩=>⟨he,hx.qbM (hd v he)⟩
open Go.RowKit Go.Sort Go.Shelf
theorem kdd (m n:Mo) (w:World):(Op.equalIn 10000 61 (.agg #[.int .i64 m.a,.int .i64 m.b,.int .i64 m.c,.int .i64 m.d]) (.agg #[.int .i64 n.a,.int .i64 n.b,.int .i64 n.c,.int .i64 n.d])).run Tryz.prog w=.ok (decide (m=n)) w:=zbr m n w
attribute [local go_sem] kdd
theorem vcv {W:World} {b b':Bool} {B B':Option Addr} {n c n' c':Nat} {m m':Mo} {z z':Int} (h:qm W (.agg #[.bool b,.slice B n c]) z) (h':qm W (.agg #[.bool b',.slice B' n' c']) z') :
 Calls Tryz.prog 76 #[.agg (tmC b (.slice B n c) m).toArray,.agg (tmC b' (.slice B' n' c') m').toArray] W fun e w'=>e=.returned (.int .i64 (gab (z,m) (z',m')))/\Ext W w':=by
 have HM:=hid (fun W'=>uaz m m' W');have HC:=hid (fun (W':World) (hx:Ext W W')=>jcf _ _ z z' _ _ W' (h.ext hx).raw (h'.ext hx).raw);have HG:Hid (∀ (W':World) q os,Ext W' (Go.Sort.grow (W'.drewN q) os)):=hid (fun W' q os=>by
  refine ⟨rfl,rfl,rfl,by simp [Go.Sort.grow],fun k hk=>?_⟩;simp only [Go.Sort.grow]
  exact Array.getElem?_append_left (xs:=W'.heap) hk)
 have HX:Hid (∀ o o',Ext W ((W.alloc o).alloc o')):=hid (fun o o'=>((Ext.refl W).alloc _).alloc _);unfold tmC moV at *;clear h h'
 by_cases hm:m=m'
 · have hv:gab (z,m) (z',m')=uh z z':=by unfold gab; exact if_pos hm
   rw [hv];subst hm;clear hv;go_enter Tryz.func76,Tryz.ntmps76;go_wp2_with fail;refine (HC.out _ (HX.out _ _)).mono ?_;rintro e w1 ⟨rfl,x1⟩;have HF:=hid ((HX.out _ _).trans x1);clear x1;go_wp2_with fail;go_ret;exact ⟨rfl,HF.out⟩
 · have hv:gab (z,m) (z',m')=vag m m':=by unfold gab; exact if_neg hm
   rw [hv];have au:decide (m=m')=false:=by simpa using hm
   clear hv;go_enter Tryz.func76,Tryz.ntmps76;go_wp2_with fail;refine (HM.out _).mono ?_;rintro e w1 ⟨rfl,q,os,rfl⟩;go_wp2_with fail;go_ret;exact ⟨rfl,(HX.out _ _).trans (HG.out _ q os)⟩
theorem ycc {w:World} {l m:Sp} {A B:Option Addr} {c c':Nat} (hl:zas w none A l) (hm:zas w none B m) (hn:l.length<=9223372036854775807) (Xk:m.length<=9223372036854775807) :
 Calls Tryz.prog 75 #[.slice A l.length c,.slice B m.length c',.func (.func 76) #[] #[]] w (vbi (ui l m) w):=by
 have HL:=hid hl;have HM:=hid hm;clear hl hm;go_enter Tryz.func75,Tryz.ntmps75;go_wp2_with fail
 go_loopw [13] (fun iv wr=>∃ k:Nat,k<=l.length/\k<=m.length/\iv=.int .i64 k/\Hid (ui (l.drop k) (m.drop k)=ui l m/\Ext w wr)) (fun iv _=>l.length - (intOf iv).toNat)
 case atStart=>exact ⟨0,pZ _,pZ _,rfl,hid ⟨rfl,Ext.refl w⟩⟩
 case round =>
  obtain ⟨k,hk,lX,rfl,HR⟩:=hrel;have HX:=hid HR.out.2;have HE:=hid HR.out.1;clear HR
  by_cases af:k < l.length
  · obtain ⟨ad,b,C,n,cc,rfl,hb,kL,eu⟩:=HL.out.ext HX.out k af
    by_cases yN:k < m.length
    · obtain ⟨ad',b',C',n',cc',rfl,eP,QE,Ub⟩:=HM.out.ext HX.out k yN;have hdr:=gcl k af yN;have hbd:=yc7 l[k] m[k];have DV:=hid (fun (W':World) (hx:Ext wr W')=>vcv (m:=l[k].2) (m':=m[k].2) (eu.ext hx) (Ub.ext hx));have Yv:=hid (fun (W':World) (hx:Ext wr W')=>QE.ext hx (by rw [ja]; exact eP));obtain ⟨v,hv⟩:=n_m (gab l[k] m[k]);have e1:gab (l[k].1,l[k].2) (m[k].1,m[k].2)=v:=hv;rw [e1] at DV;rw [hv] at hdr hbd;have Jv:=hid hdr;obtain ⟨a0,a1,a2,a3,a4,a5⟩:=kL;unfold tmC at DV;clear hdr eu Ub QE hv e1;generalize l[k].2=mk at *;generalize m[k].2=mk' at *;have RS:¬ m.length<=k:=by omega
      obtain ⟨V1,jH⟩:=n_m (wr.alloc (.cells #[.bool b,.slice C n cc,.int .i64 mk.a,.int .i64 mk.b,.int .i64 mk.c,.int .i64 mk.d] 76));have x1:Ext wr V1:=by rw [<- jH]; exact (Ext.refl wr).alloc _
      obtain ⟨V2,rD⟩:=n_m (V1.alloc (.cells #[.bool b',.slice C' n' cc',.int .i64 mk'.a,.int .i64 mk'.b,.int .i64 mk'.c,.int .i64 mk'.d] 76));have x2:Ext wr V2:=by rw [<- rD]; exact x1.alloc _
      obtain ⟨g1,jQ⟩:=n_m (wr.heap.size);obtain ⟨g2,dR⟩:=n_m (V1.heap.size);obtain ⟨p0,p1,p2,p3,p4,p5⟩:vam V2 ⟨g1,0,none⟩ b (.slice C n cc) mk:=by
       have h1:vam V1 ⟨g1,0,none⟩ b (.slice C n cc) mk:=by
        rw [<- jH,<- jQ];refine ⟨?_,?_,?_,?_,?_,?_⟩ <;> simp [go_sem]
       have h2:Ext V1 V2:=by rw [<- rD]; exact (Ext.refl V1).alloc _
       exact h1.ext h2 (by show g1 < _; rw [<- jH,<- jQ]; simp)
      obtain ⟨q0,q1,q2,q3,q4,q5⟩:vam V2 ⟨g2,0,none⟩ b' (.slice C' n' cc') mk':=by
       rw [<- rD,<- dR];refine ⟨?_,?_,?_,?_,?_,?_⟩ <;> simp [go_sem]
      obtain ⟨d0,d1,d2,d3,d4,d5⟩:=Yv.out _ x1;have aP:=DV.out _ x2;have uI:=hid x2;have bH:=hid aP;clear x1 x2 aP Yv DV;go_wp2_with fail;refine bH.out.mono ?_;clear jH rD jQ dR p0 p1 p2 p3 p4 p5 q0 q1 q2 q3 q4 q5 d0 d1 d2 d3 d4 d5 a0 a1 a2 a3 a4 a5;rintro e w3 ⟨rfl,x3⟩;have Jb:=hid (HX.out.trans (uI.out.trans x3));clear x3
      by_cases Bq:v=0
      · have HN:Hid (ui (l.drop (k+1)) (m.drop (k+1))=ui l m):=hid (by
         have h1:=Jv.out;rw [if_pos Bq] at h1
         exact h1.symm.trans HE.out)
        subst Bq;go_wp2_with fail
        go_roundw
        case rel=>exact ⟨k+1,by omega,by omega,by go_num,hid ⟨HN.out,Jb.out⟩⟩
        case measure=>simp [intOf]; omega
      · have HN:Hid (ui l m=v):=hid (by
         have h1:=Jv.out;rw [if_neg Bq] at h1
         exact HE.out.symm.trans h1)
        have hvb:(v != 0)=true:=by simpa using Bq
        clear Jv Bq;go_wp2_with fail;go_ret;exact ⟨by rw [HN.out]; rfl,Jb.out⟩
    · obtain ⟨a0,a1,a2,a3,a4,a5⟩:=kL;have HN:Hid (ui l m=1):=hid (by
       have e:m.drop k=[]:=ub (by omega);rw [<- HE.out,sh af,e]
       simp [ui])
      have RS:m.length<=k:=by omega
      have HA:Hid (∀ o,Ext wr (wr.alloc o)):=hid (fun o=>(Ext.refl wr).alloc o);clear eu;generalize l[k].2=mk at *;go_wp2_with fail;go_ret;exact ⟨by rw [HN.out]; rfl,HX.out.trans (HA.out _)⟩
  · obtain rfl:k=l.length:=by omega
    by_cases Xn:l.length < m.length
    · have HN:Hid (ui l m=-1):=hid (by
       have e:l.drop l.length=[]:=ub (pj _);rw [<- HE.out,e,sh Xn]
       simp [ui])
      go_wp2_with fail;go_ret;exact ⟨by rw [HN.out]; rfl,HX.out⟩
    · have HN:Hid (ui l m=0):=hid (by
       have e:l.drop l.length=[]:=ub (pj _);have e2:m.drop l.length=[]:=ub (by omega);rw [<- HE.out,e,e2]
       simp [ui])
      go_wp2_with fail;go_ret;exact ⟨by rw [HN.out]; rfl,HX.out⟩
theorem jbt {w:World} {l m:Sp} (v u:Value) (L:Nat) (hl:SpV w none v l) (hm:SpV w none u m) (dl:∀ x ∈ l,(dg x.1.natAbs).length<=L) (dm:∀ x ∈ m,(dg x.1.natAbs).length<=L) (hL:L<=1099511627776) (nl:(dg (zg l)).length<=1099511627776) (nm:(dg (zg m)).length<=1099511627776) (ll:l.length<=1099511627776) (lm:m.length<=1099511627776) :
 Calls Tryz.prog 47 #[v,u] w (vbi (ui (qg l) (qg m)) w):=by
 have DK:=hid (uad (ko:=none) L hl (fun z ⟨x,hx,e⟩=>by rw [<- e]; exact dl x hx) (by omega) ll);have Jn:=hid (fun (W':World) (hx:Ext w W')=>uad (ko:=none) L (hm.ext hx) (fun z ⟨x,hx,e⟩=>by rw [<- e]; exact dm x hx) (by omega) lm);obtain ⟨A0,c0,rfl,-⟩:=hl;obtain ⟨A1,c1,rfl,-⟩:=hm;clear dl dm nl nm ll lm hL;generalize qg l=l' at *;generalize qg m=m' at *;generalize l.length=n0 at *;generalize m.length=n1 at *;go_enter Tryz.func47,Tryz.ntmps47;go_wp2_with fail;refine DK.out.mono ?_;rintro e w1 ⟨v1,rfl,h1,x1⟩;have H1:=hid h1;have Jz:=hid (Jn.out _ x1);have X1:=hid x1;obtain ⟨A2,c2,rfl,-⟩:=h1;clear x1;go_wp2_with fail;refine Jz.out.mono ?_;rintro e w2 ⟨v2,rfl,h2,x2⟩;have h1:=H1.out.ext x2;obtain ⟨A3,c3,rfl,k1,k2,jZ⟩:=h2;obtain ⟨A2',c2',e9,k3,k4,tq⟩:=h1;injection e9 with e1 e2 e3
 subst e1 e3;have oG:=hid (ycc (c:=c2) (c':=c3) tq jZ (by omega) (by omega));have X2:=hid (X1.out.trans x2);clear e2 x2 tq jZ Jz;go_wp2_with fail;refine oG.out.mono ?_;rintro e w3 ⟨rfl,x3⟩;have X3:=hid (X2.out.trans x3);clear x3;go_wp2_with fail;go_ret;exact ⟨rfl,X3.out⟩
theorem ucp {w:World} {l m:Sp} (v u:Value) (L:Nat) (hl:SpV w none v l) (hm:SpV w none u m) (dl:∀ x ∈ l,(dg x.1.natAbs).length<=L) (dm:∀ x ∈ m,(dg x.1.natAbs).length<=L) (hL:L<=1099511627776) (nl:(dg (zg l)).length<=1099511627776) (nm:(dg (zg m)).length<=1099511627776) (ll:l.length<=1099511627776) (lm:m.length<=1099511627776) :
 Calls Tryz.prog 48 #[v,u] w (wap (decide (qg l=qg m)) w):=by
 have HC:=hid (jbt v u L hl hm dl dm hL nl nm ll lm);have hz:(ui (qg l) (qg m) == 0)=decide (qg l=qg m):=by
  have:=ua5 (qg l) (qg m)
  by_cases h:qg l=qg m
  · rw [decide_eq_true h,this.2 h]; rfl
  · rw [decide_eq_false h,beq_eq_false_iff_ne]; exact fun e=>h (this.1 e)
 rw [<- hz];clear hz dl dm nl nm ll lm hL hl hm;generalize ui (qg l) (qg m)=r at *;go_enter Tryz.func48,Tryz.ntmps48;go_wp2_with fail;refine HC.out.mono ?_;rintro e w1 ⟨rfl,x1⟩;have X1:=hid x1;clear x1;go_wp2_with fail;go_ret;exact ⟨rfl,X1.out⟩
end Go.Proofs.YtcepajijiabkmaaGreat

namespace Go.Proofs.YtcepajijiabkmaaGreat
open Lib (hid)
open Go.RowKit
def ya1 (P:Value->Prop) (W:World) (v:Value):Prop:=∀ R cur T fr,v.ownBlock=some R->W.heap[R]?=some (.cells cur T fr)->∀ u ∈ cur.toList,P u
theorem ya1.ext {P:Value->Prop} {W W':World} {v:Value} (h:ya1 P W v) (hx:∀ R,v.ownBlock=some R->W'.heap[R]?=W.heap[R]?):ya1 P W' v:=fun R cur T fr e hb=>h R cur T fr e ((hx R e).symm.trans hb)
theorem ycn {P:Value->Prop} {S T:TypeId} {k bytes:Nat} {Z:Value} (R:vap S T k bytes Z) (hZ:∀ u ∈ Z.cells.toList,P u) (n:Nat):∀ u ∈ (Builtin.zeroCells Z.cells n).toList,P u:=by
 intro u hu;unfold Builtin.zeroCells at hu;simp only [paJ,pS] at hu;obtain ⟨i,-,rfl⟩:=hu;have hp:=R.pos;have af:i % Z.cells.size < Z.cells.size:=tg _ (by rw [R.cells]; exact hp);rw [getElem!_pos Z.cells (i % Z.cells.size) af];exact hZ _ (by simp)
theorem all_append {P : Value -> Prop} {S T : TypeId} {k bytes : Nat} {Z : Value} (R : vap S T k bytes Z) (hZ : ∀ u ∈ Z.cells.toList, P u) {base : Nat} {W : World} {ov : Value} {n : Nat} {xs : List Value} (h : jl T k base W ov n xs) (hP : ya1 P W ov) (di : base <= W.heap.size) (a : Addr) (m c : Nat) (news : List Value)
 (oI:news.length=m * k) (Cc:∀ j u,news[j]?=some u->W.cell? (a.add j)=some u) (h1:∀ u ∈ news,u.oneCell'=true/\uo u=false/\P u) (hm:0 < m) (hlen:(n+m) * bytes<=140737488355328) (hlen2:n+m<=140737488355328) (ty:TypeId) {v4:Value} {w4:World}
 (ak:(Builtin.append_ #[S,S] ty #[ov,.slice (some a) m c]).run Tryz.prog W=.ok v4 w4):ya1 P w4 v4:=by
 obtain ⟨o1,bP⟩:=h;obtain ⟨i0,hi,iV,iJ,iI⟩:=info_parts R.info;have hk:=R.pos;have fin:∀ (xs:List Value) (q:Nat) (w5:World) (l cap:Nat),(∀ u ∈ xs,P u)->w5.heap.size=W.heap.size->ya1 P (w5.alloc (.cells (xs.toArray ++ news.toArray ++ Builtin.zeroCells Z.cells q) T)) (.slice (some ⟨W.heap.size,0,none⟩) l cap):=by
  intro xs q w5 l cap wI h5 R' cur T' fr hR hb u hu;have L8:W.heap.size=R':=by simpa [Value.ownBlock] using hR
  rw [<- L8,<- h5,heap_alloc_new] at hb;injection hb with hb
  injection hb with hb
  rw [<- hb] at hu;simp only [Array.toList_append,pT] at hu;rcases hu with (hu | hu) | hu
  · exact wI u hu
  · exact (h1 u hu).2.2
  · exact ycn R hZ q u hu
 have hold:∀ g cur,ov.ownBlock=some g->W.heap[g]?=some (.cells cur T (0,0))->∀ u ∈ cur.toList,P u:=fun g cur e hb=>hP g cur _ _ e hb
 have jV:m<=m * bytes\/bytes=0:=by
  rcases tU bytes with h | h
  · exact .inr h
  · exact .inl (US _ h)
 rcases o1.2 with ⟨rfl,gX⟩ | ⟨g,cap,cur,rfl,FQ,hg,RF,gY,fD,wK⟩
 · subst gX;have hr:=run_append_nil (P:=Tryz.prog) W S ty T i0 _ R.und hi iV a m c news (by rw [iJ]; exact oI) Cc hm (by omega) (by rw [iI]; rw [ri] at hlen; omega);rw [ak] at hr;injection hr with e1 e2
   subst e1 e2;have:=fin [] (grownCap W m 0 T - m) W.drew m (grownCap W m 0 T) (by simp) rfl;simpa using this
 · by_cases rX:n+m<=cap
   · have aF:n * k+news.length<=cur.size:=by
      rw [fD,oI,<- r5];exact pE _ rX
     have hr:=run_append_room (P:=Tryz.prog) W S ty T i0 R.und hi g n cap cur hg a m c news (by rw [iJ]; exact oI) Cc (fun u hu=>(h1 u hu).1) rX (by rw [iJ]; exact aF);rw [ak] at hr;injection hr with e1 e2
     subst e1 e2;intro R' cur' T' fr hR hb u hu;have L8:g=R':=by simpa [Value.ownBlock] using hR
     rw [<- L8,setRow_heap W g cur _ _ _ hg] at hb;injection hb with hb
     injection hb with hb
     rw [<- hb] at hu;simp only [pT] at hu;rcases hu with (hu | hu) | hu
     · exact hold g cur rfl hg u (tl hu)
     · exact (h1 u hu).2.2
     · exact hold g cur rfl hg u (Sb hu)
   · have hr:=run_append_grow (P:=Tryz.prog) W S ty T i0 _ R.und hi iV ⟨g,0,none⟩ n cap xs (by rw [iJ]; exact o1.1) (o1.cells (g:=g) rfl) a m c news (by rw [iJ]; exact oI) Cc (by omega) (by omega) (growslice_fits (by omega) (by rw [iI]; exact hlen));rw [ak] at hr;injection hr with e1 e2
     subst e1 e2;exact fin xs _ W.drew _ _ (fun u hu=>hold g cur rfl hg u (tl (by rw [wK]; exact hu))) rfl
theorem wc7 {P : Value -> Prop} {S T : TypeId} {k bytes : Nat} {Z : Value} (R : vap S T k bytes Z) (hZ : ∀ u ∈ Z.cells.toList, P u) {base : Nat} {W : World} {ov : Value} {n : Nat} {xs : List Value} (h : jl T k base W ov n xs) (hP : ya1 P W ov) (di : base <= W.heap.size) (news : List Value)
 (oI:news.length=k) (h1:∀ u ∈ news,u.oneCell'=true/\uo u=false/\P u) (hlen:(n+1) * bytes<=140737488355328) (hlen2:n+1<=140737488355328) (ty:TypeId) {v4:Value} {w4:World}
 (ak:(Builtin.append_ #[S,S] ty #[ov,.slice (some ⟨W.heap.size,0,none⟩) 1 1]).run Tryz.prog (W.alloc (.cells news.toArray T))=.ok v4 w4):ya1 P w4 v4:=by
 have hx:Ext W (W.alloc (.cells news.toArray T)):=(Ext.refl W).alloc _;exact all_append R hZ (h.ext hx) (hP.ext fun R hR=>hx.below.block R (h.own hR).2) (by have:=hx.size; omega) ⟨W.heap.size,0,none⟩ 1 1 news (by omega) (fun j u hu=>by
  rw [uu,ri,cell_of_row _ _ j _ _ (0,0) (heap_alloc_new W _)]; simpa using hu) h1 (by omega) hlen hlen2 ty ak
def yb7 (u:Value):Prop:=∃ A n c,u=.slice A n c
theorem zcd : vap 48 23 1 24 (.slice none 0 0) where
 und:=T5
 info:=by kernel_rfl
 cells:=rfl
 pos:=by omega
 nodig:=by intro u hu; simp [Value.cells] at hu; subst hu; rfl
structure jak (base : Nat) (w : World) (v : Value) (l : List Sp) : Prop where
 row:∃ xs:List Value,xs.length=l.length/\jl 23 1 base w v l.length xs/\∀ i (hi:i < xs.length) (hl:i < l.length),SpV w none xs[i] l[i]
 all:ya1 yb7 w v
theorem SpV.xl {W W':World} {v s:Value} {l:Sp} (h:SpV W none s l) (ha:ya1 yb7 W v) (ho:∀ R,v.ownBlock=some R->∃ cur T fr,W.heap[R]?=some (.cells cur T fr)) (hg:W.grownBy W' v.ownBlock) (hn:∀ v ds,jc W v ds->jc W' v ds):SpV W' none s l:=by
 obtain ⟨A,c,rfl,h1,h2,aK⟩:=h;refine ⟨A,c,rfl,h1,h2,fun i hi=>?_⟩;obtain ⟨ad,b,B,n,cc,rfl,hb,ht,hc⟩:=aK i hi;have au:v.ownBlock ≠ some ad.block:=fun e=>by
  obtain ⟨cur,T,fr,hh⟩:=ho _ e;have h0:=ht.1;rw [World.cell?,ja,hh] at h0;have dC:∃ k:Nat,cur[k]?=some (.bool b):=by
   revert h0
   simp only
   split <;> intro h0
   · cases h0
   · exact ⟨_,h0⟩
  obtain ⟨k,hk⟩:=dC;obtain ⟨A',n',c',e'⟩:=ha _ _ _ _ e hh (.bool b) (by
   obtain ⟨yQ,hk2⟩:=rB.1 hk
   rw [<- hk2]; simp)
  cases e'
 have jL:∀ (a:Addr) (u:Value),a.block=ad.block->W.cell? a=some u->W'.cell? a=some u:=fun a u e hu=>(pB (by rw [e]; exact rz hg _ hb (fun e2=>au e2.symm))).trans hu
 obtain ⟨t0,t1,t2,t3,t4,t5⟩:=ht;exact ⟨ad,b,B,n,cc,rfl,px hb hg.size,⟨jL _ _ (ja _ _) t0,jL _ _ (ja _ _) t1,jL _ _ (ja _ _) t2,jL _ _ (ja _ _) t3,jL _ _ (ja _ _) t4,jL _ _ (ja _ _) t5⟩,hc.xl hn⟩
theorem jak.ext {base:Nat} {w w':World} {v:Value} {l:List Sp} (h:jak base w v l) (hx:Ext w w'):jak base w' v l:=by
 obtain ⟨⟨xs,e,g,hs⟩,ha⟩:=h;exact ⟨⟨xs,e,g.ext hx,fun i hi hl=>(hs i hi hl).ext hx⟩,ha.ext fun R hR=>hx.below.block R (g.own hR).2⟩
theorem jak.nil (base:Nat) (w:World):jak base w (.slice none 0 0) []:=⟨⟨[],rfl,jl.nil _ _ _ _,fun i hi=>absurd hi (by simp)⟩,fun R _ _ _ e=>by cases e⟩
theorem jak.len {base:Nat} {w:World} {v:Value} {l:List Sp} (h:jak base w v l):∃ A c,v=.slice A l.length c/\l.length<=c/\c<=9223372036854775807:=by
 obtain ⟨⟨xs,e,g,-⟩,-⟩:=h;exact g.len
theorem jak.push {base:Nat} {W:World} {v u:Value} {l:List Sp} {s:Sp} (h:jak base W v l) (hs:SpV W none u s) (di:base<=W.heap.size) (hlen:l.length < 1099511627776) (ty:TypeId) :
 ∃ v4 w4,(Builtin.append_ #[48,48] ty #[v,.slice (some ⟨W.heap.size,0,none⟩) 1 1]).run Tryz.prog (W.alloc (.cells #[u] 23))=.ok v4 w4/\jak base w4 v4 (l ++ [s])/\W.grownBy w4 v.ownBlock:=by
 obtain ⟨⟨xs,e,g,wI⟩,ha⟩:=h;have hu:yb7 u:=by obtain ⟨A,c,rfl,-⟩:=hs; exact ⟨_,_,_,rfl⟩
 have h1:∀ x ∈ [u],x.oneCell'=true/\uo x=false/\yb7 x:=fun x hx=>by
  rw [pD] at hx;subst hx;obtain ⟨A,n,c,rfl⟩:=hu;exact ⟨rfl,rfl,_,_,_,rfl⟩
 obtain ⟨v4,w4,hr,g4,hg,hn,-⟩:=g.push zcd di [u] rfl (fun x hx=>⟨(h1 x hx).1,(h1 x hx).2.1⟩) (by omega) (by omega) ty;have h4:=wc7 zcd (P:=yb7) (fun x hx=>by simp [Value.cells] at hx; subst hx; exact ⟨_,_,_,rfl⟩) g ha di [u] rfl h1 (by omega) (by omega) ty hr;have ht:∀ (y:Value) (m:Sp),SpV W none y m->SpV w4 none y m:=fun y m hy=>hy.xl ha (yag g.1) hg hn
 refine ⟨v4,w4,hr,⟨⟨xs ++ [u],by simp [e],by simpa using g4,fun i hi hl=>?_⟩,h4⟩,hg⟩
 by_cases Ef:i < l.length
 · rw [uL (by omega),uL (by omega)];exact ht _ _ (wI i (by omega) Ef)
 · have:i=l.length:=by simp at hl; omega
   subst this;rw [tE (by omega),tE (by omega)];simp only [e,Pw,List.getElem_singleton];exact ht _ _ hs
open Go.Sort Go.Shelf
structure SmS (s : Sp) : Prop where
 nf:qg s=s
 dig:∀ x ∈ s,(dg x.1.natAbs).length<=1099511627776
 nrm:(dg (zg s)).length<=1099511627776
 len:s.length<=1099511627776
theorem SmS.nil:SmS []:=⟨by decide,fun x hx=>absurd hx (by simp),py (yf (k:=1) (by simp [zg,B32])) (by omega),by decide⟩
theorem SpV.nil (w:World):SpV w none (.slice none 0 0) []:=⟨none,0,rfl,by simp,by omega,fun i hi=>absurd hi (by simp)⟩
theorem vck {w:World} {l m:Sp} {v u:Value} (hl:SpV w none v l) (hm:SpV w none u m) (sl:SmS l) (sm:SmS m):Calls Tryz.prog 46 #[v,u] w fun e w'=>e=.returned (.int .i64 (ui l m))/\Ext w w':=by
 have HC:=hid (jbt v u 1099511627776 hl hm sl.dig sm.dig (by omega) sl.nrm sm.nrm sl.len sm.len);rw [sl.nf,sm.nf] at HC;obtain ⟨A,c,rfl,-⟩:=hl;obtain ⟨B,d,rfl,-⟩:=hm;clear sl sm;go_enter Tryz.func46,Tryz.ntmps46;go_wp2_with fail;refine HC.out.mono ?_;rintro e w1 ⟨rfl,x1⟩;have X1:=hid x1;clear x1;go_wp2_with fail;go_ret;exact ⟨rfl,X1.out⟩
abbrev xae (w:World):={ x:Value × Sp // SpV w none x.1 x.2/\SmS x.2 }
instance (w:World):Inhabited (xae w):=⟨⟨(.slice none 0 0,[]),SpV.nil w,SmS.nil⟩⟩
def xae.vc {w:World} (x:xae w):Value:=x.1.1
def xae.ord {w:World} (x y:xae w):Int:=ui x.1.2 y.1.2
theorem xae.swo (w : World) : SWO (ltOf (xae.ord (w := w))) where
 irrefl x:=vaa.swo.irrefl x.1.2
 trans x y z:=vaa.swo.trans x.1.2 y.1.2 z.1.2
 ntrans x y z:=vaa.swo.ntrans x.1.2 y.1.2 z.1.2
theorem xae.one (w:World):OneCell (xae.vc (w:=w)):=fun x=>by
 obtain ⟨⟨v,s⟩,⟨A,c,e,-⟩,-⟩:=x;simp only at e;subst e
 rfl
theorem gau {α:Type} [Inhabited α] (enc:α->Value) (W:World) (g n:Nat) (d:Array α) (os:Array Obj):W.grownBy (sortWorld enc W g 0 n d os) (some g):=by
 refine ⟨rfl,rfl,rfl,?_,fun b hb au=>?_⟩
 · simp [sortWorld,grow,putRow,mapBlock,Go.Sort.ahead]
 · have Ky:¬ g=b:=fun e=>au (by rw [e])
   simp [sortWorld,grow,putRow,mapBlock,Go.Sort.ahead,Array.getElem?_append,hb,pae,Ky]
theorem yb3 (v:Value) (w:World):Calls Tryz.prog 94 #[v,.int .i64 0,.int .i64 0,.func (.func 46) #[] #[]] w fun e w'=>e=.returned (.tuple #[])/\w'=w:=by
 go_enter Tryz.func94,Tryz.ntmps94;go_wp2_with fail;refine wp_loop_rounds 1 ?_;rw [rounds_succ];go_wp2_with fail
 go_end0
 exact ⟨rfl,rfl⟩
theorem yb0 (v:Value) (limit:Int) (w:World):Calls Tryz.prog 73 #[v,.int .i64 0,.int .i64 0,.int .i64 limit,.func (.func 46) #[] #[]] w fun e w'=>e=.returned (.tuple #[])/\w'=w:=by
 go_enter Tryz.func73,Tryz.ntmps73;go_wp2_with fail;refine wp_loop_rounds 1 ?_;rw [rounds_succ];go_wp2_with fail;refine (yb3 _ _).mono ?_;rintro e w1 ⟨rfl,rfl⟩;go_wp2_with fail;exact bodyPost_ret (results_none rfl _ _ _) rfl ⟨rfl,rfl⟩
theorem vbu (A:Option Addr) (c:Nat) (w:World):Calls Tryz.prog 45 #[.slice A 0 c,.func (.func 46) #[] #[]] w fun e w'=>e=.returned (.tuple #[])/\w'=w:=by
 have wr:IntKind.u64.wrap (0:Int)=0:=by decide
 have hb:=ga0 0 w (by omega);have HB:=hid hb;clear hb;go_enter Tryz.func45,Tryz.ntmps45;go_wp2_with fail;refine HB.out.mono ?_;rintro e w1 ⟨rfl,rfl⟩;go_wp2_with fail;refine (yb0 _ _ _).mono ?_;rintro e w1 ⟨rfl,rfl⟩;go_wp2_with fail
 go_end0
 exact ⟨rfl,rfl⟩
def vcm (w:World) (v:Value) (L:List Sp):Prop:=∃ A c,v=.slice A L.length c/\L.length<=c/\c<=9223372036854775807/\∀ i (hi:i < L.length),∃ ad u,A=some ad/\ad.block < w.heap.size/\w.cell? (ad.add i)=some u/\SpV w none u L[i]
theorem vcm.ext {w w':World} {v:Value} {L:List Sp} (h:vcm w v L) (hx:Ext w w'):vcm w' v L:=by
 obtain ⟨A,c,rfl,h1,h2,h3⟩:=h;refine ⟨A,c,rfl,h1,h2,fun i hi=>?_⟩;obtain ⟨ad,u,rfl,hb,hc,hs⟩:=h3 i hi;exact ⟨ad,u,rfl,px hb hx.size,(pB (by rw [ja]; exact hx.below.block _ hb)).trans hc,hs.ext hx⟩
theorem zch {base:Nat} {W:World} {v:Value} {l:List Sp} (h:jak base W v l) (hs:∀ s ∈ l,SmS s) (hlen:l.length<=1099511627776):Calls Tryz.prog 45 #[v,.func (.func 46) #[] #[]] W fun e w'=>e=.returned (.tuple #[])/\∃ l':List Sp,l'.Perm l/\(∀ i j (hi:i < l'.length) (hj:j < l'.length),i < j->¬ ui l'[j] l'[i] < 0)/\vcm w' v l'/\W.grownBy w' v.ownBlock:=by
 by_cases h0:l=[]
 · subst h0;obtain ⟨A,c,rfl,h1,h2⟩:=h.len;refine (vbu _ _ _).mono ?_;rintro e w' ⟨he,rfl⟩;exact ⟨he,[],List.Perm.refl _,fun i j hi=>absurd hi (by simp),⟨A,c,rfl,h1,h2,fun i hi=>absurd hi (by simp)⟩,⟨rfl,rfl,rfl,pj _,fun _ _ _=>rfl⟩⟩
 have dw:0 < l.length:=rA.2 h0;obtain ⟨⟨xs,hxl,hg,wI⟩,iU⟩:=h;obtain ⟨g,c,rfl,bY,dP,FQ,sO,bG⟩:=hg.pos dw;have aj:∀ i (hi:i < l.length),W.cell? ⟨g,i,none⟩=some (xs[i]'(by omega)):=fun i hi=>by
  rw [jl.cell hg i (by omega),pr (by omega)]
 obtain ⟨d,hd⟩:∃ d:Array (xae W),d=Array.ofFn (n:=l.length) fun i=>⟨(xs[i.1]'(by have:=i.2; omega),l[i.1]),wI i.1 (by have:=i.2; omega) i.2,hs _ (pt _)⟩:=⟨_,rfl⟩
 have yT:d.size=l.length:=by rw [hd]; simp
 have ik:∀ i (hi:i < l.length),(d[i]!).1=(xs[i]'(by omega),l[i]):=fun i hi=>by
  rw [getElem!_pos d i (by omega)];subst hd;simp
 have qC:d.toList.map (fun x=>x.1.2)=l:=by
  apply sT
  · simp [yT]
  · intro i h1 h2;have:=ik i h2;rw [getElem!_pos d i (by omega)] at this;simp [this]
 clear hd;have hH:Holds xae.vc W g 0 d:=fun j hj=>by
  rw [ri];refine ⟨?_,bG _⟩;rw [aj j (by omega)];have:=ik j (by omega);unfold xae.vc;rw [this]
 have eg:∀ args w,(callFunc 46 args).run Tryz.prog w=.ok (.enter 46 args) w:=enters_of Tryz.func46 (by kernel_rfl) rfl
 have Bv:∀ (n:Nat) (dk:Array (xae W)) (os:Array Obj) (y:Value) (m:Sp),SpV W none y m->SpV (sortWorld xae.vc W g 0 n dk os) none y m:=fun n dk os y m hy =>
  hy.xl (v:=.slice (some ⟨g,0,none⟩) l.length c) iU (yag hg.1) (gau _ W g n dk os) fun y ds hy=>kau hy (v:=.slice (some ⟨g,0,none⟩) l.length c) (gau _ W g n dk os) hg.2 (yag hg.1)
 have TW:CmpLays1 Tryz.prog 46 #[] xae.vc xae.ord g 0 d.size W:=fun m os dk _ x y=>xcm (vck (Bv m dk os _ _ x.2.1) (Bv m dk os _ _ y.2.1) x.2.2 y.2.2)
 have aP:=Go.Proofs.Any.slices_SortFunc (P:=Tryz.prog) (ρ:=vbj) uco xae.vc (xae.one W) xae.ord (xae.swo W) 46 #[] g 0 c d W eg TW hH sO (by omega);rw [yT] at aP;refine aP.mono ?_;rintro e w' ⟨he,d',n,os,⟨hsz,-,jA⟩,kM,rfl⟩;rw [yT] at hsz;have qM:d'.toList.Perm d.toList:=by
  rw [RR (by omega),RR (by omega)] at jA;exact jA
 have XT:=holds_sortWorld xae.vc W g 0 n d d' os sO hH (by omega);have mX:(d'.toList.map (fun x=>x.1.2)).length=l.length:=by simp [hsz]
 have hgi:∀ i (hi:i < (d'.toList.map (fun x=>x.1.2)).length),(d'.toList.map (fun x=>x.1.2))[i]=(d'[i]!).1.2:=fun i hi=>by
  rw [getElem!_pos d' i (by simpa using hi)];simp
 refine ⟨he,d'.toList.map (fun x=>x.1.2),by rw [<- qC]; exact qM.map _,fun i j hi hj oK=>?_,⟨some ⟨g,0,none⟩,c,by rw [mX],by omega,dP,fun i hi=>?_⟩,gau _ W g n d' os⟩
 · have:=kM i j (pZ _) oK (by omega);rw [hgi i hi,hgi j hj];intro h;unfold ltOf xae.ord at this;rw [decide_eq_false_iff_not] at this;exact this h
 · have h1:=(XT i (by omega)).1;rw [ri] at h1;refine ⟨⟨g,0,none⟩,_,rfl,px sO (gau xae.vc W g n d' os).size,by rw [uu,ri]; exact h1,?_⟩;rw [hgi i hi];exact Bv n d' os _ _ (d'[i]!).2.1
theorem wc3 {m:Mo} (h:∀ i:Nat,0 < i->i<=4->m.get i=0):m.Ki=0:=by
 have h1:=h 1 (by omega) (by omega);have h2:=h 2 (by omega) (by omega);have h3:=h 3 (by omega) (by omega);have h4:=h 4 (by omega) (by omega);simp [Mo.get] at h1 h2 h3 h4;simp [Mo.Ki,h1,h2,h3,h4]
theorem gcw {m:Mo} (hn:m.qe) (h:¬ 0 < m.Ki):∀ i:Nat,0 < i->i<=4->m.get i=0:=by
 intro i h0 h4;obtain ⟨n1,n2,n3,n4⟩:=hn;unfold Mo.Ki at h;have:m.d=0/\m.c=0/\m.b=0/\m.a=0:=by
  revert h
  repeat' split
  all_goals omega
 unfold Mo.get
 split
 · omega
 · split
   · omega
   · split <;> omega
theorem ydg {p:Pl} (h:p.Can):0 < qag p.sp ↔ 0 < p.lv:=by
 have h0:=h.qq.1;rw [zc4]
 constructor
 · rintro ⟨x,hx,hl⟩;refine pbb fun hn=>?_
   obtain ⟨-,y,hy,e⟩:=ww hx;have:x.2.Ki=0:=wc3 fun i h1 h4=>by
    rw [<- e,Pl.zj p Mo.one 0 h (by omega) y hy i h1 h4];unfold Mo.get Mo.one
    split <;> (try split) <;> (try split) <;> rfl
   omega
 · intro hp;refine pbb fun hn=>?_
   have:=Pl.ZD (l:=p.sp) (n:=0) (by omega) p.km fun x hx=>gcw (p.km x hx) fun hl=>hn ⟨x,hx,hl⟩
   rw [Pl.vu h] at this;omega
theorem SmS.of {p:Pl} {E D:Nat} (h:Fit p E D) (hE:E<=900) (hD:D<=1099511627776):SmS p.sp:=
 ⟨p.vl,fun x hx=>py (h.qaC x hx) hD,py (yf h.vy) hD,py h.Ke (py (kbo hE) (by decide))⟩
def jaa (l : List Sp) : Nat -> List Sp
 | 0=>[]
 | k+1=>if 0 < k/\l[k - 1]?=l[k]? then jaa l k else jaa l k ++ (l[k]?).toList
theorem zbt {l:List Sp} {k:Nat} (h0:0 < k) (h:l[k - 1]?=l[k]?):jaa l (k+1)=jaa l k:=if_pos ⟨h0,h⟩
theorem ub5 {l:List Sp} {k:Nat} (hk:k < l.length) (h:¬ (0 < k/\l[k - 1]?=l[k]?)):jaa l (k+1)=jaa l k ++ [l[k]]:=by
 have:jaa l (k+1)=jaa l k ++ (l[k]?).toList:=if_neg h;rw [this,pr hk]; rfl
theorem gb5 (l : List Sp) : ∀ k, (jaa l k).length <= k
 | 0=>by simp [jaa]
 | k+1=>by
   have ih:=gb5 l k;unfold jaa
   split
   · omega
   · rw [rh];have:(l[k]?).toList.length<=1:=by cases l[k]? <;> simp
     omega
theorem wbs {l : List Sp} (hs : ∀ i j (hi : i < l.length) (hj : j < l.length), i < j -> ¬ ui l[j] l[i] < 0) : ∀ k, k <= l.length -> AscS (jaa l k) /\ ∀ x, x ∈ jaa l k ↔ x ∈ l.take k
 | 0,_=>⟨List.Pairwise.nil,fun x=>by simp [jaa]⟩
 | k+1,hk=>by
   obtain ⟨ha,hm⟩:=wbs hs k (by omega);have ed:l.take (k+1)=l.take k ++ [l[k]]:=pC (by omega)
   by_cases h:0 < k/\l[k - 1]?=l[k]?
   · rw [zbt h.1 h.2];refine ⟨ha,fun x=>?_⟩;rw [hm,ed,pT,pD]
     constructor
     · exact .inl
     · rintro (hx | rfl)
       · exact hx
       · have e:=h.2;rw [pr (by omega),pr (by omega)] at e;injection e with e
         rw [<- e];exact pa7.2 ⟨k - 1,by omega,rfl⟩
   · rw [ub5 (by omega) h];refine ⟨?_,fun x=>by rw [pT,hm,ed,pT]⟩;unfold AscS at ha ⊢;rw [List.pairwise_append];refine ⟨ha,pbj _ _,fun x hx y hy=>?_⟩;rw [pD] at hy;subst hy;obtain ⟨i,hi,rfl⟩:=pa7.1 ((hm x).1 hx);have h1:=hs i k (by omega) (by omega) (by omega);have h2:=vaa.anti l[i] l[k];have h3:ui l[i] l[k] ≠ 0:=fun e0=>h (by
      have e1:=(vaa.zero _ _).1 e0;refine ⟨by omega,?_⟩;rw [pr (by omega),pr (by omega)]
      by_cases nI:i=k - 1
      · subst nI; rw [e1]
      · have a1:=hs i (k - 1) (by omega) (by omega) (by omega);have a2:=hs (k - 1) k (by omega) (by omega) (by omega);rw [e1] at a1;have a3:=vaa.anti (l[k - 1]'(by omega)) l[k]
        rw [(vaa.zero _ _).1 (show ui (l[k - 1]'(by omega)) l[k]=0 by omega)])
     omega
theorem zc7 {l m:List Sp} (hp:l.Perm m) (hs:∀ i j (hi:i < l.length) (hj:j < l.length),i < j->¬ ui l[j] l[i] < 0):jaa l l.length=qap m:=by
 obtain ⟨h1,h2⟩:=wbs hs l.length (pj _);exact kbi h1 (xa5 m) fun x=>by rw [h2,pQ,xar,hp.mem_iff]
def xah (ps:List Pl) (k:Nat):List Sp:=(uat (ps.take k)).map Pl.sp
theorem wcr {ps:List Pl} {k:Nat} (hk:k < ps.length):xah ps (k+1)=xah ps k ++ if 0 < (snP ps[k]).lv then [(snP ps[k]).sp] else []:=by
 unfold xah uat;rw [pC hk,uc,tL,uc]
 congr 1
 by_cases h:0 < (snP ps[k]).lv
 · simp [h]
 · simp [h]
theorem wb0 (ps:List Pl) (k:Nat):(xah ps k).length<=k:=by
 unfold xah uat;rw [pw];refine py (uE _ _) ?_;rw [pw,pA]; omega
theorem gb0 {ps:List Pl} {k:Nat} {s:Sp} (h:s ∈ xah ps k):∃ p ∈ ps,s=(snP p).sp:=by
 unfold xah at h;obtain ⟨x,hx,rfl⟩:=pS.1 h;obtain ⟨p,hp,rfl,-⟩:=qar.1 hx;exact ⟨p,tl hp,rfl⟩
def ya3 (L:List Pl) (w:World) (e:Ending) (w':World):Prop:=∃ v,e=.returned v/\gat w' (fun b=>w.heap.size<=b) v L/\Ext w w'
theorem gat.mono {W:World} {q q':Nat->Prop} {v:Value} {L:List Pl} (h:gat W q v L) (hq:∀ b,q b->q' b):gat W q' v L:=by
 obtain ⟨D,c,e,h1,h2,h3⟩:=h;exact ⟨D,c,e,h1,h2,jd.xl (pj _) (fun _ _ h=>h) (fun b _ hb=>⟨hq b hb,rfl⟩) _ _ _ h3⟩
theorem jak.own {base:Nat} {w:World} {v:Value} {l:List Sp} (h:jak base w v l) {R:Nat} (hR:v.ownBlock=some R):base<=R:=by
 obtain ⟨⟨xs,-,g,-⟩,-⟩:=h;exact (g.own hR).1
theorem xck {w:World} {q:Nat->Prop} {D0:Option Addr} {c0 E D:Nat} {ps:List Pl} (aK:jd w q ps D0 0) (hn:ps.length<=1000000) (aF:∀ p ∈ ps,Fit p E D) (hE:E<=170) (hD:D<=1099511627776):Calls Tryz.prog 18 #[.slice D0 ps.length c0] w (ya3 (qaa ps) w):=by
 have lF:=hid aK;have HF:=hid aF;have Po:Hid (∀ k,∀ s ∈ xah ps k,SmS s):=hid (fun k s hs=>by
  obtain ⟨p,hp,rfl⟩:=gb0 hs
  exact SmS.of (uam (aF p hp)) (by omega) hD)
 clear aK aF;go_enter Tryz.func18,Tryz.ntmps18;go_wp2_with fail
 go_step3
 go_wp2_with fail
 go_loopw [3,12] (fun sv iv wr=>∃ (k:Nat) (SA:Option Addr) (sc:Nat),k<=ps.length/\iv=.int .i64 k/\sv=.slice SA (xah ps k).length sc/\Hid (jak w.heap.size wr sv (xah ps k)/\Ext w wr)) (fun _ iv _=>ps.length - (intOf iv).toNat)
 case atStart=>exact ⟨0,none,0,pZ _,rfl,rfl,hid ⟨jak.nil _ _,Ext.refl _⟩⟩
 case round =>
  obtain ⟨k,SA,sc,hk,rfl,rfl,HR⟩:=hrel;have HX:=hid HR.out.2;have aQ:=hid HR.out.1;clear HR
  by_cases af:k < ps.length
  · obtain ⟨ad,C0,j0,f0,C1,j1,f1,rfl,ah,⟨a0,a1,a2,a3⟩,bu⟩:=jd.ym (lF.out.ext HX.out) k af;have fG:=HF.out ps[k] (pt af);have QI:=fG.small hE;have aa4:=fG.dm;have o8:=uam fG;have ZP:=wcr af;have oI:=wb0 ps k;have fF:=ydg o8.can;have hsm:=SmS.of fG (by omega) hD;have yH:=SmS.of o8 (by omega) hD;have wS:=jav _ ps[k].js;rw [zcp] at ZP fF yH;obtain ⟨V,hV⟩:=n_m (wr.alloc (.cells #[.int .i64 ps[k].lv,.bool ps[k].neg,.slice C0 j0 f0,.slice C1 j1 f1] 33));have dN:Ext wr V:=by rw [<- hV]; exact (Ext.refl wr).alloc _
    have Yu:=hid (ucn ps[k] _ (bu.ext dN) QI (by omega));have aH:=hid (fun (W':World) (u:Value) (hu:SpV W' none u ps[k].sp)=>wbw u hu hsm.nf hsm.dig wS hsm.nrm hsm.len (by omega));have ED:=hid (fun (W':World) (u:Value) (hu:SpV W' none u (ssn ps[k].sp))=>kcs hu yH.nf yH.dig yH.nrm yH.len);have Es:=hid ZP;have Jr:=hid fF;have xK:=hid dN;have e0:qg (ps[k].qu Mo.one)=ps[k].sp:=rfl;rw [e0] at Yu;have gs:V.heap.size=wr.heap.size+1:=by rw [<- hV]; simp
    obtain ⟨⟨b0,b1,b2,b3⟩,bf⟩:jb V wr.heap.size ps[k] (.slice C0 j0 f0) (.slice C1 j1 f1)/\True:=⟨by rw [<- hV]; exact jb.new wr _ _ _ _,trivial⟩;unfold plV at Yu;clear bu fG QI aa4 o8 ZP fF hsm yH wS dN e0 bf;generalize (snP ps[k]).lv=pl at *;generalize ssn ps[k].sp=s at *;generalize ps[k].sp=sp0 at *;generalize ps[k]=pk at *;go_wp2_with fail;clear hV b0 b1 b2 b3 a0 a1 a2 a3;refine Yu.out.mono ?_;rintro e w2 ⟨v2,rfl,s2,x2⟩;have bC:=hid (aH.out _ _ s2);obtain ⟨A2,c2,rfl,-⟩:=s2;have X2:=hid (xK.out.trans x2);clear x2 Yu xK aH;go_wp2_with fail;refine bC.out.mono ?_;rintro e w3 ⟨v3,rfl,s3,x3⟩;have HL3:=hid (ED.out _ _ s3);have S3:=hid s3;obtain ⟨A3,c3,rfl,-⟩:=s3;have X3:=hid (X2.out.trans x3);clear x3 bC ED X2;go_wp2_with fail;refine HL3.out.mono ?_;rintro e w4 ⟨rfl,x4⟩;have X4:=hid (X3.out.trans x4);have S4:=hid (S3.out.ext x4);clear x4 HL3 S3 X3;have lS:Ext w w4:=HX.out.trans X4.out
    by_cases hp:0 < qag s
    · obtain ⟨v5,w5,ak,rW,Xu⟩:=(aQ.out.ext X4.out).push S4.out lS.size (by omega) 48;have yC:Ext w w5:=Below.grown lS.below Xu lS.size (fun b e=>aQ.out.own e);have HN:Hid (jak w.heap.size w5 v5 (xah ps (k+1))/\Ext w w5):=hid ⟨by rw [Es.out,if_pos (Jr.out.1 hp)]; exact rW,yC⟩;obtain ⟨SA5,sc5,WT,-,-⟩:=HN.out.1.len;subst WT;have fF:decide (0 < qag s)=true:=by simpa using hp
      clear hp rW Xu yC lS S4 X4 Es Jr aQ HX;generalize qag s=lv at *
      go_wp2_with (at_builtin
                   refine wpList_append_run rfl (.tmp 22) (.tmp 24) _ _ rfl _ _ _ _ rfl rfl ak ?_)
      clear ak
      go_roundw
      case rel=>exact ⟨k+1,SA5,sc5,by omega,by go_num,rfl,HN⟩
      case measure=>simp [intOf]; omega
    · have HN:Hid (jak w.heap.size w4 (.slice SA (xah ps k).length sc) (xah ps (k+1))/\Ext w w4):=hid ⟨by rw [Es.out,if_neg (fun h=>hp (Jr.out.2 h)),sq]; exact aQ.out.ext X4.out,lS⟩;have nH:(xah ps (k+1)).length=(xah ps k).length:=by rw [Es.out,if_neg (fun h=>hp (Jr.out.2 h)),sq]
      have fF:decide (0 < qag s)=false:=by simpa using hp
      clear hp lS S4 X4 Es Jr aQ HX;generalize qag s=lv at *;go_wp2_with fail
      go_roundw
      case rel=>exact ⟨k+1,SA,sc,by omega,by go_num,by rw [nH],HN⟩
      case measure=>simp [intOf]; omega
  · obtain rfl:k=ps.length:=by omega
    have oI:=wb0 ps ps.length;have Jc:=hid (zch aQ.out (Po.out _) (by omega));have mV:∀ R,(Value.slice SA (xah ps ps.length).length sc).ownBlock=some R->w.heap.size<=R:=fun R e=>aQ.out.own e
    have DF:=hid mV;have Wj:Hid (qaa ps=(qap (xah ps ps.length)).map Pl.j8):=hid (by unfold qaa xah; rw [pQ]);have mZ:Hid (∀ s ∈ xah ps ps.length,∃ P,s=Pl.sp P/\Pl.j8 s=P/\Fit P E D):=hid (fun s hs=>by
     obtain ⟨p,hp,rfl⟩:=gb0 hs
     exact ⟨snP p,rfl,Pl.vu (gam p),uam (HF.out p hp)⟩)
    have Dt:=hid (Po.out ps.length);clear aQ mV lF HF Po af hk;generalize xah ps ps.length=M at *;go_wp2_with fail;refine Jc.out.mono ?_;rintro e w3 ⟨rfl,L,jA,kM,oZ,sS⟩;have rQ:Ext w w3:=Below.grown HX.out.below sS HX.out.size (fun b e=>DF.out b e);have hLM:L.length=M.length:=jA.length_eq;have HD:Hid (qaa ps=(jaa L L.length).map Pl.j8):=hid (by rw [Wj.out,zc7 jA fun i j hi hj oK=>Int.not_lt.2 (kM i j hi hj oK)]);have Dq:=hid oZ;have Jb:=hid rQ;have oq:Hid (∀ s ∈ L,s ∈ M):=hid (fun s hs=>jA.mem_iff.1 hs);clear jA kM oZ sS Jc Wj DF HX rQ;rw [hLM] at HD;go_wp2_with fail
    go_step3
    go_wp2_with fail
    go_loopw [7,31] (fun fv iv wr=>∃ (k:Nat) (FA:Option Addr) (fc:Nat),k<=M.length/\iv=.int .i64 k/\fv=.slice FA (jaa L k).length fc/\Hid (xg w3.heap.size (fun b=>w3.heap.size<=b) wr fv ((jaa L k).map Pl.j8)/\Ext w3 wr)) (fun _ iv _=>M.length - (intOf iv).toNat)
    case atStart=>exact ⟨0,none,0,pZ _,rfl,rfl,hid ⟨xg.nil _ _ _,Ext.refl _⟩⟩
    case round =>
     obtain ⟨k,FA,fc,hk,rfl,rfl,HR⟩:=hrel;have HX:=hid HR.out.2;have aQ:=hid HR.out.1;clear HR
     by_cases aaw:k < M.length
     · have af:k < L.length:=by omega
       obtain ⟨ad,u,hA,ah,Xv,Oj⟩:∃ ad u,SA=some ad/\ad.block < wr.heap.size/\wr.cell? (ad.add k)=some u/\SpV wr none u L[k]:=by
        obtain ⟨A',c',e,-,-,h⟩:=Dq.out.ext HX.out;injection e with e1 e2 e3
        subst e1;exact h k af
       subst hA;have Pq:=mZ.out _ (oq.out _ (pt af));obtain ⟨P,XL,hPo,hPf⟩:=Pq;have yG:=Dt.out _ (oq.out _ (pt af));have HU:=hid Oj;have VH:=hid (show L[k]=P.sp/\Pl.j8 L[k]=P from ⟨XL,hPo⟩);have Jk:=hid (fun (W':World) (hx:Ext wr W')=>qcd u (show SpV W' none u P.sp by rw [<- XL]; exact Oj.ext hx) hPf (by omega) (by omega));have qC:=gb5 L k
       have kC:Hid (∀ W4,Ext wr W4->∀ (v5:Value) (w5:World),PlV w5 (fun b=>W4.heap.size<=b) P v5->Ext W4 w5->∃ A0 n0 c0 A1 n1 c1,v5=plV P (.slice A0 n0 c0) (.slice A1 n1 c1)/\n1=P.cs.length /\
        ∃ v6 w6,(Builtin.append_ #[31,31] 31 #[.slice FA (jaa L k).length fc,.slice (some ⟨w5.heap.size,0,none⟩) 1 1]).run Tryz.prog (w5.alloc (.cells #[.int .i64 P.lv,.bool P.neg,.slice A0 n0 c0,.slice A1 n1 c1] 33))=.ok v6 w6/\xg w3.heap.size (fun b=>w3.heap.size<=b) w6 v6 ((jaa L k).map Pl.j8 ++ [P])/\Ext w3 w6):=hid (fun W4 lS v5 w5 hp5 yC=>by
        obtain ⟨A0,n0,c0,A1,c1,rfl,-⟩:=id hp5.open_;have hw:=HX.out.size;have h4:=lS.size;have h5:=yC.size;have hro:=aQ.out.ext (lS.trans yC);have bQ:Ext w3 w5:=HX.out.trans (lS.trans yC);obtain ⟨v6,w6,ak,hg,-,ae,-⟩:=hro.push bQ.size (x:=P) (hp5.mono fun b hb=>⟨fun e=>by have:=(aQ.out.own e).2; omega,by omega⟩) (by simp; omega) 31
        exact ⟨A0,n0,c0,A1,_,c1,rfl,rfl,v6,w6,ak,ae,Below.grown bQ.below hg bQ.size (fun b e=>(hro.own e).1)⟩)
       obtain ⟨Au,cu,rfl,-⟩:=id Oj;have BH:Hid (0 < k->L[k - 1]?=L[k]?->jaa L (k+1)=jaa L k):=hid (fun h0 h=>zbt h0 h);have pg:Hid (¬ (0 < k/\L[k - 1]?=L[k]?)->(jaa L (k+1)).map Pl.j8=(jaa L k).map Pl.j8 ++ [P]):=hid (fun h=>by rw [ub5 af h,uc,<- VH.out.2]; rfl)
       by_cases qP:0 < k
       · obtain ⟨m,hm⟩:∃ m,k=m+1:=⟨k - 1,by omega⟩;have yN:m < L.length:=by omega
         have hmM:m < M.length:=by omega
         obtain ⟨um,gY,hsum⟩:∃ um,wr.cell? (ad.add m)=some um/\SpV wr none um L[m]:=by
          obtain ⟨A',c',e,-,-,h⟩:=Dq.out.ext HX.out;injection e with e1 e2 e3
          obtain ⟨ad',u',e4,-,h5,h6⟩:=h m yN;rw [<- e1] at e4;injection e4 with e4
          subst e4;exact ⟨u',h5,h6⟩
         have BG:=Dt.out _ (oq.out _ (pt yN));have jL:=ucp _ _ 1099511627776 hsum Oj BG.dig yG.dig (by omega) BG.nrm yG.nrm BG.len yG.len;rw [BG.nf,yG.nf] at jL;have hq:(L[k - 1]?=L[k]?) ↔ L[m]=L[k]:=by
          rw [show k - 1=m by omega,pr yN,pr af];simp
         have hsz:(M.length:Int)=M.length:=rfl;have Je:=hid jL;obtain ⟨Am,cm,rfl,-⟩:=id hsum;have hw:IntKind.i64.wrap ((k:Int) - 1)=(m:Int):=by rw [rj]; omega
         have hkd:decide (0 < (k:Int))=true:=by simpa using qP
         have uT:=BH.out qP;rw [hq] at uT;have BN:=pg.out;rw [hq] at BN;have Yw:=hid uT;have Ew:=hid (fun (h:¬ L[m]=L[k])=>BN (fun h'=>h h'.2));clear BH pg uT BN hq jL yG BG hsum Oj XL hPo hPf Dt oq mZ VH HU hsz hm;generalize L[k]=sk at *;generalize L[m]=sm at *;go_wp2_with fail;refine Je.out.mono ?_;rintro e w4 ⟨rfl,x4⟩;have X4:=hid x4;clear x4 Je Xv gY
         by_cases he:sm=sk
         · have nJ:decide (sm=sk)=true:=by simpa using he
           have HN:Hid (xg w3.heap.size (fun b=>w3.heap.size<=b) w4 (.slice FA (jaa L k).length fc) ((jaa L (k+1)).map Pl.j8)/\Ext w3 w4):=hid ⟨by rw [Yw.out he]; exact aQ.out.ext X4.out,HX.out.trans X4.out⟩;have qN:(jaa L (k+1)).length=(jaa L k).length:=by rw [Yw.out he]
           clear he Yw Ew kC Jk aQ;go_wp2_with fail
           go_roundw
           case rel=>exact ⟨k+1,FA,fc,by omega,by go_num,by rw [qN],HN⟩
           case measure=>simp [intOf]; omega
         · have nJ:decide (sm=sk)=false:=by simpa using he
           have QR:=hid (Ew.out he);clear he Yw Ew;go_wp2_with fail;refine (Jk.out _ X4.out).mono ?_;rintro e w5 ⟨v5,rfl,p5,x5⟩;obtain ⟨A0,n0,d0,A1,n1,d1,rfl,rfl,v6,w6,ak,df,Ea⟩:=kC.out _ X4.out v5 w5 p5 x5;have HN:Hid (xg w3.heap.size (fun b=>w3.heap.size<=b) w6 v6 ((jaa L (k+1)).map Pl.j8)/\Ext w3 w6):=hid ⟨by rw [QR.out]; exact df,Ea⟩;obtain ⟨FA6,fc6,JQ,-,-⟩:=HN.out.1.len;rw [pw] at JQ;subst JQ;clear p5 x5 df Ea QR kC Jk aQ;unfold plV
           go_wp2_with (at_builtin
                        refine wpList_append_run rfl (.tmp 47) (.tmp 50) _ _ rfl _ _ _ _ rfl rfl ak ?_)
           clear ak
           go_roundw
           case rel=>exact ⟨k+1,FA6,fc6,by omega,by go_num,rfl,HN⟩
           case measure=>simp [intOf]; omega
       · have hkd:decide (0 < (k:Int))=false:=by simpa using qP
         have QR:=hid (pg.out (fun h=>qP h.1));clear BH pg yG Oj XL hPo hPf Dt oq mZ VH HU;generalize L[k]=sk at *;go_wp2_with fail;refine (Jk.out _ (Ext.refl wr)).mono ?_;rintro e w5 ⟨v5,rfl,p5,x5⟩;obtain ⟨A0,n0,d0,A1,n1,d1,rfl,rfl,v6,w6,ak,df,Ea⟩:=kC.out _ (Ext.refl wr) v5 w5 p5 x5;have HN:Hid (xg w3.heap.size (fun b=>w3.heap.size<=b) w6 v6 ((jaa L (k+1)).map Pl.j8)/\Ext w3 w6):=hid ⟨by rw [QR.out]; exact df,Ea⟩;obtain ⟨FA6,fc6,JQ,-,-⟩:=HN.out.1.len;rw [pw] at JQ;subst JQ;clear p5 x5 df Ea QR kC Jk aQ;unfold plV
         go_wp2_with (at_builtin
                      refine wpList_append_run rfl (.tmp 47) (.tmp 50) _ _ rfl _ _ _ _ rfl rfl ak ?_)
         clear ak
         go_roundw
         case rel=>exact ⟨k+1,FA6,fc6,by omega,by go_num,rfl,HN⟩
         case measure=>simp [intOf]; omega
     · obtain rfl:k=M.length:=by omega
       have iw:Hid (ya3 (qaa ps) w (.returned (.slice FA (jaa L M.length).length fc)) wr):=hid ⟨_,rfl,by rw [HD.out]; exact aQ.out.qaX.mono fun b hb=>by have:=Jb.out.size; omega,Jb.out.trans HX.out⟩;clear aQ Dq oq Dt mZ HD aaw hk;go_wp2_with fail;rw [WK];go_ret;exact iw.out
end Go.Proofs.YtcepajijiabkmaaGreat
