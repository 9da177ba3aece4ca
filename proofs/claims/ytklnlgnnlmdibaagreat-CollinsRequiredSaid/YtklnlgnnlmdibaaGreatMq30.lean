/- Plain: pseudo-division and exact division, as the program does them. -/
import Derived.Test.YtklnlgnnlmdibaaGreatMq29
set_option linter.unusedSimpArgs false
set_option linter.unusedVariables false

namespace Go.Proofs.YtklnlgnnlmdibaaGreat
open Lib (hid)
def Pl.sub (p q:Pl):Pl:=p.add q.opp
theorem Pl.sub_can (p q:Pl):(p.sub q).Can:=Pl.add_can _ _
theorem Pl.sub_val (ρ:Int->Rat) (p q:Pl):(p.sub q).val ρ=p.val ρ - q.val ρ:=by unfold Pl.sub; rw [Pl.add_val,Pl.opp_val]; grind
theorem ug.sub {l:Int} {p q:Pl} (h:ug l p) (k:ug l q):ug l (p.sub q):=h.add k.opp
theorem Fit.sub {p q:Pl} {E D F G:Nat} (h:Fit p E D) (k:Fit q F G):Fit (p.sub q) (max E F) (max D (G+1)+1):=h.add k.opp
def qy (g:List Pl) (k:Nat) (rest:List Pl):List Pl:=
 (List.range (g.length - 1+k)).map fun j =>
   if k<=j then ((rest.getD j Pl.zero).mul (g.getD (g.length - 1) Pl.zero)).sub ((rest.getD (g.length - 1+k) Pl.zero).mul (g.getD (j - k) Pl.zero))
   else (rest.getD j Pl.zero).mul (g.getD (g.length - 1) Pl.zero)
def uq (g : List Pl) : Nat -> List Pl -> List Pl
 | 0,rest=>rest
 | k+1,rest=>uq g k (qy g k rest)
def uaf (l:Int) (f g:Pl):Pl:=if 1<=l/\l<=4 then if g.isZ=true then Pl.zero else joinL l (uq (g.cfL l) ((f.cfL l).length - ((g.cfL l).length - 1)) (f.cfL l)) else Pl.zero
theorem yav (g:List Pl) (k:Nat) (rest:List Pl):(qy g k rest).length=g.length - 1+k:=by
 unfold qy;rw [List.length_map,List.length_range]
theorem vbc (g : List Pl) : ∀ (k : Nat) (rest : List Pl), rest.length = g.length - 1 + k -> (uq g k rest).length = g.length - 1
 | 0,rest,h=>h
 | k+1,rest,h=>by rw [uq]; exact vbc g k _ (yav g k rest)
structure El (l : Int) (n : Int) (E D : Nat) (c : Pl) : Prop where
 fit:Fit c E D
 ind:ug l c
 lv:c.lv<=n
theorem El.zero {l n:Int} {E D:Nat} (hn:0<=n):El l n E D Pl.zero:=⟨Fit.zero,vaq l,hn⟩
theorem El.mono {l n:Int} {E D F G:Nat} {c:Pl} (h:El l n E D c) (hE:E<=F) (hD:D<=G):El l n F G c:=⟨h.fit.mono hE hD,h.ind,h.lv⟩
theorem El.mul {l n:Int} {E D F G:Nat} {c d:Pl} (h:El l n E D c) (k:El l n F G d) (iy:n<=4):El l n (E+F) (D+G) (c.mul d):=⟨h.fit.mul k.fit,h.ind.mul k.ind,Pl.mul_lv h.fit.can k.fit.can h.lv k.lv iy⟩
theorem Pl.opp_lv {p:Pl} (h:p.Can) {n:Int} (hp:p.lv<=n) (hn:0<=n) (iy:n<=4):p.opp.lv<=n:=Pl.mul_lv h (zq _) hp hn iy
theorem El.sub {l n:Int} {E D F G:Nat} {c d:Pl} (h:El l n E D c) (k:El l n F G d) (hn:0<=n) (iy:n<=4):El l n (max E F) (max D (G+1)+1) (c.sub d):=⟨h.fit.sub k.fit,h.ind.sub k.ind,Pl.add_lv h.fit.can (Pl.opp_can _) h.lv (Pl.opp_lv k.fit.can k.lv hn iy) iy⟩
section
variable {l n:Int} {E D F G:Nat} (hn:0<=n) (iy:n<=4)
include hn iy
theorem ub3 {g rest:List Pl} (hg:∀ c ∈ g,El l n F G c) (hr:∀ c ∈ rest,El l n E D c) (k:Nat):∀ c ∈ qy g k rest,El l n (E+F) (D+G+2) c:=by
 intro c hc;obtain ⟨j,-,rfl⟩:=List.mem_map.1 hc;have hz:∀ i,El l n E D (rest.getD i Pl.zero):=jab (El.zero hn) hr;have hy:∀ i,El l n F G (g.getD i Pl.zero):=jab (El.zero hn) hg;have h1:=(hz j).mul (hy (g.length - 1)) iy
 split
 · exact (h1.sub ((hz (g.length - 1+k)).mul (hy (j - k)) iy) hn iy).mono (by omega) (by omega)
 · exact h1.mono (by omega) (by omega)
theorem zau {g : List Pl} (hg : ∀ c ∈ g, El l n F G c) : ∀ (k : Nat) (E D : Nat) (rest : List Pl), (∀ c ∈ rest, El l n E D c) -> ∀ c ∈ uq g k rest, El l n (E + k * F) (D + k * (G + 2)) c
 | 0,E,D,rest,hr,c,hc=>(hr c hc).mono (by omega) (by omega)
 | k+1,E,D,rest,hr,c,hc=>by
   have:=zau hg k (E+F) (D+G+2) _ (ub3 hn iy hg hr k) c hc;exact this.mono (by rw [Nat.succ_mul]; omega) (by rw [Nat.succ_mul]; omega)
end
theorem xbw {l:Int} (hl:1<=l) (ag:l<=4) {cs:List Pl} (hc:∀ c ∈ cs,c.Can) (hi:∀ c ∈ cs,ug l c):zal l (joinL l cs) (jk cs):=
 ⟨fun c h=>hc c (yaq h),fun c h=>hi c (yaq h),fun ρ=>by rw [vac hl ag,gbb ρ l hc],ka6 hc⟩
theorem xcc {l:Int} (hl:1<=l) (ag:l<=4) {cs:List Pl} (hc:∀ c ∈ cs,c.Can) (hi:∀ c ∈ cs,ug l c):(joinL l cs).cfL l=jk cs:=(Pl.cfL_coefs hl ag (uac l cs)).uniq (xbw hl ag hc hi)
theorem wbb : ∀ cs : List Pl, (jk cs).length <= cs.length
 | []=>Nat.le_refl _
 | c :: r=>by
   have:=wbb r;rw [jk]
   split
   · exact Nat.zero_le _
   · simpa using this
theorem kbj {l:Int} (hl:1<=l) (ag:l<=4) {cs:List Pl} (hc:∀ c ∈ cs,c.Can) (hi:∀ c ∈ cs,ug l c):mdg l (joinL l cs) < cs.length:=by
 unfold mdg;rw [xcc hl ag hc hi];have:=wbb cs;omega
theorem wba {l n:Int} (hn:0<=n) (kD:l<=n) {cs:List Pl} (hc:∀ c ∈ cs,c.Can/\c.lv<=n):(joinL l cs).lv<=n:=by
 unfold joinL
 split
 · rename_i hl;refine wa3 hn (Pl.nf_can _) (Low.nf fun ρ ρ' he=>?_);rw [Pl.mk_val ρ _ _ _ (by omega) hl.2,Pl.mk_val ρ' _ _ _ (by omega) hl.2];exact jaj (he l kD) _ fun c h=>Pl.val_low c (hc c h).1 fun j hj=>he j (by have:=(hc c h).2; omega)
 · exact hn
theorem jax {l n:Int} {p:Pl} {E D:Nat} (hl:1<=l) (ag:l<=4) (h:Fit p E D) (hn:p.lv<=n):∀ c ∈ p.cfL l,El l n E D c:=fun c hc=>⟨Pl.cfL_fit h c hc,uaa hl ag h.can c hc,Int.le_trans (Pl.cfL_lv h.can c hc) hn⟩
theorem wcj (l:Int) (f g:Pl):(uaf l f g).Can:=by
 unfold uaf
 split
 · split
   · exact Pl.zero_can
   · exact uac _ _
 · exact Pl.zero_can
theorem qa7 (g:List Pl) (rest:List Pl):uq g 0 rest=rest:=rfl
theorem vbg {l:Int} (f g:Pl) (hg:0 < (g.cfL l).length):(uq (g.cfL l) ((f.cfL l).length - ((g.cfL l).length - 1)) (f.cfL l)).length<=(g.cfL l).length - 1:=by
 by_cases h:(g.cfL l).length - 1<=(f.cfL l).length
 · rw [vbc _ _ _ (by omega)];exact Nat.le_refl _
 · rw [show (f.cfL l).length - ((g.cfL l).length - 1)=0 by omega,qa7];omega
section
variable {l:Int} (hl:1<=l) (ag:l<=4) {f g:Pl} {E D F G:Nat}
include hl ag
theorem gcj (hf:f.Can) (hg:g.Can) (bI:g ≠ Pl.zero):mdg l (uaf l f g) < mdg l g:=by
 obtain ⟨E,hE⟩:∃ E,Fit f E f.nr:=⟨_,Pl.fit_of hf f.ex_self⟩;obtain ⟨F,hF⟩:∃ F,Fit g F g.nr:=⟨_,Pl.fit_of hg g.ex_self⟩;have lZ:=zau (l:=l) (n:=4) (by omega) (by omega) (jax hl ag hF hg.lv_nonneg.2) ((f.cfL l).length - ((g.cfL l).length - 1)) _ _ _ (jax hl ag hE hf.lv_nonneg.2);have hlen:=List.length_pos_iff.2 (xae hl ag hg bI);have h1:=vbg f g hlen;unfold uaf;rw [if_pos ⟨hl,ag⟩,if_neg (fun e=>bI ((Pl.zero_isZ hg).1 e))];have h2:=kbj hl ag (fun c hc=>(lZ c hc).fit.can) (fun c hc=>(lZ c hc).ind);rw [show mdg l g=(g.cfL l).length - 1 from rfl];omega
theorem ubg {n:Int} (kD:l<=n) (iy:n<=4) (hf:Fit f E D) (hg:Fit g F G) (fC:f.lv<=n) (iK:g.lv<=n) (hF:F < B32):Fit (uaf l f g) (E+(E+1) * F+F) (D+(E+1) * (G+2)+1)/\(uaf l f g).lv<=n:=by
 unfold uaf;rw [if_pos ⟨hl,ag⟩]
 split
 · exact ⟨Fit.zero,by show (0:Int)<=n; omega⟩
 · rename_i hz;have bI:g ≠ Pl.zero:=fun e=>hz ((Pl.zero_isZ hg.can).2 e)
   have hlen:=List.length_pos_iff.2 (xae hl ag hg.can bI);have aks:=uu (l:=l) hf.can hf.ex;have akn:=uu (l:=l) hg.can hg.ex;have h1:=vbg f g hlen;have lZ:=zau (l:=l) (n:=n) (by omega) iy (jax hl ag hg iK) ((f.cfL l).length - ((g.cfL l).length - 1)) _ _ _ (jax hl ag hf fC);have hk:(f.cfL l).length - ((g.cfL l).length - 1)<=E+1:=by omega
   have zH:∀ c ∈ uq (g.cfL l) ((f.cfL l).length - ((g.cfL l).length - 1)) (f.cfL l),El l n (E+(E+1) * F+F) (D+(E+1) * (G+2)) c:=fun c hc =>
    (lZ c hc).mono (by have:=Nat.mul_le_mul_right F hk; omega) (by have:=Nat.mul_le_mul_right (G+2) hk; omega)
   exact ⟨za4 (fun c hc=>⟨(zH c hc).fit.can,(zH c hc).ind,(zH c hc).fit.ex⟩) (by omega) (kba (fun c hc=>(zH c hc).fit) (by omega)),wba (by omega) kD fun c hc=>⟨(zH c hc).fit.can,(zH c hc).lv⟩⟩
end
open Go.RowKit
noncomputable def oP {α:Type} (a b:α):Bool:=@decide (a=b) (Classical.propDecidable _)
theorem gaw {α:Type} {a b:α}:oP a b=true ↔ a=b:=by unfold oP; exact @decide_eq_true_iff _ (Classical.propDecidable _)
theorem kam {α:Type} {a b:α} (h:a ≠ b):oP a b=false:=by
 cases hb:oP a b
 · rfl
 · exact absurd (gaw.1 hb) h
theorem xai {α:Type} {a b:α} (h:a=b):oP a b=true:=gaw.2 h
theorem kce {α β:Type} {a b:α} {c d:β} (h:a=b ↔ c=d):oP a b=oP c d:=by
 by_cases hh:a=b
 · rw [xai hh,xai (h.1 hh)]
 · rw [kam hh,kam fun e=>hh (h.2 e)]
theorem wb7 {α:Type} {l r:List α} {k:Nat} (h:l.take k=r.take k) (hl:k < l.length) (hr:k < r.length) (he:l[k]=r[k]):l.take (k+1)=r.take (k+1):=by
 rw [List.take_succ_eq_append_getElem hl,List.take_succ_eq_append_getElem hr,h,he]
theorem zch {α:Type} {l r:List α} (h:l.length=r.length) (he:l.take l.length=r.take l.length):l=r:=by
 rw [List.take_length] at he;rw [he,h,List.take_length]
theorem Pl.ext_ {p q:Pl} (h1:p.lv=q.lv) (h2:p.neg=q.neg) (h3:p.ds=q.ds) (h4:p.cs=q.cs):p=q:=by
 obtain ⟨l,n,d,c⟩:=p;obtain ⟨l',n',d',c'⟩:=q;simp only [Pl.lv,Pl.neg,Pl.ds,Pl.cs] at h1 h2 h3 h4;rw [h1,h2,h3,h4]
theorem Pl.Can.kid_can {p:Pl} (h:p.Can) {c:Pl} (hc:c ∈ p.cs):c.Can:=by
 obtain ⟨l,n,d,cs⟩:=p;unfold Pl.Can at h;rcases h with h | h
 · simp only [Pl.cs,h.2.1] at hc; cases hc
 · exact (h.2.2.2.2.2.1.mem c hc).2
end Go.Proofs.YtklnlgnnlmdibaaGreat

set_option maxRecDepth 100000
set_option maxHeartbeats 8000000
namespace Go.Proofs.YtklnlgnnlmdibaaGreat
open Lib (hid)
open Go.RowKit
theorem vbj (x y:Value) (a b:Int) (L M:Nat) (w:World) (h:um w x a L) (k:um w y b M):Calls Tryz.prog 71 #[x,y] w (qao (oP a b) w):=by
 have H:=hid h;have K:=hid k;obtain ⟨n1,s1,ds,rfl,⟨A1,c1,rfl,-⟩,-⟩:=h;obtain ⟨n2,s2,es,rfl,⟨A2,c2,rfl,-⟩,-⟩:=k;obtain ⟨W,hW⟩:=n_m ((w.alloc (.cells #[.bool n1,.slice A1 ds.length c1] 33)).alloc (.cells #[.bool n2,.slice A2 es.length c2] 33));have ai:Ext w W:=by rw [<- hW]; exact ((Ext.refl w).alloc _).alloc _
 have q0:W.cell? ⟨w.heap.size,0,none⟩=some (.bool n1):=by rw [<- hW]; simp [go_sem]
 have q1:W.cell? ⟨w.heap.size,1,none⟩=some (.slice A1 ds.length c1):=by rw [<- hW]; simp [go_sem]
 have q2:W.cell? ⟨w.heap.size+1,0,none⟩=some (.bool n2):=by rw [<- hW]; simp [go_sem]
 have q3:W.cell? ⟨w.heap.size+1,1,none⟩=some (.slice A2 es.length c2):=by rw [<- hW]; simp [go_sem]
 have aF:=hid ai;have HC:=hid (vcv _ _ a b _ _ W (H.out.ext ai) (K.out.ext ai));clear ai;have HE:Hid ((qi a b == 0)=oP a b):=by
  have:(qi a b == 0)=oP a b:=by
   by_cases oO:a=b
   · rw [xai oO,oO]; simp [qi]
   · rw [kam oO];simp only [qi]
     split <;> (try split) <;> simp <;> omega
  exact this
 go_enter Tryz.func71,Tryz.ntmps71;go_wp2_with fail;clear hW q0 q1 q2 q3;refine HC.out.mono ?_;rintro e w1 ⟨rfl,x1⟩;have X1:=hid (aF.out.trans x1);clear x1 HC;generalize qi a b=cq at *;go_wp2_with fail;go_ret;exact ⟨by rw [<- HE.out]; rfl,X1.out⟩
def vcs (w0:World) (n:Nat):Prop:=∀ (p q:Pl) (v u:Value) (w:World),p.sz < n->p.sz<=1099511627776->p.Can->q.Can->PlV w0 (fun _=>True) p v->PlV w0 (fun _=>True) q u->Ext w0 w->Calls Tryz.prog 53 #[v,u] w (qao (oP p q) w)
theorem wci (w0:World) (n:Nat):vcs w0 n:=by
 induction n with
 | zero=>intro p q v u w h; omega
 | succ n ih =>
 intro p q v u w hn hsz hp hq h h' aC;have IH:=hid ih;have ax:=hid aC;have jC:Hid (∀ k (hk:k < p.cs.length),p.cs[k].sz < n/\p.cs[k].sz<=1099511627776):=by
  have:∀ k (hk:k < p.cs.length),p.cs[k].sz < n/\p.cs[k].sz<=1099511627776:=fun k hk=>by have:=Pl.sz_kid (List.getElem_mem hk); omega
  exact this
 have QX:=p.sz_len;have ZB:Hid ((∀ k (hk:k < p.cs.length),p.cs[k].Can)/\∀ k (hk:k < q.cs.length),q.cs[k].Can):=by
  have:(∀ k (hk:k < p.cs.length),p.cs[k].Can)/\∀ k (hk:k < q.cs.length),q.cs[k].Can:=⟨fun k hk=>hp.kid_can (List.getElem_mem hk),fun k hk=>hq.kid_can (List.getElem_mem hk)⟩;exact this
 have DX:=hid hp;have HQC:=hid hq;obtain ⟨A0,n0,c0,A,c,rfl,au,dY,eF,h4⟩:=h.open_;obtain ⟨B0,m0,d0,B,d,rfl,sK,KQ,Tm,DD⟩:=h'.open_;have H4:=hid h4;have H4':=hid DD;have HN:=hid au;have Wu:=hid sK;obtain ⟨W,hW⟩:=n_m ((w.alloc (.cells #[.int .i64 p.lv,.bool p.neg,.slice A0 n0 c0,.slice A p.cs.length c] 35)).alloc (.cells #[.int .i64 q.lv,.bool q.neg,.slice B0 m0 d0,.slice B q.cs.length d] 35));have ai:Ext w W:=by rw [<- hW]; exact ((Ext.refl w).alloc _).alloc _
 have dE:W.heap.size=w.heap.size+1+1:=by rw [<- hW]; simp
 have bG:jb W w.heap.size p (.slice A0 n0 c0) (.slice A p.cs.length c):=by rw [<- hW]; exact (jb.new w p _ _ _).ext ((Ext.refl _).alloc _) (by simp)
 have zJ:jb W (w.heap.size+1) q (.slice B0 m0 d0) (.slice B q.cs.length d):=by
  rw [<- hW];have h1:=jb.new (w.alloc (.cells #[.int .i64 p.lv,.bool p.neg,.slice A0 n0 c0,.slice A p.cs.length c] 35)) q (.slice B0 m0 d0) (.slice B q.cs.length d) 35;simpa using h1
 have aF:=hid ai;have iG:=hid bG;have Xc:=hid zJ;obtain ⟨b0,b1,b2,b3⟩:=bG;obtain ⟨e0,e1,e2,e3⟩:=zJ;clear h h' ih h4 DD aC au sK ai hp hq;obtain ⟨res,mW⟩:=n_m (oP p q);rw [mW];have DU:=hid mW;clear mW;unfold plV;go_enter Tryz.func53,Tryz.ntmps53
 by_cases cZ:p.lv=q.lv
 case neg =>
  have HF:Hid (res=false):=hid (DU.out.symm.trans (kam fun e=>cZ (by rw [e])));have ajU:(p.lv != q.lv)=true:=by simpa using cZ
  go_wp2_with fail;go_ret;exact ⟨by rw [HF.out]; rfl,aF.out⟩
 by_cases hl:p.cs.length=q.cs.length
 case neg =>
  have HF:Hid (res=false):=hid (DU.out.symm.trans (kam fun e=>hl (by rw [e])));have HL:=hid cZ;rw [<- cZ] at e0 hW;clear cZ;rw [<- HL.out];go_wp2_with fail;go_ret;exact ⟨by rw [HF.out]; rfl,aF.out⟩
 have rq:=hid cZ;have HL:=hid hl;rw [<- cZ] at e0 hW;rw [<- hl] at e3 hW KQ Xc;rw [<- cZ,<- hl];clear cZ hl
 by_cases hz:p.lv=0
 · have jT:(p.lv == 0)=true:=by simpa using hz
   have HZ:=hid hz;have hip:um W (.agg #[.bool p.neg,.slice A0 n0 c0]) p.z p.ds.length:=⟨_,_,_,rfl,HN.out.ext (ax.out.trans aF.out),rfl,Nat.le_refl _⟩;have hiq:um W (.agg #[.bool q.neg,.slice B0 m0 d0]) q.z q.ds.length:=⟨_,_,_,rfl,Wu.out.ext (ax.out.trans aF.out),rfl,Nat.le_refl _⟩;have rM:=hid (vbj _ _ p.z q.z _ _ W hip hiq);clear hip hiq hz;go_wp2_with fail;clear hW b0 b1 b2 b3 e0 e1 e2 e3;refine rM.out.mono ?_;rintro e w1 ⟨rfl,x1⟩;have HF:Hid (oP p.z q.z=res):=hid ((kce ⟨fun e=>by rw [xaf DX.out HZ.out,xaf HQC.out (rq.out.symm.trans HZ.out),e],fun e=>by rw [e]⟩).trans DU.out);have X1:=hid (aF.out.trans x1);clear x1 rM;generalize oP p.z q.z=bz at *;go_wp2_with fail;go_ret;exact ⟨by rw [HF.out]; rfl,X1.out⟩
 have jT:(p.lv == 0)=false:=by simpa using hz
 have HND:Hid ((p.neg,p.ds)=(q.neg,q.ds)):=by
  have h1:=DX.out.lv_nonneg.1;obtain ⟨l,ng,ds,cs⟩:=p;obtain ⟨l',Ov,ds',cs'⟩:=q;have hl:0 < l:=by simp only [Pl.lv] at h1 hz; omega
  have e1:=DX.out.kids hl;have e2:=HQC.out.kids (by have:=rq.out; simp only [Pl.lv] at this; omega);show ((ng,ds)=(Ov,ds'));rw [e1.1,e1.2.1,e2.1,e2.2.1]
 obtain ⟨w1,uX⟩:=n_m (W);have X1:Hid (Ext w w1):=hid (by rw [<- uX]; exact aF.out);have oK:W.heap.size<=w1.heap.size:=by rw [uX]; exact Nat.le_refl _
 have Oh:Hid (jb w1 w.heap.size p (.slice A0 n0 c0) (.slice A p.cs.length c)):=hid (by rw [<- uX]; exact iG.out);have Oe:Hid (jb w1 (w.heap.size+1) q (.slice B0 m0 d0) (.slice B p.cs.length d)):=hid (by rw [<- uX]; exact Xc.out);have aax:=hid uX;clear uX hz DX HQC HN Wu;go_wp2_with fail;clear hW b0 b1 b2 b3 e0 e1 e2 e3;obtain rfl:W=w1:=aax.out
 go_loopw [31] (fun iv wr=>∃ k:Nat,k<=p.cs.length/\iv=.int .i64 k/\Hid (p.cs.take k=q.cs.take k/\Ext W wr)) (fun iv _=>p.cs.length - (intOf iv).toNat)
 case atStart=>exact ⟨0,Nat.zero_le _,rfl,⟨by simp,Ext.refl _⟩⟩
 case round =>
  obtain ⟨k,hk,rfl,⟨eP,hx⟩⟩:=hrel;have HX:=hid hx;have HT:=hid eP;obtain ⟨b0,b1,b2,b3⟩:=Oh.out.ext hx (by omega);obtain ⟨e0,e1,e2,e3⟩:=Oe.out.ext hx (by omega);have mV:=hx.size;clear hx eP
  by_cases af:k < p.cs.length
  · have bQ:k < q.cs.length:=by have:=HL.out; omega
    obtain ⟨ad,C0,j0,f0,C1,j1,f1,rfl,ah,bY,aW⟩:=jc.kid H4.out k af;obtain ⟨ad',D0,i0,g0,D1,i1,g1,rfl,kU,sJ,iR⟩:=jc.kid H4'.out k bQ;have bW:Ext w0 wr:=(ax.out.trans X1.out).trans HX.out;have GV:=hid (bY.ext bW (by rw [ja]; exact ah));have Jw:=hid (sJ.ext bW (by rw [ja]; exact kU));have aX:ad.block < wr.heap.size:=Nat.lt_of_lt_of_le ah bW.size;have dA:ad'.block < wr.heap.size:=Nat.lt_of_lt_of_le kU bW.size;have lM:=hid (fun W' (bJ:Ext wr W')=>IH.out p.cs[k] q.cs[k] _ _ W' (jC.out k af).1 (jC.out k af).2 (ZB.out.1 k af) (ZB.out.2 k bQ) aW iR (bW.trans bJ));have dI:Hid (p.cs[k]=q.cs[k]->p.cs.take (k+1)=q.cs.take (k+1)):=hid (wb7 HT.out af bQ);have wM:Hid (p.cs[k] ≠ q.cs[k]->res=false):=hid (fun ak=>DU.out.symm.trans (kam fun e=>ak (by subst e; rfl)));unfold plV at lM;generalize p.cs[k]=pk at *;generalize q.cs[k]=qk at *;have aG:Hid (∀ W2,Ext wr W2->(Ext wr W2/\W2.cell? ⟨w.heap.size,3,none⟩=some (.slice (some ad) p.cs.length c)/\W2.cell? ⟨w.heap.size+1,3,none⟩=some (.slice (some ad') p.cs.length d)/\W2.cell? (Addr.add ad (k * 4))=some (.int .i64 pk.lv)/\W2.cell? ⟨(Addr.add ad (k * 4)).block,(Addr.add ad (k * 4)).off+1,none⟩=some (.bool pk.neg)/\W2.cell? ⟨(Addr.add ad (k * 4)).block,(Addr.add ad (k * 4)).off+2,none⟩=some (.slice C0 j0 f0)/\W2.cell? ⟨(Addr.add ad (k * 4)).block,(Addr.add ad (k * 4)).off+3,none⟩=some (.slice C1 j1 f1)/\W2.cell? (Addr.add ad' (k * 4))=some (.int .i64 qk.lv)/\W2.cell? ⟨(Addr.add ad' (k * 4)).block,(Addr.add ad' (k * 4)).off+1,none⟩=some (.bool qk.neg)/\W2.cell? ⟨(Addr.add ad' (k * 4)).block,(Addr.add ad' (k * 4)).off+2,none⟩=some (.slice D0 i0 g0)/\W2.cell? ⟨(Addr.add ad' (k * 4)).block,(Addr.add ad' (k * 4)).off+3,none⟩=some (.slice D1 i1 g1))):=by
     have:∀ W2,Ext wr W2->(Ext wr W2/\W2.cell? ⟨w.heap.size,3,none⟩=some (.slice (some ad) p.cs.length c)/\W2.cell? ⟨w.heap.size+1,3,none⟩=some (.slice (some ad') p.cs.length d)/\W2.cell? (Addr.add ad (k * 4))=some (.int .i64 pk.lv)/\W2.cell? ⟨(Addr.add ad (k * 4)).block,(Addr.add ad (k * 4)).off+1,none⟩=some (.bool pk.neg)/\W2.cell? ⟨(Addr.add ad (k * 4)).block,(Addr.add ad (k * 4)).off+2,none⟩=some (.slice C0 j0 f0)/\W2.cell? ⟨(Addr.add ad (k * 4)).block,(Addr.add ad (k * 4)).off+3,none⟩=some (.slice C1 j1 f1)/\W2.cell? (Addr.add ad' (k * 4))=some (.int .i64 qk.lv)/\W2.cell? ⟨(Addr.add ad' (k * 4)).block,(Addr.add ad' (k * 4)).off+1,none⟩=some (.bool qk.neg)/\W2.cell? ⟨(Addr.add ad' (k * 4)).block,(Addr.add ad' (k * 4)).off+2,none⟩=some (.slice D0 i0 g0)/\W2.cell? ⟨(Addr.add ad' (k * 4)).block,(Addr.add ad' (k * 4)).off+3,none⟩=some (.slice D1 i1 g1)):=fun W2 aN=>by
      obtain ⟨a0,a1,a2,a3⟩:=GV.out.ext aN (by rw [ja]; exact aX);obtain ⟨a0',a1',a2',a3'⟩:=Jw.out.ext aN (by rw [ja]; exact dA);exact ⟨aN,(aN.cell (p:=⟨w.heap.size,3,none⟩) (by show w.heap.size < _; omega)).trans b3,(aN.cell (p:=⟨w.heap.size+1,3,none⟩) (by show w.heap.size+1 < _; omega)).trans e3,a0,a1,a2,a3,a0',a1',a2',a3'⟩
     exact this
    clear bY sJ aW iR bW ah kU;have y0:Ext wr wr.drew:=(Ext.refl wr).drew;have Y0:=hid y0;clear y0;go_upto_region 8 with fail;clear b0 b1 b2 b3 e0 e1 e2 e3
    go_region_held3 (fun W2 => Ext wr W2 /\ W2.cell? ⟨w.heap.size, 3, none⟩ = some (.slice (some ad) p.cs.length c) /\ W2.cell? ⟨w.heap.size + 1, 3, none⟩ = some (.slice (some ad') p.cs.length d) /\ W2.cell? (Addr.add ad (k * 4)) = some (.int .i64 pk.lv) /\ W2.cell? ⟨(Addr.add ad (k * 4)).block, (Addr.add ad (k * 4)).off + 1, none⟩ = some (.bool pk.neg) /\ W2.cell? ⟨(Addr.add ad (k * 4)).block, (Addr.add ad (k * 4)).off + 2, none⟩ = some (.slice C0 j0 f0) /\ W2.cell? ⟨(Addr.add ad (k * 4)).block, (Addr.add ad (k * 4)).off + 3, none⟩ = some (.slice C1 j1 f1) /\ W2.cell? (Addr.add ad' (k * 4)) = some (.int .i64 qk.lv) /\ W2.cell? ⟨(Addr.add ad' (k * 4)).block, (Addr.add ad' (k * 4)).off + 1, none⟩ = some (.bool qk.neg) /\ W2.cell? ⟨(Addr.add ad' (k * 4)).block, (Addr.add ad' (k * 4)).off + 2, none⟩ = some (.slice D0 i0 g0) /\ W2.cell? ⟨(Addr.add ad' (k * 4)).block, (Addr.add ad' (k * 4)).off + 3, none⟩ = some (.slice D1 i1 g1))
     (first | with_reducible exact aG.out _ Y0.out | with_reducible exact aG.out _ y1)
     ((go_at_call 53
       refine (lM.out _ Y0.out).mono ?_;rintro e v1 ⟨rfl,x1⟩
       have y1:Ext wr v1:=Ext.trans Y0.out x1))
    all_goals
     have X2:=hid (HX.out.trans y1);clear y1 x1 lM aG Y0
     by_cases CE:pk=qk
     · have HT2:=hid (dI.out CE);rw [xai CE];clear CE;go_wp2_with fail
       go_roundw
       case rel=>exact ⟨k+1,by omega,by go_num,⟨HT2.out,X2.out⟩⟩
       case measure=>simp [intOf]; omega
     · have HF:=hid (wM.out CE);rw [kam CE];clear CE;go_wp2_with fail;go_ret;exact ⟨by rw [HF.out]; rfl,X1.out.trans X2.out⟩
  · have HF:Hid (res=true):=hid (DU.out.symm.trans (xai (by
     have h1:=HT.out;rw [show k=p.cs.length by omega] at h1;have h2:=zch HL.out h1;have h3:=HND.out
     exact Pl.ext_ rq.out (congrArg Prod.fst h3) (congrArg Prod.snd h3) h2)))
    clear b0 b1 b2 b3 e0 e1 e2 e3;go_wp2_with fail;go_ret;exact ⟨by rw [HF.out]; rfl,X1.out.trans HX.out⟩
theorem ub9 {w:World} {q1 q2:Nat->Prop} (p q:Pl) (v u:Value) (hsz:p.sz<=1099511627776) (hp:p.Can) (hq:q.Can) (h:PlV w q1 p v) (k:PlV w q2 q u):Calls Tryz.prog 53 #[v,u] w (qao (oP p q) w):=
 wci w (p.sz+1) p q v u w (Nat.lt_succ_self _) hsz hp hq (h.mono fun _ _=>trivial) (k.mono fun _ _=>trivial) (Ext.refl w)
theorem Fit.small {p:Pl} {E D:Nat} (h:Fit p E D) (hE:E<=170):p.sz<=1073741824:=Nat.le_trans h.sz (Nat.le_trans (Nat.pow_le_pow_left (show E+2<=172 by omega) 4) (by decide))
theorem xa3 {w:World} {p q:Pl} {E D:Nat} {q0:Nat->Prop} (v0:Value) {q1:Nat->Prop} (v1:Value) (h0:PlV w q0 p v0) (h1:PlV w q1 q v1) (bU:p.sz<=1073741824) (eG:p.dm<=1099511627776) (jF:q.sz<=1073741824) (uH:q.dm<=1099511627776) (hp:Fit p.nf E D) (hE:E<=170):Calls Tryz.prog 22 #[v0,v1] w (qao (oP p.nf q.nf) w):=by
 have H0:=hid h0;obtain ⟨A0,n0,c0,B0,d0,rfl,-,-,-,-⟩:=h0.open_;clear h0;have H1:=hid h1;obtain ⟨A1,n1,c1,B1,d1,rfl,-,-,-,-⟩:=h1.open_;clear h1;obtain ⟨W,hW⟩:=n_m ((w.alloc (.cells #[.int .i64 (p).lv,.bool (p).neg,.slice A0 n0 c0,.slice B0 (p).cs.length d0] 35)).alloc (.cells #[.int .i64 (q).lv,.bool (q).neg,.slice A1 n1 c1,.slice B1 (q).cs.length d1] 35));have ai:Ext w W:=by rw [<- hW]; exact ((Ext.refl w).alloc _).alloc _
 have dE:W.heap.size=w.heap.size+1+1:=by rw [<- hW]; simp
 have ax:=hid ai;have HS:Hid (∀ W',Ext W W'->(Ext w W'/\W'.cell? ⟨w.heap.size,0,none⟩=some (.int .i64 (p).lv)/\W'.cell? ⟨w.heap.size,1,none⟩=some (.bool (p).neg)/\W'.cell? ⟨w.heap.size,2,none⟩=some (.slice A0 n0 c0)/\W'.cell? ⟨w.heap.size,3,none⟩=some (.slice B0 (p).cs.length d0)/\W'.cell? ⟨w.heap.size+1,0,none⟩=some (.int .i64 (q).lv)/\W'.cell? ⟨w.heap.size+1,1,none⟩=some (.bool (q).neg)/\W'.cell? ⟨w.heap.size+1,2,none⟩=some (.slice A1 n1 c1)/\W'.cell? ⟨w.heap.size+1,3,none⟩=some (.slice B1 (q).cs.length d1))):=by
  have:∀ W',Ext W W'->(Ext w W'/\W'.cell? ⟨w.heap.size,0,none⟩=some (.int .i64 (p).lv)/\W'.cell? ⟨w.heap.size,1,none⟩=some (.bool (p).neg)/\W'.cell? ⟨w.heap.size,2,none⟩=some (.slice A0 n0 c0)/\W'.cell? ⟨w.heap.size,3,none⟩=some (.slice B0 (p).cs.length d0)/\W'.cell? ⟨w.heap.size+1,0,none⟩=some (.int .i64 (q).lv)/\W'.cell? ⟨w.heap.size+1,1,none⟩=some (.bool (q).neg)/\W'.cell? ⟨w.heap.size+1,2,none⟩=some (.slice A1 n1 c1)/\W'.cell? ⟨w.heap.size+1,3,none⟩=some (.slice B1 (q).cs.length d1)):=fun W' hx=>by
   obtain ⟨hc,hf⟩:=hx.cells;refine ⟨ai.trans hx,?_,?_,?_,?_,?_,?_,?_,?_⟩ <;> (rw [hc _ _ (by omega),<- hW]; simp [go_sem])
  exact this
 have jC:=hid (Nat.le_trans (hp.small hE) (show 1073741824<=1099511627776 by decide));clear hp;obtain ⟨-,b0,b1,b2,b3,b4,b5,b6,b7⟩:=HS.out W (Ext.refl W);clear ai;unfold plV at *;go_enter Tryz.func22,Tryz.ntmps22;go_wp2_with fail;clear hW b0 b1 b2 b3 b4 b5 b6 b7;have pU:Ext W W.drew:=(Ext.refl W).drew;have Y0:=hid pU;clear pU
 go_region_held3 (fun W' => Ext w W' /\ W'.cell? ⟨w.heap.size, 0, none⟩ = some (.int .i64 (p).lv) /\ W'.cell? ⟨w.heap.size, 1, none⟩ = some (.bool (p).neg) /\ W'.cell? ⟨w.heap.size, 2, none⟩ = some (.slice A0 n0 c0) /\ W'.cell? ⟨w.heap.size, 3, none⟩ = some (.slice B0 (p).cs.length d0) /\ W'.cell? ⟨w.heap.size + 1, 0, none⟩ = some (.int .i64 (q).lv) /\ W'.cell? ⟨w.heap.size + 1, 1, none⟩ = some (.bool (q).neg) /\ W'.cell? ⟨w.heap.size + 1, 2, none⟩ = some (.slice A1 n1 c1) /\ W'.cell? ⟨w.heap.size + 1, 3, none⟩ = some (.slice B1 (q).cs.length d1))
  (first | with_reducible exact HS.out _ Y0.out | with_reducible exact HS.out _ gV | with_reducible exact HS.out _ iM | with_reducible exact HS.out _ mP)
  (first
    | (go_at_call 48
       (fail_if_success have _:=gV)
       refine (vaj p _ (H0.out.ext (ax.out.trans Y0.out)) bU eG).mono ?_;rintro e w1 ⟨z1,rfl,m1,x1⟩;obtain ⟨C1,i1,j1,D1,k1,rfl,-⟩:=id m1.open_;have gV:Ext W w1:=Ext.trans Y0.out x1
       unfold plV)
    | (go_at_call 48
       refine (vaj q _ (H1.out.ext (ax.out.trans gV)) jF uH).mono ?_;rintro e w2 ⟨z2,rfl,m2,x2⟩;obtain ⟨C2,i2,j2,D2,k2,rfl,-⟩:=id m2.open_;have iM:Ext W w2:=Ext.trans gV x2
       replace m1:=m1.ext x2
       unfold plV)
    | (go_at_call 53
       refine (ub9 p.nf q.nf _ _ jC.out p.nf_can q.nf_can m1 m2).mono ?_;rintro e w3 ⟨rfl,x3⟩;have mP:Ext W w3:=Ext.trans iM x3
       replace m1:=m1.ext x3
       replace m2:=m2.ext x3))
 have X3:=hid (ax.out.trans mP);clear m1 m2 x1 x2 x3 gV iM mP HS;generalize oP p.nf q.nf=res at *;go_wp2_with fail;go_ret;exact ⟨rfl,X3.out⟩
end Go.Proofs.YtklnlgnnlmdibaaGreat
