/- Plain: pseudo-division and exact division, as the program does them. -/
import Derived.Test.YtcepajijiabkmaaGreatMq28
set_option linter.unusedSimpArgs false
set_option linter.unusedVariables false

namespace Go.Proofs.YtcepajijiabkmaaGreat
open Lib (hid)
def Pl.sub (p q:Pl):Pl:=p.add q.opp
theorem Pl.sub_val (ρ:Int->Rat) (p q:Pl):(p.sub q).val ρ=p.val ρ - q.val ρ:=by unfold Pl.sub; rw [Pl.add_val,Pl.opp_val]; grind
theorem jh.sub {l:Int} {p q:Pl} (h:jh l p) (k:jh l q):jh l (p.sub q):=h.add k.opp
theorem Fit.sub {p q:Pl} {E D F G:Nat} (h:Fit p E D) (k:Fit q F G):Fit (p.sub q) (max E F) (max D (G+1)+1):=h.add k.opp
def kaa (g:List Pl) (k:Nat) (rest:List Pl):List Pl:=
 (List.range (g.length - 1+k)).map fun j =>
   if k<=j then ((rest.getD j Pl.zero).mul (g.getD (g.length - 1) Pl.zero)).sub ((rest.getD (g.length - 1+k) Pl.zero).mul (g.getD (j - k) Pl.zero))
   else (rest.getD j Pl.zero).mul (g.getD (g.length - 1) Pl.zero)
def zu (g : List Pl) : Nat -> List Pl -> List Pl
 | 0,rest=>rest
 | k+1,rest=>zu g k (kaa g k rest)
def wae (l:Int) (f g:Pl):Pl:=if 1<=l/\l<=4 then if g.isZ=true then Pl.zero else joinL l (zu (g.cfL l) ((f.cfL l).length - ((g.cfL l).length - 1)) (f.cfL l)) else Pl.zero
theorem kaw (g:List Pl) (k:Nat) (rest:List Pl):(kaa g k rest).length=g.length - 1+k:=by
 unfold kaa;rw [List.length_map,List.length_range]
theorem jbf (g : List Pl) : ∀ (k : Nat) (rest : List Pl), rest.length = g.length - 1 + k -> (zu g k rest).length = g.length - 1
 | 0,rest,h=>h
 | k+1,rest,h=>by rw [zu]; exact jbf g k _ (kaw g k rest)
structure El (l : Int) (n : Int) (E D : Nat) (c : Pl) : Prop where
 fit:Fit c E D
 ind:jh l c
 lv:c.lv<=n
theorem El.zero {l n:Int} {E D:Nat} (hn:0<=n):El l n E D Pl.zero:=⟨Fit.zero,qa1 l,hn⟩
theorem El.mono {l n:Int} {E D F G:Nat} {c:Pl} (h:El l n E D c) (hE:E<=F) (hD:D<=G):El l n F G c:=⟨h.fit.mono hE hD,h.ind,h.lv⟩
theorem El.mul {l n:Int} {E D F G:Nat} {c d:Pl} (h:El l n E D c) (k:El l n F G d) (ik:n<=4):El l n (E+F) (D+G) (c.mul d):=⟨h.fit.mul k.fit,h.ind.mul k.ind,Pl.mul_lv h.fit.can k.fit.can h.lv k.lv ik⟩
theorem Pl.opp_lv {p:Pl} (h:p.Can) {n:Int} (hp:p.lv<=n) (hn:0<=n) (ik:n<=4):p.opp.lv<=n:=Pl.mul_lv h (ut _) hp hn ik
theorem El.sub {l n:Int} {E D F G:Nat} {c d:Pl} (h:El l n E D c) (k:El l n F G d) (hn:0<=n) (ik:n<=4):El l n (max E F) (max D (G+1)+1) (c.sub d):=⟨h.fit.sub k.fit,h.ind.sub k.ind,Pl.add_lv h.fit.can (Pl.opp_can _) h.lv (Pl.opp_lv k.fit.can k.lv hn ik) ik⟩
section
variable {l n:Int} {E D F G:Nat} (hn:0<=n) (ik:n<=4)
include hn ik
theorem wca {g rest:List Pl} (hg:∀ c ∈ g,El l n F G c) (hr:∀ c ∈ rest,El l n E D c) (k:Nat):∀ c ∈ kaa g k rest,El l n (E+F) (D+G+2) c:=by
 intro c hc;obtain ⟨j,-,rfl⟩:=List.mem_map.1 hc;have hz:∀ i,El l n E D (rest.getD i Pl.zero):=xaf (El.zero hn) hr;have hy:∀ i,El l n F G (g.getD i Pl.zero):=xaf (El.zero hn) hg;have h1:=(hz j).mul (hy (g.length - 1)) ik
 split
 · exact (h1.sub ((hz (g.length - 1+k)).mul (hy (j - k)) ik) hn ik).mono (by omega) (by omega)
 · exact h1.mono (by omega) (by omega)
theorem wau {g : List Pl} (hg : ∀ c ∈ g, El l n F G c) : ∀ (k : Nat) (E D : Nat) (rest : List Pl), (∀ c ∈ rest, El l n E D c) -> ∀ c ∈ zu g k rest, El l n (E + k * F) (D + k * (G + 2)) c
 | 0,E,D,rest,hr,c,hc=>(hr c hc).mono (by omega) (by omega)
 | k+1,E,D,rest,hr,c,hc=>by
   have:=wau hg k (E+F) (D+G+2) _ (wca hn ik hg hr k) c hc;exact this.mono (by rw [Nat.succ_mul]; omega) (by rw [Nat.succ_mul]; omega)
end
theorem xb3 {l:Int} (hl:1<=l) (aj:l<=4) {cs:List Pl} (hc:∀ c ∈ cs,c.Can) (hi:∀ c ∈ cs,jh l c):gao l (joinL l cs) (uj cs):=
 ⟨fun c h=>hc c (kaq h),fun c h=>hi c (kaq h),fun ρ=>by rw [jac hl aj,gbe ρ l hc],ya8 hc⟩
theorem qck {l:Int} (hl:1<=l) (aj:l<=4) {cs:List Pl} (hc:∀ c ∈ cs,c.Can) (hi:∀ c ∈ cs,jh l c):(joinL l cs).cfL l=uj cs:=(Pl.cfL_coefs hl aj (jad l cs)).uniq (xb3 hl aj hc hi)
theorem wbe : ∀ cs : List Pl, (uj cs).length <= cs.length
 | []=>Nat.le_refl _
 | c :: r=>by
   have:=wbe r;rw [uj]
   split
   · exact Nat.zero_le _
   · simpa using this
theorem vbm {l:Int} (hl:1<=l) (aj:l<=4) {cs:List Pl} (hc:∀ c ∈ cs,c.Can) (hi:∀ c ∈ cs,jh l c):mdg l (joinL l cs) < cs.length:=by
 unfold mdg;rw [qck hl aj hc hi];have:=wbe cs;omega
theorem wct {l n:Int} (hn:0<=n) (iV:l<=n) {cs:List Pl} (hc:∀ c ∈ cs,c.Can/\c.lv<=n):(joinL l cs).lv<=n:=by
 unfold joinL
 split
 · rename_i hl;refine qa5 hn (Pl.nf_can _) (Low.nf fun ρ ρ' he=>?_);rw [Pl.mk_val ρ _ _ _ (by omega) hl.2,Pl.mk_val ρ' _ _ _ (by omega) hl.2];exact uaj (he l iV) _ fun c h=>Pl.val_low c (hc c h).1 fun j hj=>he j (by have:=(hc c h).2; omega)
 · exact hn
theorem yaz {l n:Int} {p:Pl} {E D:Nat} (hl:1<=l) (aj:l<=4) (h:Fit p E D) (hn:p.lv<=n):∀ c ∈ p.cfL l,El l n E D c:=fun c hc=>⟨Pl.cfL_fit h c hc,kac hl aj h.can c hc,Int.le_trans (Pl.cfL_lv h.can c hc) hn⟩
theorem ycr (l:Int) (f g:Pl):(wae l f g).Can:=by
 unfold wae
 split
 · split
   · exact Pl.zero_can
   · exact jad _ _
 · exact Pl.zero_can
theorem ga8 (g:List Pl) (rest:List Pl):zu g 0 rest=rest:=rfl
theorem gbi {l:Int} (f g:Pl) (hg:0 < (g.cfL l).length):(zu (g.cfL l) ((f.cfL l).length - ((g.cfL l).length - 1)) (f.cfL l)).length<=(g.cfL l).length - 1:=by
 by_cases h:(g.cfL l).length - 1<=(f.cfL l).length
 · rw [jbf _ _ _ (by omega)];exact Nat.le_refl _
 · rw [show (f.cfL l).length - ((g.cfL l).length - 1)=0 by omega,ga8];omega
section
variable {l:Int} (hl:1<=l) (aj:l<=4) {f g:Pl} {E D F G:Nat}
include hl aj
theorem zcr (hf:f.Can) (hg:g.Can) (iy:g ≠ Pl.zero):mdg l (wae l f g) < mdg l g:=by
 obtain ⟨E,hE⟩:∃ E,Fit f E f.nr:=⟨_,Pl.fit_of hf f.ex_self⟩;obtain ⟨F,hF⟩:∃ F,Fit g F g.nr:=⟨_,Pl.fit_of hg g.ex_self⟩;have lT:=wau (l:=l) (n:=4) (by omega) (by omega) (yaz hl aj hF hg.lv_nonneg.2) ((f.cfL l).length - ((g.cfL l).length - 1)) _ _ _ (yaz hl aj hE hf.lv_nonneg.2);have hlen:=List.length_pos_iff.2 (jby hl aj hg iy);have h1:=gbi f g hlen;unfold wae;rw [if_pos ⟨hl,aj⟩,if_neg (fun e=>iy ((Pl.zero_isZ hg).1 e))];have h2:=vbm hl aj (fun c hc=>(lT c hc).fit.can) (fun c hc=>(lT c hc).ind);rw [show mdg l g=(g.cfL l).length - 1 from rfl];omega
theorem ub5 {n:Int} (iV:l<=n) (ik:n<=4) (hf:Fit f E D) (hg:Fit g F G) (qK:f.lv<=n) (nM:g.lv<=n) (hF:F < B32):Fit (wae l f g) (E+(E+1) * F+F) (D+(E+1) * (G+2)+1)/\(wae l f g).lv<=n:=by
 unfold wae;rw [if_pos ⟨hl,aj⟩]
 split
 · exact ⟨Fit.zero,by show (0:Int)<=n; omega⟩
 · rename_i hz;have iy:g ≠ Pl.zero:=fun e=>hz ((Pl.zero_isZ hg.can).2 e)
   have hlen:=List.length_pos_iff.2 (jby hl aj hg.can iy);have afX:=jaa (l:=l) hf.can hf.ex;have afR:=jaa (l:=l) hg.can hg.ex;have h1:=gbi f g hlen;have lT:=wau (l:=l) (n:=n) (by omega) ik (yaz hl aj hg nM) ((f.cfL l).length - ((g.cfL l).length - 1)) _ _ _ (yaz hl aj hf qK);have hk:(f.cfL l).length - ((g.cfL l).length - 1)<=E+1:=by omega
   have xB:∀ c ∈ zu (g.cfL l) ((f.cfL l).length - ((g.cfL l).length - 1)) (f.cfL l),El l n (E+(E+1) * F+F) (D+(E+1) * (G+2)) c:=fun c hc =>
    (lT c hc).mono (by have:=Nat.mul_le_mul_right F hk; omega) (by have:=Nat.mul_le_mul_right (G+2) hk; omega)
   exact ⟨uav (fun c hc=>⟨(xB c hc).fit.can,(xB c hc).ind,(xB c hc).fit.ex⟩) (by omega) (kbc (fun c hc=>(xB c hc).fit) (by omega)),wct (by omega) iV fun c hc=>⟨(xB c hc).fit.can,(xB c hc).lv⟩⟩
end
open Go.RowKit
noncomputable def nT {α:Type} (a b:α):Bool:=@decide (a=b) (Classical.propDecidable _)
theorem ya7 {α:Type} {a b:α}:nT a b=true ↔ a=b:=by unfold nT; exact @decide_eq_true_iff _ (Classical.propDecidable _)
theorem kap {α:Type} {a b:α} (h:a ≠ b):nT a b=false:=by
 cases hb:nT a b
 · rfl
 · exact absurd (ya7.1 hb) h
theorem uam {α:Type} {a b:α} (h:a=b):nT a b=true:=ya7.2 h
theorem gcl {α β:Type} {a b:α} {c d:β} (h:a=b ↔ c=d):nT a b=nT c d:=by
 by_cases hh:a=b
 · rw [uam hh,uam (h.1 hh)]
 · rw [kap hh,kap fun e=>hh (h.2 e)]
theorem ycg {α:Type} {l r:List α} {k:Nat} (h:l.take k=r.take k) (hl:k < l.length) (hr:k < r.length) (he:l[k]=r[k]):l.take (k+1)=r.take (k+1):=by
 rw [List.take_succ_eq_append_getElem hl,List.take_succ_eq_append_getElem hr,h,he]
theorem kco {α:Type} {l r:List α} (h:l.length=r.length) (he:l.take l.length=r.take l.length):l=r:=by
 rw [List.take_length] at he;rw [he,h,List.take_length]
theorem Pl.ext_ {p q:Pl} (h1:p.lv=q.lv) (h2:p.neg=q.neg) (h3:p.ds=q.ds) (h4:p.cs=q.cs):p=q:=by
 obtain ⟨l,n,d,c⟩:=p;obtain ⟨l',n',d',c'⟩:=q;simp only [Pl.lv,Pl.neg,Pl.ds,Pl.cs] at h1 h2 h3 h4;rw [h1,h2,h3,h4]
theorem Pl.Can.kid_can {p:Pl} (h:p.Can) {c:Pl} (hc:c ∈ p.cs):c.Can:=by
 obtain ⟨l,n,d,cs⟩:=p;unfold Pl.Can at h;rcases h with h | h
 · simp only [Pl.cs,h.2.1] at hc; cases hc
 · exact (h.2.2.2.2.2.1.mem c hc).2
end Go.Proofs.YtcepajijiabkmaaGreat

set_option maxRecDepth 100000
set_option maxHeartbeats 8000000
namespace Go.Proofs.YtcepajijiabkmaaGreat
open Lib (hid)
open Go.RowKit
theorem ubm (x y:Value) (a b:Int) (L M:Nat) (w:World) (h:qm w x a L) (k:qm w y b M):Calls Tryz.prog 68 #[x,y] w (wam (nT a b) w):=by
 have H:=hid h;have K:=hid k;obtain ⟨n1,s1,ds,rfl,⟨A1,c1,rfl,-⟩,-⟩:=h;obtain ⟨n2,s2,es,rfl,⟨A2,c2,rfl,-⟩,-⟩:=k;obtain ⟨W,hW⟩:=n_m ((w.alloc (.cells #[.bool n1,.slice A1 ds.length c1] 30)).alloc (.cells #[.bool n2,.slice A2 es.length c2] 30));have ag:Ext w W:=by rw [<- hW]; exact ((Ext.refl w).alloc _).alloc _
 have q0:W.cell? ⟨w.heap.size,0,none⟩=some (.bool n1):=by rw [<- hW]; simp [go_sem]
 have q1:W.cell? ⟨w.heap.size,1,none⟩=some (.slice A1 ds.length c1):=by rw [<- hW]; simp [go_sem]
 have q2:W.cell? ⟨w.heap.size+1,0,none⟩=some (.bool n2):=by rw [<- hW]; simp [go_sem]
 have q3:W.cell? ⟨w.heap.size+1,1,none⟩=some (.slice A2 es.length c2):=by rw [<- hW]; simp [go_sem]
 have aB:=hid ag;have HC:=hid (gb7 _ _ a b _ _ W (H.out.ext ag) (K.out.ext ag));clear ag;have HE:Hid ((xh a b == 0)=nT a b):=by
  have:(xh a b == 0)=nT a b:=by
   by_cases kZ:a=b
   · rw [uam kZ,kZ]; simp [xh]
   · rw [kap kZ];simp only [xh]
     split <;> (try split) <;> simp <;> omega
  exact this
 go_enter Tryz.func68,Tryz.ntmps68;go_wp2_with fail;clear hW q0 q1 q2 q3;refine HC.out.mono ?_;rintro e w1 ⟨rfl,x1⟩;have X1:=hid (aB.out.trans x1);clear x1 HC;generalize xh a b=cq at *;go_wp2_with fail;go_ret;exact ⟨by rw [<- HE.out]; rfl,X1.out⟩
def xc0 (w0:World) (n:Nat):Prop:=∀ (p q:Pl) (v u:Value) (w:World),p.sz < n->p.sz<=1099511627776->p.Can->q.Can->PlV w0 (fun _=>True) p v->PlV w0 (fun _=>True) q u->Ext w0 w->Calls Tryz.prog 51 #[v,u] w (wam (nT p q) w)
theorem kcq (w0:World) (n:Nat):xc0 w0 n:=by
 induction n with
 | zero=>intro p q v u w h; omega
 | succ n ih =>
 intro p q v u w hn hsz hp hq h h' aF;have IH:=hid ih;have ay:=hid aF;have iT:Hid (∀ k (hk:k < p.cs.length),p.cs[k].sz < n/\p.cs[k].sz<=1099511627776):=by
  have:∀ k (hk:k < p.cs.length),p.cs[k].sz < n/\p.cs[k].sz<=1099511627776:=fun k hk=>by have:=Pl.sz_kid (List.getElem_mem hk); omega
  exact this
 have NS:=p.sz_len;have Vk:Hid ((∀ k (hk:k < p.cs.length),p.cs[k].Can)/\∀ k (hk:k < q.cs.length),q.cs[k].Can):=by
  have:(∀ k (hk:k < p.cs.length),p.cs[k].Can)/\∀ k (hk:k < q.cs.length),q.cs[k].Can:=⟨fun k hk=>hp.kid_can (List.getElem_mem hk),fun k hk=>hq.kid_can (List.getElem_mem hk)⟩;exact this
 have BC:=hid hp;have ZO:=hid hq;obtain ⟨A0,n0,c0,A,c,rfl,ak,dY,dK,h4⟩:=h.open_;obtain ⟨B0,m0,d0,B,d,rfl,qB,Iy,O1,FZ⟩:=h'.open_;have H4:=hid h4;have H4':=hid FZ;have HN:=hid ak;have RZ:=hid qB;obtain ⟨W,hW⟩:=n_m ((w.alloc (.cells #[.int .i64 p.lv,.bool p.neg,.slice A0 n0 c0,.slice A p.cs.length c] 33)).alloc (.cells #[.int .i64 q.lv,.bool q.neg,.slice B0 m0 d0,.slice B q.cs.length d] 33));have ag:Ext w W:=by rw [<- hW]; exact ((Ext.refl w).alloc _).alloc _
 have bY:W.heap.size=w.heap.size+1+1:=by rw [<- hW]; simp
 have bJ:jc W w.heap.size p (.slice A0 n0 c0) (.slice A p.cs.length c):=by rw [<- hW]; exact (jc.new w p _ _ _).ext ((Ext.refl _).alloc _) (by simp)
 have xH:jc W (w.heap.size+1) q (.slice B0 m0 d0) (.slice B q.cs.length d):=by
  rw [<- hW];have h1:=jc.new (w.alloc (.cells #[.int .i64 p.lv,.bool p.neg,.slice A0 n0 c0,.slice A p.cs.length c] 33)) q (.slice B0 m0 d0) (.slice B q.cs.length d) 33;simpa using h1
 have aB:=hid ag;have eY:=hid bJ;have Tj:=hid xH;obtain ⟨b0,b1,b2,b3⟩:=bJ;obtain ⟨e0,e1,e2,e3⟩:=xH;clear h h' ih h4 FZ aF ak qB ag hp hq;obtain ⟨res,kJ⟩:=n_m (nT p q);rw [kJ];have Bv:=hid kJ;clear kJ;unfold plV;go_enter Tryz.func51,Tryz.ntmps51
 by_cases dJ:p.lv=q.lv
 case neg =>
  have HF:Hid (res=false):=hid (Bv.out.symm.trans (kap fun e=>dJ (by rw [e])));have afw:(p.lv != q.lv)=true:=by simpa using dJ
  go_wp2_with fail;go_ret;exact ⟨by rw [HF.out]; rfl,aB.out⟩
 by_cases hl:p.cs.length=q.cs.length
 case neg =>
  have HF:Hid (res=false):=hid (Bv.out.symm.trans (kap fun e=>hl (by rw [e])));have HL:=hid dJ;rw [<- dJ] at e0 hW;clear dJ;rw [<- HL.out];go_wp2_with fail;go_ret;exact ⟨by rw [HF.out]; rfl,aB.out⟩
 have CQ:=hid dJ;have HL:=hid hl;rw [<- dJ] at e0 hW;rw [<- hl] at e3 hW Iy Tj;rw [<- dJ,<- hl];clear dJ hl
 by_cases hz:p.lv=0
 · have iU:(p.lv == 0)=true:=by simpa using hz
   have HZ:=hid hz;have hip:qm W (.agg #[.bool p.neg,.slice A0 n0 c0]) p.z p.ds.length:=⟨_,_,_,rfl,HN.out.ext (ay.out.trans aB.out),rfl,Nat.le_refl _⟩;have hiq:qm W (.agg #[.bool q.neg,.slice B0 m0 d0]) q.z q.ds.length:=⟨_,_,_,rfl,RZ.out.ext (ay.out.trans aB.out),rfl,Nat.le_refl _⟩;have vU:=hid (ubm _ _ p.z q.z _ _ W hip hiq);clear hip hiq hz;go_wp2_with fail;clear hW b0 b1 b2 b3 e0 e1 e2 e3;refine vU.out.mono ?_;rintro e w1 ⟨rfl,x1⟩;have HF:Hid (nT p.z q.z=res):=hid ((gcl ⟨fun e=>by rw [jan BC.out HZ.out,jan ZO.out (CQ.out.symm.trans HZ.out),e],fun e=>by rw [e]⟩).trans Bv.out);have X1:=hid (aB.out.trans x1);clear x1 vU;generalize nT p.z q.z=bz at *;go_wp2_with fail;go_ret;exact ⟨by rw [HF.out]; rfl,X1.out⟩
 have iU:(p.lv == 0)=false:=by simpa using hz
 have HND:Hid ((p.neg,p.ds)=(q.neg,q.ds)):=by
  have h1:=BC.out.lv_nonneg.1;obtain ⟨l,ng,ds,cs⟩:=p;obtain ⟨l',KN,ds',cs'⟩:=q;have hl:0 < l:=by simp only [Pl.lv] at h1 hz; omega
  have e1:=BC.out.kids hl;have e2:=ZO.out.kids (by have:=CQ.out; simp only [Pl.lv] at this; omega);show ((ng,ds)=(KN,ds'));rw [e1.1,e1.2.1,e2.1,e2.2.1]
 obtain ⟨w1,rQ⟩:=n_m (W);have X1:Hid (Ext w w1):=hid (by rw [<- rQ]; exact aB.out);have lK:W.heap.size<=w1.heap.size:=by rw [rQ]; exact Nat.le_refl _
 have Kw:Hid (jc w1 w.heap.size p (.slice A0 n0 c0) (.slice A p.cs.length c)):=hid (by rw [<- rQ]; exact eY.out);have Ku:Hid (jc w1 (w.heap.size+1) q (.slice B0 m0 d0) (.slice B p.cs.length d)):=hid (by rw [<- rQ]; exact Tj.out);have VY:=hid rQ;clear rQ hz BC ZO HN RZ;go_wp2_with fail;clear hW b0 b1 b2 b3 e0 e1 e2 e3;obtain rfl:W=w1:=VY.out
 go_loopw [31] (fun iv wr=>∃ k:Nat,k<=p.cs.length/\iv=.int .i64 k/\Hid (p.cs.take k=q.cs.take k/\Ext W wr)) (fun iv _=>p.cs.length - (intOf iv).toNat)
 case atStart=>exact ⟨0,Nat.zero_le _,rfl,⟨by simp,Ext.refl _⟩⟩
 case round =>
  obtain ⟨k,hk,rfl,⟨dD,hx⟩⟩:=hrel;have HX:=hid hx;have HT:=hid dD;obtain ⟨b0,b1,b2,b3⟩:=Kw.out.ext hx (by omega);obtain ⟨e0,e1,e2,e3⟩:=Ku.out.ext hx (by omega);have kH:=hx.size;clear hx dD
  by_cases af:k < p.cs.length
  · have fF:k < q.cs.length:=by have:=HL.out; omega
    obtain ⟨ad,C0,j0,f0,C1,j1,f1,rfl,ah,bF,aV⟩:=jd.kid H4.out k af;obtain ⟨ad',D0,i0,g0,D1,i1,g1,rfl,jE,qA,oI⟩:=jd.kid H4'.out k fF;have bC:Ext w0 wr:=(ay.out.trans X1.out).trans HX.out;have En:=hid (bF.ext bC (by rw [ja]; exact ah));have Gz:=hid (qA.ext bC (by rw [ja]; exact jE));have cO:ad.block < wr.heap.size:=Nat.lt_of_lt_of_le ah bC.size;have bT:ad'.block < wr.heap.size:=Nat.lt_of_lt_of_le jE bC.size;have jQ:=hid (fun W' (bg:Ext wr W')=>IH.out p.cs[k] q.cs[k] _ _ W' (iT.out k af).1 (iT.out k af).2 (Vk.out.1 k af) (Vk.out.2 k fF) aV oI (bC.trans bg));have bG:Hid (p.cs[k]=q.cs[k]->p.cs.take (k+1)=q.cs.take (k+1)):=hid (ycg HT.out af fF);have Gy:Hid (p.cs[k] ≠ q.cs[k]->res=false):=hid (fun au=>Bv.out.symm.trans (kap fun e=>au (by subst e; rfl)));unfold plV at jQ;generalize p.cs[k]=pk at *;generalize q.cs[k]=qk at *;have aN:Hid (∀ W2,Ext wr W2->(Ext wr W2/\W2.cell? ⟨w.heap.size,3,none⟩=some (.slice (some ad) p.cs.length c)/\W2.cell? ⟨w.heap.size+1,3,none⟩=some (.slice (some ad') p.cs.length d)/\W2.cell? (Addr.add ad (k * 4))=some (.int .i64 pk.lv)/\W2.cell? ⟨(Addr.add ad (k * 4)).block,(Addr.add ad (k * 4)).off+1,none⟩=some (.bool pk.neg)/\W2.cell? ⟨(Addr.add ad (k * 4)).block,(Addr.add ad (k * 4)).off+2,none⟩=some (.slice C0 j0 f0)/\W2.cell? ⟨(Addr.add ad (k * 4)).block,(Addr.add ad (k * 4)).off+3,none⟩=some (.slice C1 j1 f1)/\W2.cell? (Addr.add ad' (k * 4))=some (.int .i64 qk.lv)/\W2.cell? ⟨(Addr.add ad' (k * 4)).block,(Addr.add ad' (k * 4)).off+1,none⟩=some (.bool qk.neg)/\W2.cell? ⟨(Addr.add ad' (k * 4)).block,(Addr.add ad' (k * 4)).off+2,none⟩=some (.slice D0 i0 g0)/\W2.cell? ⟨(Addr.add ad' (k * 4)).block,(Addr.add ad' (k * 4)).off+3,none⟩=some (.slice D1 i1 g1))):=by
     have:∀ W2,Ext wr W2->(Ext wr W2/\W2.cell? ⟨w.heap.size,3,none⟩=some (.slice (some ad) p.cs.length c)/\W2.cell? ⟨w.heap.size+1,3,none⟩=some (.slice (some ad') p.cs.length d)/\W2.cell? (Addr.add ad (k * 4))=some (.int .i64 pk.lv)/\W2.cell? ⟨(Addr.add ad (k * 4)).block,(Addr.add ad (k * 4)).off+1,none⟩=some (.bool pk.neg)/\W2.cell? ⟨(Addr.add ad (k * 4)).block,(Addr.add ad (k * 4)).off+2,none⟩=some (.slice C0 j0 f0)/\W2.cell? ⟨(Addr.add ad (k * 4)).block,(Addr.add ad (k * 4)).off+3,none⟩=some (.slice C1 j1 f1)/\W2.cell? (Addr.add ad' (k * 4))=some (.int .i64 qk.lv)/\W2.cell? ⟨(Addr.add ad' (k * 4)).block,(Addr.add ad' (k * 4)).off+1,none⟩=some (.bool qk.neg)/\W2.cell? ⟨(Addr.add ad' (k * 4)).block,(Addr.add ad' (k * 4)).off+2,none⟩=some (.slice D0 i0 g0)/\W2.cell? ⟨(Addr.add ad' (k * 4)).block,(Addr.add ad' (k * 4)).off+3,none⟩=some (.slice D1 i1 g1)):=fun W2 aO=>by
      obtain ⟨a0,a1,a2,a3⟩:=En.out.ext aO (by rw [ja]; exact cO);obtain ⟨a0',a1',a2',a3'⟩:=Gz.out.ext aO (by rw [ja]; exact bT);exact ⟨aO,(aO.cell (p:=⟨w.heap.size,3,none⟩) (by show w.heap.size < _; omega)).trans b3,(aO.cell (p:=⟨w.heap.size+1,3,none⟩) (by show w.heap.size+1 < _; omega)).trans e3,a0,a1,a2,a3,a0',a1',a2',a3'⟩
     exact this
    clear bF qA aV oI bC ah jE;have y0:Ext wr wr.drew:=(Ext.refl wr).drew;have Y0:=hid y0;clear y0;go_upto_region 8 with fail;clear b0 b1 b2 b3 e0 e1 e2 e3
    go_region_held3 (fun W2 => Ext wr W2 /\ W2.cell? ⟨w.heap.size, 3, none⟩ = some (.slice (some ad) p.cs.length c) /\ W2.cell? ⟨w.heap.size + 1, 3, none⟩ = some (.slice (some ad') p.cs.length d) /\ W2.cell? (Addr.add ad (k * 4)) = some (.int .i64 pk.lv) /\ W2.cell? ⟨(Addr.add ad (k * 4)).block, (Addr.add ad (k * 4)).off + 1, none⟩ = some (.bool pk.neg) /\ W2.cell? ⟨(Addr.add ad (k * 4)).block, (Addr.add ad (k * 4)).off + 2, none⟩ = some (.slice C0 j0 f0) /\ W2.cell? ⟨(Addr.add ad (k * 4)).block, (Addr.add ad (k * 4)).off + 3, none⟩ = some (.slice C1 j1 f1) /\ W2.cell? (Addr.add ad' (k * 4)) = some (.int .i64 qk.lv) /\ W2.cell? ⟨(Addr.add ad' (k * 4)).block, (Addr.add ad' (k * 4)).off + 1, none⟩ = some (.bool qk.neg) /\ W2.cell? ⟨(Addr.add ad' (k * 4)).block, (Addr.add ad' (k * 4)).off + 2, none⟩ = some (.slice D0 i0 g0) /\ W2.cell? ⟨(Addr.add ad' (k * 4)).block, (Addr.add ad' (k * 4)).off + 3, none⟩ = some (.slice D1 i1 g1))
     (first | with_reducible exact aN.out _ Y0.out | with_reducible exact aN.out _ y1)
     ((go_at_call 51
       refine (jQ.out _ Y0.out).mono ?_;rintro e v1 ⟨rfl,x1⟩
       have y1:Ext wr v1:=Ext.trans Y0.out x1))
    all_goals
     have X2:=hid (HX.out.trans y1);clear y1 x1 jQ aN Y0
     by_cases KT:pk=qk
     · have ZG:=hid (bG.out KT);rw [uam KT];clear KT;go_wp2_with fail
       go_roundw
       case rel=>exact ⟨k+1,by omega,by go_num,⟨ZG.out,X2.out⟩⟩
       case measure=>simp [intOf]; omega
     · have HF:=hid (Gy.out KT);rw [kap KT];clear KT;go_wp2_with fail;go_ret;exact ⟨by rw [HF.out]; rfl,X1.out.trans X2.out⟩
  · have HF:Hid (res=true):=hid (Bv.out.symm.trans (uam (by
     have h1:=HT.out;rw [show k=p.cs.length by omega] at h1;have h2:=kco HL.out h1;have h3:=HND.out
     exact Pl.ext_ CQ.out (congrArg Prod.fst h3) (congrArg Prod.snd h3) h2)))
    clear b0 b1 b2 b3 e0 e1 e2 e3;go_wp2_with fail;go_ret;exact ⟨by rw [HF.out]; rfl,X1.out.trans HX.out⟩
theorem jci {w:World} {q1 q2:Nat->Prop} (p q:Pl) (v u:Value) (hsz:p.sz<=1099511627776) (hp:p.Can) (hq:q.Can) (h:PlV w q1 p v) (k:PlV w q2 q u):Calls Tryz.prog 51 #[v,u] w (wam (nT p q) w):=
 kcq w (p.sz+1) p q v u w (Nat.lt_succ_self _) hsz hp hq (h.mono fun _ _=>trivial) (k.mono fun _ _=>trivial) (Ext.refl w)
theorem Fit.small {p:Pl} {E D:Nat} (h:Fit p E D) (hE:E<=170):p.sz<=1073741824:=Nat.le_trans h.sz (Nat.le_trans (Nat.pow_le_pow_left (show E+2<=172 by omega) 4) (by decide))
theorem jbl {w:World} {p q:Pl} {E D:Nat} {q0:Nat->Prop} (v0:Value) {q1:Nat->Prop} (v1:Value) (h0:PlV w q0 p v0) (h1:PlV w q1 q v1) (bW:p.sz<=1073741824) (dO:p.dm<=1099511627776) (jT:q.sz<=1073741824) (nR:q.dm<=1099511627776) (hp:Fit p.nf E D) (hE:E<=170):Calls Tryz.prog 26 #[v0,v1] w (wam (nT p.nf q.nf) w):=by
 have H0:=hid h0;obtain ⟨A0,n0,c0,B0,d0,rfl,-,-,-,-⟩:=h0.open_;clear h0;have H1:=hid h1;obtain ⟨A1,n1,c1,B1,d1,rfl,-,-,-,-⟩:=h1.open_;clear h1;obtain ⟨W,hW⟩:=n_m ((w.alloc (.cells #[.int .i64 (p).lv,.bool (p).neg,.slice A0 n0 c0,.slice B0 (p).cs.length d0] 33)).alloc (.cells #[.int .i64 (q).lv,.bool (q).neg,.slice A1 n1 c1,.slice B1 (q).cs.length d1] 33));have ag:Ext w W:=by rw [<- hW]; exact ((Ext.refl w).alloc _).alloc _
 have bY:W.heap.size=w.heap.size+1+1:=by rw [<- hW]; simp
 have ay:=hid ag;have HS:Hid (∀ W',Ext W W'->(Ext w W'/\W'.cell? ⟨w.heap.size,0,none⟩=some (.int .i64 (p).lv)/\W'.cell? ⟨w.heap.size,1,none⟩=some (.bool (p).neg)/\W'.cell? ⟨w.heap.size,2,none⟩=some (.slice A0 n0 c0)/\W'.cell? ⟨w.heap.size,3,none⟩=some (.slice B0 (p).cs.length d0)/\W'.cell? ⟨w.heap.size+1,0,none⟩=some (.int .i64 (q).lv)/\W'.cell? ⟨w.heap.size+1,1,none⟩=some (.bool (q).neg)/\W'.cell? ⟨w.heap.size+1,2,none⟩=some (.slice A1 n1 c1)/\W'.cell? ⟨w.heap.size+1,3,none⟩=some (.slice B1 (q).cs.length d1))):=by
  have:∀ W',Ext W W'->(Ext w W'/\W'.cell? ⟨w.heap.size,0,none⟩=some (.int .i64 (p).lv)/\W'.cell? ⟨w.heap.size,1,none⟩=some (.bool (p).neg)/\W'.cell? ⟨w.heap.size,2,none⟩=some (.slice A0 n0 c0)/\W'.cell? ⟨w.heap.size,3,none⟩=some (.slice B0 (p).cs.length d0)/\W'.cell? ⟨w.heap.size+1,0,none⟩=some (.int .i64 (q).lv)/\W'.cell? ⟨w.heap.size+1,1,none⟩=some (.bool (q).neg)/\W'.cell? ⟨w.heap.size+1,2,none⟩=some (.slice A1 n1 c1)/\W'.cell? ⟨w.heap.size+1,3,none⟩=some (.slice B1 (q).cs.length d1)):=fun W' hx=>by
   obtain ⟨hc,hf⟩:=hx.cells;refine ⟨ag.trans hx,?_,?_,?_,?_,?_,?_,?_,?_⟩ <;> (rw [hc _ _ (by omega),<- hW]; simp [go_sem])
  exact this
 have iT:=hid (Nat.le_trans (hp.small hE) (show 1073741824<=1099511627776 by decide));clear hp;obtain ⟨-,b0,b1,b2,b3,b4,b5,b6,b7⟩:=HS.out W (Ext.refl W);clear ag;unfold plV at *;go_enter Tryz.func26,Tryz.ntmps26;go_wp2_with fail;clear hW b0 b1 b2 b3 b4 b5 b6 b7;have nG:Ext W W.drew:=(Ext.refl W).drew;have Y0:=hid nG;clear nG
 go_region_held3 (fun W' => Ext w W' /\ W'.cell? ⟨w.heap.size, 0, none⟩ = some (.int .i64 (p).lv) /\ W'.cell? ⟨w.heap.size, 1, none⟩ = some (.bool (p).neg) /\ W'.cell? ⟨w.heap.size, 2, none⟩ = some (.slice A0 n0 c0) /\ W'.cell? ⟨w.heap.size, 3, none⟩ = some (.slice B0 (p).cs.length d0) /\ W'.cell? ⟨w.heap.size + 1, 0, none⟩ = some (.int .i64 (q).lv) /\ W'.cell? ⟨w.heap.size + 1, 1, none⟩ = some (.bool (q).neg) /\ W'.cell? ⟨w.heap.size + 1, 2, none⟩ = some (.slice A1 n1 c1) /\ W'.cell? ⟨w.heap.size + 1, 3, none⟩ = some (.slice B1 (q).cs.length d1))
  (first | with_reducible exact HS.out _ Y0.out | with_reducible exact HS.out _ dZ | with_reducible exact HS.out _ fE | with_reducible exact HS.out _ kG)
  (first
    | (go_at_call 38
       (fail_if_success have _:=dZ)
       refine (zak p _ (H0.out.ext (ay.out.trans Y0.out)) bW dO).mono ?_;rintro e w1 ⟨z1,rfl,m1,x1⟩;obtain ⟨C1,i1,j1,D1,k1,rfl,-⟩:=id m1.open_;have dZ:Ext W w1:=Ext.trans Y0.out x1
       unfold plV)
    | (go_at_call 38
       refine (zak q _ (H1.out.ext (ay.out.trans dZ)) jT nR).mono ?_;rintro e w2 ⟨z2,rfl,m2,x2⟩;obtain ⟨C2,i2,j2,D2,k2,rfl,-⟩:=id m2.open_;have fE:Ext W w2:=Ext.trans dZ x2
       replace m1:=m1.ext x2
       unfold plV)
    | (go_at_call 51
       refine (jci p.nf q.nf _ _ iT.out p.nf_can q.nf_can m1 m2).mono ?_;rintro e w3 ⟨rfl,x3⟩;have kG:Ext W w3:=Ext.trans fE x3
       replace m1:=m1.ext x3
       replace m2:=m2.ext x3))
 have X3:=hid (ay.out.trans kG);clear m1 m2 x1 x2 x3 dZ fE kG HS;generalize nT p.nf q.nf=res at *;go_wp2_with fail;go_ret;exact ⟨rfl,X3.out⟩
end Go.Proofs.YtcepajijiabkmaaGreat
