/- Plain: pseudo-division and exact division, as the program does them. -/
import Derived.Test.YtklnlgnnlmdibaaGreatMr29
import Derived.Test.YtklnlgnnlmdibaaGreatMr12
import Derived.Test.YtklnlgnnlmdibaaGreatMr14
import Derived.Test.YtklnlgnnlmdibaaGreatMr8
import Derived.Test.YtklnlgnnlmdibaaGreatMr19
import Derived.Test.YtklnlgnnlmdibaaGreatMr21
import Derived.Test.YtklnlgnnlmdibaaGreatMr17
set_option linter.unusedSimpArgs false
set_option linter.unusedVariables false

namespace Go.Proofs.YtklnlgnnlmdibaaGreat
def Pl.sub (p q:Pl):Pl:=p.add q.opp
theorem Pl.sub_val (ρ:Int->Rat) (p q:Pl):(p.sub q).val ρ=p.val ρ - q.val ρ:=by unfold Pl.sub; rw [Pl.add_val,Pl.opp_val]; grind
theorem yj.sub {l:Int} {p q:Pl} (h:yj l p) (k:yj l q):yj l (p.sub q):=h.add k.opp
theorem Fit.sub {p q:Pl} {E D F G:Nat} (h:Fit p E D) (k:Fit q F G):Fit (p.sub q) (max E F) (max D (G+1)+1):=h.add k.opp
def jaa (g:List Pl) (k:Nat) (rest:List Pl):List Pl:=
 (List.range (g.length - 1+k)).map fun j =>
   if k<=j then ((rest.getD j Pl.zero).mul (g.getD (g.length - 1) Pl.zero)).sub ((rest.getD (g.length - 1+k) Pl.zero).mul (g.getD (j - k) Pl.zero))
   else (rest.getD j Pl.zero).mul (g.getD (g.length - 1) Pl.zero)
def yw (g : List Pl) : Nat -> List Pl -> List Pl
 | 0,rest=>rest
 | k+1,rest=>yw g k (jaa g k rest)
def jae (l:Int) (f g:Pl):Pl:=if 1<=l/\l<=4 then if g.isZ=true then Pl.zero else joinL l (yw (g.cfL l) ((f.cfL l).length - ((g.cfL l).length - 1)) (f.cfL l)) else Pl.zero
theorem uaq (g:List Pl) (k:Nat) (rest:List Pl):(jaa g k rest).length=g.length - 1+k:=by
 unfold jaa;rw [List.length_map,List.length_range]
theorem ka5 (g : List Pl) : ∀ (k : Nat) (rest : List Pl), rest.length = g.length - 1 + k -> (yw g k rest).length = g.length - 1
 | 0,rest,h=>h
 | k+1,rest,h=>by rw [yw]; exact ka5 g k _ (uaq g k rest)
structure El (l : Int) (n : Int) (E D : Nat) (c : Pl) : Prop where
 fit:Fit c E D
 ind:yj l c
 lv:c.lv<=n
theorem El.zero {l n:Int} {E D:Nat} (hn:0<=n):El l n E D Pl.zero:=⟨Fit.zero,qau l,hn⟩
theorem El.mono {l n:Int} {E D F G:Nat} {c:Pl} (h:El l n E D c) (hE:E<=F) (hD:D<=G):El l n F G c:=⟨h.fit.mono hE hD,h.ind,h.lv⟩
theorem El.mul {l n:Int} {E D F G:Nat} {c d:Pl} (h:El l n E D c) (k:El l n F G d) (hn4:n<=4):El l n (E+F) (D+G) (c.mul d):=⟨h.fit.mul k.fit,h.ind.mul k.ind,Pl.mul_lv h.fit.can k.fit.can h.lv k.lv hn4⟩
theorem Pl.opp_lv {p:Pl} (h:p.Can) {n:Int} (hp:p.lv<=n) (hn:0<=n) (hn4:n<=4):p.opp.lv<=n:=Pl.mul_lv h (uw _) hp hn hn4
theorem El.sub {l n:Int} {E D F G:Nat} {c d:Pl} (h:El l n E D c) (k:El l n F G d) (hn:0<=n) (hn4:n<=4):El l n (max E F) (max D (G+1)+1) (c.sub d):=⟨h.fit.sub k.fit,h.ind.sub k.ind,Pl.add_lv h.fit.can (Pl.opp_can _) h.lv (Pl.opp_lv k.fit.can k.lv hn hn4) hn4⟩
section
variable {l n:Int} {E D F G:Nat} (hn:0<=n) (hn4:n<=4)
include hn hn4
theorem vbu {g rest:List Pl} (hg:∀ c ∈ g,El l n F G c) (hr:∀ c ∈ rest,El l n E D c) (k:Nat):∀ c ∈ jaa g k rest,El l n (E+F) (D+G+2) c:=by
 intro c hc;obtain ⟨j,-,rfl⟩:=List.mem_map.1 hc;have hz:∀ i,El l n E D (rest.getD i Pl.zero):=vau (El.zero hn) hr;have hy:∀ i,El l n F G (g.getD i Pl.zero):=vau (El.zero hn) hg;have h1:=(hz j).mul (hy (g.length - 1)) hn4
 split
 · exact (h1.sub ((hz (g.length - 1+k)).mul (hy (j - k)) hn4) hn hn4).mono (by omega) (by omega)
 · exact h1.mono (by omega) (by omega)
theorem jap {g : List Pl} (hg : ∀ c ∈ g, El l n F G c) : ∀ (k : Nat) (E D : Nat) (rest : List Pl), (∀ c ∈ rest, El l n E D c) -> ∀ c ∈ yw g k rest, El l n (E + k * F) (D + k * (G + 2)) c
 | 0,E,D,rest,hr,c,hc=>(hr c hc).mono (by omega) (by omega)
 | k+1,E,D,rest,hr,c,hc=>by
   have:=jap hg k (E+F) (D+G+2) _ (vbu hn hn4 hg hr k) c hc;exact this.mono (by rw [Nat.succ_mul]; omega) (by rw [Nat.succ_mul]; omega)
end
theorem gbo {l:Int} (hl:1<=l) (hl4:l<=4) {cs:List Pl} (hc:∀ c ∈ cs,c.Can) (hi:∀ c ∈ cs,yj l c):uak l (joinL l cs) (ji cs):=
 ⟨fun c h=>hc c (vam h),fun c h=>hi c (vam h),fun ρ=>by rw [gag hl hl4,wa4 ρ l hc],kaz hc⟩
theorem zb2 {l:Int} (hl:1<=l) (hl4:l<=4) {cs:List Pl} (hc:∀ c ∈ cs,c.Can) (hi:∀ c ∈ cs,yj l c):(joinL l cs).cfL l=ji cs:=(Pl.cfL_coefs hl hl4 (kal l cs)).uniq (gbo hl hl4 hc hi)
theorem za5 : ∀ cs : List Pl, (ji cs).length <= cs.length
 | []=>Nat.le_refl _
 | c :: r=>by
   have:=za5 r;rw [ji]
   split
   · exact Nat.zero_le _
   · simpa using this
theorem xbc {l:Int} (hl:1<=l) (hl4:l<=4) {cs:List Pl} (hc:∀ c ∈ cs,c.Can) (hi:∀ c ∈ cs,yj l c):mdg l (joinL l cs) < cs.length:=by
 unfold mdg;rw [zb2 hl hl4 hc hi];have:=za5 cs;omega
theorem ycb {l n:Int} (hn:0<=n) (hln:l<=n) {cs:List Pl} (hc:∀ c ∈ cs,c.Can/\c.lv<=n):(joinL l cs).lv<=n:=by
 unfold joinL
 split
 · rename_i hl;refine ybj hn (Pl.nf_can _) (Low.nf fun ρ ρ' he=>?_);rw [Pl.mk_val ρ _ _ _ (by omega) hl.2,Pl.mk_val ρ' _ _ _ (by omega) hl.2];exact xag (he l hln) _ fun c h=>Pl.val_low c (hc c h).1 fun j hj=>he j (by have:=(hc c h).2; omega)
 · exact hn
theorem jas {l n:Int} {p:Pl} {E D:Nat} (hl:1<=l) (hl4:l<=4) (h:Fit p E D) (hn:p.lv<=n):∀ c ∈ p.cfL l,El l n E D c:=fun c hc=>⟨Pl.cfL_fit h c hc,qah hl hl4 h.can c hc,Int.le_trans (Pl.cfL_lv h.can c hc) hn⟩
theorem zb9 (l:Int) (f g:Pl):(jae l f g).Can:=by
 unfold jae
 split
 · split
   · exact Pl.zero_can
   · exact kal _ _
 · exact Pl.zero_can
theorem ja0 (g:List Pl) (rest:List Pl):yw g 0 rest=rest:=rfl
theorem ja9 {l:Int} (f g:Pl) (hg:0 < (g.cfL l).length):(yw (g.cfL l) ((f.cfL l).length - ((g.cfL l).length - 1)) (f.cfL l)).length<=(g.cfL l).length - 1:=by
 by_cases h:(g.cfL l).length - 1<=(f.cfL l).length
 · rw [ka5 _ _ _ (by omega)];exact Nat.le_refl _
 · rw [show (f.cfL l).length - ((g.cfL l).length - 1)=0 by omega,ja0];omega
section
variable {l:Int} (hl:1<=l) (hl4:l<=4) {f g:Pl} {E D F G:Nat}
include hl hl4
theorem wb8 (hf:f.Can) (hg:g.Can) (hg0:g ≠ Pl.zero):mdg l (jae l f g) < mdg l g:=by
 obtain ⟨E,hE⟩:∃ E,Fit f E f.nr:=⟨_,Pl.fit_of hf f.ex_self⟩;obtain ⟨F,hF⟩:∃ F,Fit g F g.nr:=⟨_,Pl.fit_of hg g.ex_self⟩;have hel:=jap (l:=l) (n:=4) (by omega) (by omega) (jas hl hl4 hF hg.lv_nonneg.2) ((f.cfL l).length - ((g.cfL l).length - 1)) _ _ _ (jas hl hl4 hE hf.lv_nonneg.2);have hlen:=List.length_pos_iff.2 (qbl hl hl4 hg hg0);have h1:=ja9 f g hlen;unfold jae;rw [if_pos ⟨hl,hl4⟩,if_neg (fun e=>hg0 ((Pl.zero_isZ hg).1 e))];have h2:=xbc hl hl4 (fun c hc=>(hel c hc).fit.can) (fun c hc=>(hel c hc).ind);rw [show mdg l g=(g.cfL l).length - 1 from rfl];omega
theorem gbq {n:Int} (hln:l<=n) (hn4:n<=4) (hf:Fit f E D) (hg:Fit g F G) (hfl:f.lv<=n) (hgl:g.lv<=n) (hF:F < B32):Fit (jae l f g) (E+(E+1) * F+F) (D+(E+1) * (G+2)+1)/\(jae l f g).lv<=n:=by
 unfold jae;rw [if_pos ⟨hl,hl4⟩]
 split
 · exact ⟨Fit.zero,by show (0:Int)<=n; omega⟩
 · rename_i hz;have hg0:g ≠ Pl.zero:=fun e=>hz ((Pl.zero_isZ hg.can).2 e)
   have hlen:=List.length_pos_iff.2 (qbl hl hl4 hg.can hg0);have hfl':=qy (l:=l) hf.can hf.ex;have hgl':=qy (l:=l) hg.can hg.ex;have h1:=ja9 f g hlen;have hel:=jap (l:=l) (n:=n) (by omega) hn4 (jas hl hl4 hg hgl) ((f.cfL l).length - ((g.cfL l).length - 1)) _ _ _ (jas hl hl4 hf hfl);have hk:(f.cfL l).length - ((g.cfL l).length - 1)<=E+1:=by omega
   have hel':∀ c ∈ yw (g.cfL l) ((f.cfL l).length - ((g.cfL l).length - 1)) (f.cfL l),El l n (E+(E+1) * F+F) (D+(E+1) * (G+2)) c:=fun c hc =>
    (hel c hc).mono (by have:=Nat.mul_le_mul_right F hk; omega) (by have:=Nat.mul_le_mul_right (G+2) hk; omega)
   exact ⟨kax (fun c hc=>⟨(hel' c hc).fit.can,(hel' c hc).ind,(hel' c hc).fit.ex⟩) (by omega) (ua3 (fun c hc=>(hel' c hc).fit) (by omega)),ycb (by omega) hln fun c hc=>⟨(hel' c hc).fit.can,(hel' c hc).lv⟩⟩
end
end Go.Proofs.YtklnlgnnlmdibaaGreat

/- Equality of integers and of polynomials: cylinderref34.SameInt, cylinderref38.SamePoly, integer.Same, recpoly.same, Same. -/
namespace Go.Proofs.YtklnlgnnlmdibaaGreat
open Go.RowKit
noncomputable def eqB {α:Type} (a b:α):Bool:=@decide (a=b) (Classical.propDecidable _)
theorem jba {α:Type} {a b:α}:eqB a b=true ↔ a=b:=by unfold eqB; exact @decide_eq_true_iff _ (Classical.propDecidable _)
theorem ual {α:Type} {a b:α} (h:a ≠ b):eqB a b=false:=by
 cases hb:eqB a b
 · rfl
 · exact absurd (jba.1 hb) h
theorem qag {α:Type} {a b:α} (h:a=b):eqB a b=true:=jba.2 h
theorem jb4 {α β:Type} {a b:α} {c d:β} (h:a=b ↔ c=d):eqB a b=eqB c d:=by
 by_cases hh:a=b
 · rw [qag hh,qag (h.1 hh)]
 · rw [ual hh,ual fun e=>hh (h.2 e)]
theorem gby {α:Type} {l r:List α} {k:Nat} (h:l.take k=r.take k) (hl:k < l.length) (hr:k < r.length) (he:l[k]=r[k]):l.take (k+1)=r.take (k+1):=by
 rw [List.take_succ_eq_append_getElem hl,List.take_succ_eq_append_getElem hr,h,he]
theorem jb6 {α:Type} {l r:List α} (h:l.length=r.length) (he:l.take l.length=r.take l.length):l=r:=by
 rw [List.take_length] at he;rw [he,h,List.take_length]
theorem Pl.ext_ {p q:Pl} (h1:p.lv=q.lv) (h2:p.neg=q.neg) (h3:p.ds=q.ds) (h4:p.cs=q.cs):p=q:=by
 obtain ⟨l,n,d,c⟩:=p;obtain ⟨l',n',d',c'⟩:=q;simp only [Pl.lv,Pl.neg,Pl.ds,Pl.cs] at h1 h2 h3 h4;rw [h1,h2,h3,h4]
theorem Pl.Can.kid_can {p:Pl} (h:p.Can) {c:Pl} (hc:c ∈ p.cs):c.Can:=by
 obtain ⟨l,n,d,cs⟩:=p;unfold Pl.Can at h;rcases h with h | h
 · simp only [Pl.cs,h.2.1] at hc; cases hc
 · exact (h.2.2.2.2.2.1.mem c hc).2
end Go.Proofs.YtklnlgnnlmdibaaGreat

/- integer.Same, recpoly.same. -/
set_option maxRecDepth 100000
set_option maxHeartbeats 8000000
namespace Go.Proofs.YtklnlgnnlmdibaaGreat
open Go.RowKit
theorem qbc (x y:Value) (a b:Int) (L M:Nat) (w:World) (h:jk w x a L) (k:jk w y b M):Calls Tryz.prog 71 #[x,y] w (kak (eqB a b) w):=by
 have H:=Lib.hid h;have K:=Lib.hid k;obtain ⟨n1,s1,ds,rfl,⟨A1,c1,rfl,-⟩,-⟩:=h;obtain ⟨n2,s2,es,rfl,⟨A2,c2,rfl,-⟩,-⟩:=k;obtain ⟨W,hW⟩:∃ W,(w.alloc (.cells #[.bool n1,.slice A1 ds.length c1] 33)).alloc (.cells #[.bool n2,.slice A2 es.length c2] 33)=W:=⟨_,rfl⟩;have hWx:Ext w W:=by rw [<- hW]; exact ((Ext.refl w).alloc _).alloc _
 have q0:W.cell? ⟨w.heap.size,0,none⟩=some (.bool n1):=by rw [<- hW]; simp [go_sem]
 have q1:W.cell? ⟨w.heap.size,1,none⟩=some (.slice A1 ds.length c1):=by rw [<- hW]; simp [go_sem]
 have q2:W.cell? ⟨w.heap.size+1,0,none⟩=some (.bool n2):=by rw [<- hW]; simp [go_sem]
 have q3:W.cell? ⟨w.heap.size+1,1,none⟩=some (.slice A2 es.length c2):=by rw [<- hW]; simp [go_sem]
 have HWX:=Lib.hid hWx;have HC:=Lib.hid (kcj _ _ a b _ _ W (H.out.ext hWx) (K.out.ext hWx));clear hWx;have HE:Hid ((zh a b == 0)=eqB a b):=by
  have:(zh a b == 0)=eqB a b:=by
   by_cases hab:a=b
   · rw [qag hab,hab]; simp [zh]
   · rw [ual hab];simp only [zh]
     split <;> (try split) <;> simp <;> omega
  exact this
 go_enter Tryz.func71,Tryz.ntmps71;go_wp2_with fail;clear hW q0 q1 q2 q3;refine HC.out.mono ?_;rintro e w1 ⟨rfl,x1⟩;have X1:=Lib.hid (HWX.out.trans x1);clear x1 HC;generalize zh a b=cq at *;go_wp2_with fail;go_ret;exact ⟨by rw [<- HE.out]; rfl,X1.out⟩
def ych (w0:World) (n:Nat):Prop:=∀ (p q:Pl) (v u:Value) (w:World),p.sz < n->p.sz<=1099511627776->p.Can->q.Can->PlV w0 (fun _=>True) p v->PlV w0 (fun _=>True) q u->Ext w0 w->Calls Tryz.prog 53 #[v,u] w (kak (eqB p q) w)
theorem qb8 (w0:World) (n:Nat):ych w0 n:=by
 induction n with
 | zero=>intro p q v u w h; omega
 | succ n ih =>
 intro p q v u w hn hsz hp hq h h' hx0;have IH:=Lib.hid ih;have HX0:=Lib.hid hx0;have HSZ:Hid (∀ k (hk:k < p.cs.length),p.cs[k].sz < n/\p.cs[k].sz<=1099511627776):=by
  have:∀ k (hk:k < p.cs.length),p.cs[k].sz < n/\p.cs[k].sz<=1099511627776:=fun k hk=>by have:=Pl.sz_kid (List.getElem_mem hk); omega
  exact this
 have hszl:=p.sz_len;have HKC:Hid ((∀ k (hk:k < p.cs.length),p.cs[k].Can)/\∀ k (hk:k < q.cs.length),q.cs[k].Can):=by
  have:(∀ k (hk:k < p.cs.length),p.cs[k].Can)/\∀ k (hk:k < q.cs.length),q.cs[k].Can:=⟨fun k hk=>hp.kid_can (List.getElem_mem hk),fun k hk=>hq.kid_can (List.getElem_mem hk)⟩;exact this
 have HPC:=Lib.hid hp;have HQC:=Lib.hid hq;obtain ⟨A0,n0,c0,A,c,rfl,hnat,hl1,hl2,h4⟩:=h.open_;obtain ⟨B0,m0,d0,B,d,rfl,hnat',hl1',hl2',h4'⟩:=h'.open_;have H4:=Lib.hid h4;have H4':=Lib.hid h4';have HN:=Lib.hid hnat;have HN':=Lib.hid hnat';obtain ⟨W,hW⟩:∃ W,(w.alloc (.cells #[.int .i64 p.lv,.bool p.neg,.slice A0 n0 c0,.slice A p.cs.length c] 35)).alloc (.cells #[.int .i64 q.lv,.bool q.neg,.slice B0 m0 d0,.slice B q.cs.length d] 35)=W:=⟨_,rfl⟩;have hWx:Ext w W:=by rw [<- hW]; exact ((Ext.refl w).alloc _).alloc _
 have hWs:W.heap.size=w.heap.size+1+1:=by rw [<- hW]; simp
 have hbx:jb W w.heap.size p (.slice A0 n0 c0) (.slice A p.cs.length c):=by rw [<- hW]; exact (jb.new w p _ _ _).ext ((Ext.refl _).alloc _) (by simp)
 have hby:jb W (w.heap.size+1) q (.slice B0 m0 d0) (.slice B q.cs.length d):=by
  rw [<- hW];have h1:=jb.new (w.alloc (.cells #[.int .i64 p.lv,.bool p.neg,.slice A0 n0 c0,.slice A p.cs.length c] 35)) q (.slice B0 m0 d0) (.slice B q.cs.length d) 35;simpa using h1
 have HWX:=Lib.hid hWx;have HBX:=Lib.hid hbx;have HBY:=Lib.hid hby;obtain ⟨b0,b1,b2,b3⟩:=hbx;obtain ⟨e0,e1,e2,e3⟩:=hby;clear h h' ih h4 h4' hx0 hnat hnat' hWx hp hq;obtain ⟨res,hres⟩:∃ res,eqB p q=res:=⟨_,rfl⟩;rw [hres];have HRES:=Lib.hid hres;clear hres;unfold plV;go_enter Tryz.func53,Tryz.ntmps53
 by_cases hlv:p.lv=q.lv
 case neg =>
  have HF:Hid (res=false):=Lib.hid (HRES.out.symm.trans (ual fun e=>hlv (by rw [e])));have hlv2:(p.lv != q.lv)=true:=by simpa using hlv
  go_wp2_with fail;go_ret;exact ⟨by rw [HF.out]; rfl,HWX.out⟩
 by_cases hl:p.cs.length=q.cs.length
 case neg =>
  have HF:Hid (res=false):=Lib.hid (HRES.out.symm.trans (ual fun e=>hl (by rw [e])));have HL:=Lib.hid hlv;rw [<- hlv] at e0 hW;clear hlv;rw [<- HL.out];go_wp2_with fail;go_ret;exact ⟨by rw [HF.out]; rfl,HWX.out⟩
 have HLV:=Lib.hid hlv;have HL:=Lib.hid hl;rw [<- hlv] at e0 hW;rw [<- hl] at e3 hW hl1' HBY;rw [<- hlv,<- hl];clear hlv hl
 by_cases hz:p.lv=0
 · have hz2:(p.lv == 0)=true:=by simpa using hz
   have HZ:=Lib.hid hz;have hip:jk W (.agg #[.bool p.neg,.slice A0 n0 c0]) p.z p.ds.length:=⟨_,_,_,rfl,HN.out.ext (HX0.out.trans HWX.out),rfl,Nat.le_refl _⟩;have hiq:jk W (.agg #[.bool q.neg,.slice B0 m0 d0]) q.z q.ds.length:=⟨_,_,_,rfl,HN'.out.ext (HX0.out.trans HWX.out),rfl,Nat.le_refl _⟩;have HSI:=Lib.hid (qbc _ _ p.z q.z _ _ W hip hiq);clear hip hiq hz;go_wp2_with fail;clear hW b0 b1 b2 b3 e0 e1 e2 e3;refine HSI.out.mono ?_;rintro e w1 ⟨rfl,x1⟩;have HF:Hid (eqB p.z q.z=res):=Lib.hid ((jb4 ⟨fun e=>by rw [kaj HPC.out HZ.out,kaj HQC.out (HLV.out.symm.trans HZ.out),e],fun e=>by rw [e]⟩).trans HRES.out);have X1:=Lib.hid (HWX.out.trans x1);clear x1 HSI;generalize eqB p.z q.z=bz at *;go_wp2_with fail;go_ret;exact ⟨by rw [HF.out]; rfl,X1.out⟩
 have hz2:(p.lv == 0)=false:=by simpa using hz
 have HND:Hid ((p.neg,p.ds)=(q.neg,q.ds)):=by
  have h1:=HPC.out.lv_nonneg.1;obtain ⟨l,ng,ds,cs⟩:=p;obtain ⟨l',ng',ds',cs'⟩:=q;have hl:0 < l:=by simp only [Pl.lv] at h1 hz; omega
  have e1:=HPC.out.kids hl;have e2:=HQC.out.kids (by have:=HLV.out; simp only [Pl.lv] at this; omega);show ((ng,ds)=(ng',ds'));rw [e1.1,e1.2.1,e2.1,e2.2.1]
 obtain ⟨w1,hw1⟩:∃ w1,W=w1:=⟨_,rfl⟩;have X1:Hid (Ext w w1):=Lib.hid (by rw [<- hw1]; exact HWX.out);have hws:W.heap.size<=w1.heap.size:=by rw [hw1]; exact Nat.le_refl _
 have HBX1:Hid (jb w1 w.heap.size p (.slice A0 n0 c0) (.slice A p.cs.length c)):=Lib.hid (by rw [<- hw1]; exact HBX.out);have HBY1:Hid (jb w1 (w.heap.size+1) q (.slice B0 m0 d0) (.slice B p.cs.length d)):=Lib.hid (by rw [<- hw1]; exact HBY.out);have hw1':=Lib.hid hw1;clear hw1 hz HPC HQC HN HN';go_wp2_with fail;clear hW b0 b1 b2 b3 e0 e1 e2 e3;obtain rfl:W=w1:=hw1'.out
 go_loopw [31] (fun iv wr=>∃ k:Nat,k<=p.cs.length/\iv=.int .i64 k/\Hid (p.cs.take k=q.cs.take k/\Ext W wr)) (fun iv _=>p.cs.length - (intOf iv).toNat)
 case atStart=>exact ⟨0,Nat.zero_le _,rfl,⟨by simp,Ext.refl _⟩⟩
 case round =>
  obtain ⟨k,hk,rfl,⟨htk,hx⟩⟩:=hrel;have HX:=Lib.hid hx;have HT:=Lib.hid htk;obtain ⟨b0,b1,b2,b3⟩:=HBX1.out.ext hx (by omega);obtain ⟨e0,e1,e2,e3⟩:=HBY1.out.ext hx (by omega);have hws2:=hx.size;clear hx htk
  by_cases hlt:k < p.cs.length
  · have hlt':k < q.cs.length:=by have:=HL.out; omega
    obtain ⟨ad,C0,j0,f0,C1,j1,f1,rfl,hadb,hnd,hkt⟩:=jd.kid H4.out k hlt;obtain ⟨ad',D0,i0,g0,D1,i1,g1,rfl,hadb',hnd',hkt'⟩:=jd.kid H4'.out k hlt';have hxx:Ext w0 wr:=(HX0.out.trans X1.out).trans HX.out;have HNA:=Lib.hid (hnd.ext hxx (by rw [ja]; exact hadb));have HNB:=Lib.hid (hnd'.ext hxx (by rw [ja]; exact hadb'));have hb1:ad.block < wr.heap.size:=Nat.lt_of_lt_of_le hadb hxx.size;have hb2:ad'.block < wr.heap.size:=Nat.lt_of_lt_of_le hadb' hxx.size;have HKID:=Lib.hid (fun W' (hW':Ext wr W')=>IH.out p.cs[k] q.cs[k] _ _ W' (HSZ.out k hlt).1 (HSZ.out k hlt).2 (HKC.out.1 k hlt) (HKC.out.2 k hlt') hkt hkt' (hxx.trans hW'));have HSTEP:Hid (p.cs[k]=q.cs[k]->p.cs.take (k+1)=q.cs.take (k+1)):=Lib.hid (gby HT.out hlt hlt');have HNE:Hid (p.cs[k] ≠ q.cs[k]->res=false):=Lib.hid (fun hne=>HRES.out.symm.trans (ual fun e=>hne (by subst e; rfl)));unfold plV at HKID;generalize p.cs[k]=pk at *;generalize q.cs[k]=qk at *;have HSS:Hid (∀ W2,Ext wr W2->(Ext wr W2/\W2.cell? ⟨w.heap.size,3,none⟩=some (.slice (some ad) p.cs.length c)/\W2.cell? ⟨w.heap.size+1,3,none⟩=some (.slice (some ad') p.cs.length d)/\W2.cell? (Addr.add ad (k * 4))=some (.int .i64 pk.lv)/\W2.cell? ⟨(Addr.add ad (k * 4)).block,(Addr.add ad (k * 4)).off+1,none⟩=some (.bool pk.neg)/\W2.cell? ⟨(Addr.add ad (k * 4)).block,(Addr.add ad (k * 4)).off+2,none⟩=some (.slice C0 j0 f0)/\W2.cell? ⟨(Addr.add ad (k * 4)).block,(Addr.add ad (k * 4)).off+3,none⟩=some (.slice C1 j1 f1)/\W2.cell? (Addr.add ad' (k * 4))=some (.int .i64 qk.lv)/\W2.cell? ⟨(Addr.add ad' (k * 4)).block,(Addr.add ad' (k * 4)).off+1,none⟩=some (.bool qk.neg)/\W2.cell? ⟨(Addr.add ad' (k * 4)).block,(Addr.add ad' (k * 4)).off+2,none⟩=some (.slice D0 i0 g0)/\W2.cell? ⟨(Addr.add ad' (k * 4)).block,(Addr.add ad' (k * 4)).off+3,none⟩=some (.slice D1 i1 g1))):=by
     have:∀ W2,Ext wr W2->(Ext wr W2/\W2.cell? ⟨w.heap.size,3,none⟩=some (.slice (some ad) p.cs.length c)/\W2.cell? ⟨w.heap.size+1,3,none⟩=some (.slice (some ad') p.cs.length d)/\W2.cell? (Addr.add ad (k * 4))=some (.int .i64 pk.lv)/\W2.cell? ⟨(Addr.add ad (k * 4)).block,(Addr.add ad (k * 4)).off+1,none⟩=some (.bool pk.neg)/\W2.cell? ⟨(Addr.add ad (k * 4)).block,(Addr.add ad (k * 4)).off+2,none⟩=some (.slice C0 j0 f0)/\W2.cell? ⟨(Addr.add ad (k * 4)).block,(Addr.add ad (k * 4)).off+3,none⟩=some (.slice C1 j1 f1)/\W2.cell? (Addr.add ad' (k * 4))=some (.int .i64 qk.lv)/\W2.cell? ⟨(Addr.add ad' (k * 4)).block,(Addr.add ad' (k * 4)).off+1,none⟩=some (.bool qk.neg)/\W2.cell? ⟨(Addr.add ad' (k * 4)).block,(Addr.add ad' (k * 4)).off+2,none⟩=some (.slice D0 i0 g0)/\W2.cell? ⟨(Addr.add ad' (k * 4)).block,(Addr.add ad' (k * 4)).off+3,none⟩=some (.slice D1 i1 g1)):=fun W2 hx2=>by
      obtain ⟨a0,a1,a2,a3⟩:=HNA.out.ext hx2 (by rw [ja]; exact hb1);obtain ⟨a0',a1',a2',a3'⟩:=HNB.out.ext hx2 (by rw [ja]; exact hb2);exact ⟨hx2,(hx2.cell (p:=⟨w.heap.size,3,none⟩) (by show w.heap.size < _; omega)).trans b3,(hx2.cell (p:=⟨w.heap.size+1,3,none⟩) (by show w.heap.size+1 < _; omega)).trans e3,a0,a1,a2,a3,a0',a1',a2',a3'⟩
     exact this
    clear hnd hnd' hkt hkt' hxx hadb hadb';have y0:Ext wr wr.drew:=(Ext.refl wr).drew;have Y0:=Lib.hid y0;clear y0;go_upto_region 8 with fail;clear b0 b1 b2 b3 e0 e1 e2 e3
    go_region_held3 (fun W2 => Ext wr W2 /\ W2.cell? ⟨w.heap.size, 3, none⟩ = some (.slice (some ad) p.cs.length c) /\ W2.cell? ⟨w.heap.size + 1, 3, none⟩ = some (.slice (some ad') p.cs.length d) /\ W2.cell? (Addr.add ad (k * 4)) = some (.int .i64 pk.lv) /\ W2.cell? ⟨(Addr.add ad (k * 4)).block, (Addr.add ad (k * 4)).off + 1, none⟩ = some (.bool pk.neg) /\ W2.cell? ⟨(Addr.add ad (k * 4)).block, (Addr.add ad (k * 4)).off + 2, none⟩ = some (.slice C0 j0 f0) /\ W2.cell? ⟨(Addr.add ad (k * 4)).block, (Addr.add ad (k * 4)).off + 3, none⟩ = some (.slice C1 j1 f1) /\ W2.cell? (Addr.add ad' (k * 4)) = some (.int .i64 qk.lv) /\ W2.cell? ⟨(Addr.add ad' (k * 4)).block, (Addr.add ad' (k * 4)).off + 1, none⟩ = some (.bool qk.neg) /\ W2.cell? ⟨(Addr.add ad' (k * 4)).block, (Addr.add ad' (k * 4)).off + 2, none⟩ = some (.slice D0 i0 g0) /\ W2.cell? ⟨(Addr.add ad' (k * 4)).block, (Addr.add ad' (k * 4)).off + 3, none⟩ = some (.slice D1 i1 g1))
     (first | with_reducible exact HSS.out _ Y0.out | with_reducible exact HSS.out _ y1)
     ((go_at_call 53
       refine (HKID.out _ Y0.out).mono ?_;rintro e v1 ⟨rfl,x1⟩
       have y1:Ext wr v1:=Ext.trans Y0.out x1))
    all_goals
     have X2:=Lib.hid (HX.out.trans y1);clear y1 x1 HKID HSS Y0
     by_cases hpq:pk=qk
     · have HT2:=Lib.hid (HSTEP.out hpq);rw [qag hpq];clear hpq;go_wp2_with fail
       go_roundw
       case rel=>exact ⟨k+1,by omega,by go_num,⟨HT2.out,X2.out⟩⟩
       case measure=>simp [intOf]; omega
     · have HF:=Lib.hid (HNE.out hpq);rw [ual hpq];clear hpq;go_wp2_with fail;go_ret;exact ⟨by rw [HF.out]; rfl,X1.out.trans X2.out⟩
  · have HF:Hid (res=true):=Lib.hid (HRES.out.symm.trans (qag (by
     have h1:=HT.out;rw [show k=p.cs.length by omega] at h1;have h2:=jb6 HL.out h1;have h3:=HND.out
     exact Pl.ext_ HLV.out (congrArg Prod.fst h3) (congrArg Prod.snd h3) h2)))
    clear b0 b1 b2 b3 e0 e1 e2 e3;go_wp2_with fail;go_ret;exact ⟨by rw [HF.out]; rfl,X1.out.trans HX.out⟩
theorem zb0 {w:World} {q1 q2:Nat->Prop} (p q:Pl) (v u:Value) (hsz:p.sz<=1099511627776) (hp:p.Can) (hq:q.Can) (h:PlV w q1 p v) (k:PlV w q2 q u):Calls Tryz.prog 53 #[v,u] w (kak (eqB p q) w):=
 qb8 w (p.sz+1) p q v u w (Nat.lt_succ_self _) hsz hp hq (h.mono fun _ _=>trivial) (k.mono fun _ _=>trivial) (Ext.refl w)
end Go.Proofs.YtklnlgnnlmdibaaGreat

/- Layer 22: recpoly.Same; polynomials of a small size. -/
set_option maxRecDepth 100000
set_option maxHeartbeats 8000000
namespace Go.Proofs.YtklnlgnnlmdibaaGreat
open Go.RowKit
theorem Fit.small {p:Pl} {E D:Nat} (h:Fit p E D) (hE:E<=170):p.sz<=1073741824:=Nat.le_trans h.sz (Nat.le_trans (Nat.pow_le_pow_left (show E+2<=172 by omega) 4) (by decide))
theorem yax {w:World} {p q:Pl} {E D:Nat} {q0:Nat->Prop} (v0:Value) {q1:Nat->Prop} (v1:Value) (h0:PlV w q0 p v0) (h1:PlV w q1 q v1) (hs1:p.sz<=1073741824) (hd1:p.dm<=1099511627776) (hs2:q.sz<=1073741824) (hd2:q.dm<=1099511627776) (hp:Fit p.nf E D) (hE:E<=170):Calls Tryz.prog 22 #[v0,v1] w (kak (eqB p.nf q.nf) w):=by
 have H0:=Lib.hid h0;obtain ⟨A0,n0,c0,B0,d0,rfl,-,-,-,-⟩:=h0.open_;clear h0;have H1:=Lib.hid h1;obtain ⟨A1,n1,c1,B1,d1,rfl,-,-,-,-⟩:=h1.open_;clear h1;obtain ⟨W,hW⟩:∃ W,(w.alloc (.cells #[.int .i64 (p).lv,.bool (p).neg,.slice A0 n0 c0,.slice B0 (p).cs.length d0] 35)).alloc (.cells #[.int .i64 (q).lv,.bool (q).neg,.slice A1 n1 c1,.slice B1 (q).cs.length d1] 35)=W:=⟨_,rfl⟩;have hWx:Ext w W:=by rw [<- hW]; exact ((Ext.refl w).alloc _).alloc _
 have hWs:W.heap.size=w.heap.size+1+1:=by rw [<- hW]; simp
 have HX0:=Lib.hid hWx;have HS:Hid (∀ W',Ext W W'->(Ext w W'/\W'.cell? ⟨w.heap.size,0,none⟩=some (.int .i64 (p).lv)/\W'.cell? ⟨w.heap.size,1,none⟩=some (.bool (p).neg)/\W'.cell? ⟨w.heap.size,2,none⟩=some (.slice A0 n0 c0)/\W'.cell? ⟨w.heap.size,3,none⟩=some (.slice B0 (p).cs.length d0)/\W'.cell? ⟨w.heap.size+1,0,none⟩=some (.int .i64 (q).lv)/\W'.cell? ⟨w.heap.size+1,1,none⟩=some (.bool (q).neg)/\W'.cell? ⟨w.heap.size+1,2,none⟩=some (.slice A1 n1 c1)/\W'.cell? ⟨w.heap.size+1,3,none⟩=some (.slice B1 (q).cs.length d1))):=by
  have:∀ W',Ext W W'->(Ext w W'/\W'.cell? ⟨w.heap.size,0,none⟩=some (.int .i64 (p).lv)/\W'.cell? ⟨w.heap.size,1,none⟩=some (.bool (p).neg)/\W'.cell? ⟨w.heap.size,2,none⟩=some (.slice A0 n0 c0)/\W'.cell? ⟨w.heap.size,3,none⟩=some (.slice B0 (p).cs.length d0)/\W'.cell? ⟨w.heap.size+1,0,none⟩=some (.int .i64 (q).lv)/\W'.cell? ⟨w.heap.size+1,1,none⟩=some (.bool (q).neg)/\W'.cell? ⟨w.heap.size+1,2,none⟩=some (.slice A1 n1 c1)/\W'.cell? ⟨w.heap.size+1,3,none⟩=some (.slice B1 (q).cs.length d1)):=fun W' hx=>by
   obtain ⟨hc,hf⟩:=hx.cells;refine ⟨hWx.trans hx,?_,?_,?_,?_,?_,?_,?_,?_⟩ <;> (rw [hc _ _ (by omega),<- hW]; simp [go_sem])
  exact this
 have HSZ:=Lib.hid (Nat.le_trans (hp.small hE) (show 1073741824<=1099511627776 by decide));clear hp;obtain ⟨-,b0,b1,b2,b3,b4,b5,b6,b7⟩:=HS.out W (Ext.refl W);clear hWx;unfold plV at *;go_enter Tryz.func22,Tryz.ntmps22;go_wp2_with fail;clear hW b0 b1 b2 b3 b4 b5 b6 b7;have yy0:Ext W W.drew:=(Ext.refl W).drew;have Y0:=Lib.hid yy0;clear yy0
 go_region_held3 (fun W' => Ext w W' /\ W'.cell? ⟨w.heap.size, 0, none⟩ = some (.int .i64 (p).lv) /\ W'.cell? ⟨w.heap.size, 1, none⟩ = some (.bool (p).neg) /\ W'.cell? ⟨w.heap.size, 2, none⟩ = some (.slice A0 n0 c0) /\ W'.cell? ⟨w.heap.size, 3, none⟩ = some (.slice B0 (p).cs.length d0) /\ W'.cell? ⟨w.heap.size + 1, 0, none⟩ = some (.int .i64 (q).lv) /\ W'.cell? ⟨w.heap.size + 1, 1, none⟩ = some (.bool (q).neg) /\ W'.cell? ⟨w.heap.size + 1, 2, none⟩ = some (.slice A1 n1 c1) /\ W'.cell? ⟨w.heap.size + 1, 3, none⟩ = some (.slice B1 (q).cs.length d1))
  (first | with_reducible exact HS.out _ Y0.out | with_reducible exact HS.out _ yy1 | with_reducible exact HS.out _ yy2 | with_reducible exact HS.out _ yy3)
  (first
    | (go_at_call 48
       (fail_if_success have _:=yy1)
       refine (kag p _ (H0.out.ext (HX0.out.trans Y0.out)) hs1 hd1).mono ?_;rintro e w1 ⟨z1,rfl,m1,x1⟩;obtain ⟨C1,i1,j1,D1,k1,rfl,-⟩:=id m1.open_;have yy1:Ext W w1:=Ext.trans Y0.out x1
       unfold plV)
    | (go_at_call 48
       refine (kag q _ (H1.out.ext (HX0.out.trans yy1)) hs2 hd2).mono ?_;rintro e w2 ⟨z2,rfl,m2,x2⟩;obtain ⟨C2,i2,j2,D2,k2,rfl,-⟩:=id m2.open_;have yy2:Ext W w2:=Ext.trans yy1 x2
       replace m1:=m1.ext x2
       unfold plV)
    | (go_at_call 53
       refine (zb0 p.nf q.nf _ _ HSZ.out p.nf_can q.nf_can m1 m2).mono ?_;rintro e w3 ⟨rfl,x3⟩;have yy3:Ext W w3:=Ext.trans yy2 x3
       replace m1:=m1.ext x3
       replace m2:=m2.ext x3))
 have X3:=Lib.hid (HX0.out.trans yy3);clear m1 m2 x1 x2 x3 yy1 yy2 yy3 HS;generalize eqB p.nf q.nf=res at *;go_wp2_with fail;go_ret;exact ⟨rfl,X3.out⟩
end Go.Proofs.YtklnlgnnlmdibaaGreat
