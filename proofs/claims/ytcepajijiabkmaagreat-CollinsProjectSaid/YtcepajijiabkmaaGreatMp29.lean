/- Plain: pseudo-division and exact division, as the program does them. -/
import Derived.Test.YtcepajijiabkmaaGreatMp28
set_option linter.unusedSimpArgs false
set_option linter.unusedVariables false

namespace Go.Proofs.YtcepajijiabkmaaGreat
open Lib (hid)
def Pl.sub (p q:Pl):Pl:=p.add q.z8
theorem Pl.Ks (p q:Pl):(p.sub q).Can:=Pl.yk _ _
theorem Pl.yd (ρ:Int->Rat) (p q:Pl):(p.sub q).val ρ=p.val ρ - q.val ρ:=by unfold Pl.sub; rw [Pl.yi,Pl.xV]; grind
theorem ug.sub {l:Int} {p q:Pl} (h:ug l p) (k:ug l q):ug l (p.sub q):=h.add k.z8
theorem Fit.sub {p q:Pl} {E D F G:Nat} (h:Fit p E D) (k:Fit q F G):Fit (p.sub q) (max E F) (max D (G+1)+1):=h.add k.z8
def qy (g:List Pl) (k:Nat) (rest:List Pl):List Pl:=
 (List.range (g.length - 1+k)).map fun j =>
   if k<=j then ((rest.getD j Pl.zero).mul (g.getD (g.length - 1) Pl.zero)).sub ((rest.getD (g.length - 1+k) Pl.zero).mul (g.getD (j - k) Pl.zero))
   else (rest.getD j Pl.zero).mul (g.getD (g.length - 1) Pl.zero)
def jq (g : List Pl) : Nat -> List Pl -> List Pl
 | 0,rest=>rest
 | k+1,rest=>jq g k (qy g k rest)
def qag (l:Int) (f g:Pl):Pl:=if 1<=l/\l<=4 then if g.zp=true then Pl.zero else joinL l (jq (g.xi l) ((f.xi l).length - ((g.xi l).length - 1)) (f.xi l)) else Pl.zero
theorem xay (g:List Pl) (k:Nat) (rest:List Pl):(qy g k rest).length=g.length - 1+k:=by
 unfold qy;rw [px,tt]
theorem jbh (g : List Pl) : ∀ (k : Nat) (rest : List Pl), rest.length = g.length - 1 + k -> (jq g k rest).length = g.length - 1
 | 0,rest,h=>h
 | k+1,rest,h=>by rw [jq]; exact jbh g k _ (xay g k rest)
structure El (l : Int) (n : Int) (E D : Nat) (c : Pl) : Prop where
 fit:Fit c E D
 ind:ug l c
 lv:c.lv<=n
theorem El.zero {l n:Int} {E D:Nat} (hn:0<=n):El l n E D Pl.zero:=⟨Fit.zero,vat l,hn⟩
theorem El.mono {l n:Int} {E D F G:Nat} {c:Pl} (h:El l n E D c) (hE:E<=F) (hD:D<=G):El l n F G c:=⟨h.fit.mono hE hD,h.ind,h.lv⟩
theorem El.mul {l n:Int} {E D F G:Nat} {c d:Pl} (h:El l n E D c) (k:El l n F G d) (iy:n<=4):El l n (E+F) (D+G) (c.mul d):=⟨h.fit.mul k.fit,h.ind.mul k.ind,Pl.vR h.fit.can k.fit.can h.lv k.lv iy⟩
theorem Pl.qaZ {p:Pl} (h:p.Can) {n:Int} (hp:p.lv<=n) (hn:0<=n) (iy:n<=4):p.z8.lv<=n:=Pl.vR h (zt _) hp hn iy
theorem El.sub {l n:Int} {E D F G:Nat} {c d:Pl} (h:El l n E D c) (k:El l n F G d) (hn:0<=n) (iy:n<=4):El l n (max E F) (max D (G+1)+1) (c.sub d):=⟨h.fit.sub k.fit,h.ind.sub k.ind,Pl.qbF h.fit.can (Pl.ye _) h.lv (Pl.qaZ k.fit.can k.lv hn iy) iy⟩
section
variable {l n:Int} {E D F G:Nat} (hn:0<=n) (iy:n<=4)
include hn iy
theorem ucd {g rest:List Pl} (hg:∀ c ∈ g,El l n F G c) (hr:∀ c ∈ rest,El l n E D c) (k:Nat):∀ c ∈ qy g k rest,El l n (E+F) (D+G+2) c:=by
 intro c hc;obtain ⟨j,-,rfl⟩:=pZ.1 hc;have hz:∀ i,El l n E D (rest.getD i Pl.zero):=jad (El.zero hn) hr;have hy:∀ i,El l n F G (g.getD i Pl.zero):=jad (El.zero hn) hg;have h1:=(hz j).mul (hy (g.length - 1)) iy
 split
 · exact (h1.sub ((hz (g.length - 1+k)).mul (hy (j - k)) iy) hn iy).mono (by omega) (by omega)
 · exact h1.mono (by omega) (by omega)
theorem gaw {g : List Pl} (hg : ∀ c ∈ g, El l n F G c) : ∀ (k : Nat) (E D : Nat) (rest : List Pl), (∀ c ∈ rest, El l n E D c) -> ∀ c ∈ jq g k rest, El l n (E + k * F) (D + k * (G + 2)) c
 | 0,E,D,rest,hr,c,hc=>(hr c hc).mono (by omega) (by omega)
 | k+1,E,D,rest,hr,c,hc=>by
   have:=gaw hg k (E+F) (D+G+2) _ (ucd hn iy hg hr k) c hc;exact this.mono (by rw [PJ]; omega) (by rw [PJ]; omega)
end
theorem xb6 {l:Int} (hl:1<=l) (ag:l<=4) {cs:List Pl} (hc:∀ c ∈ cs,c.Can) (hi:∀ c ∈ cs,ug l c):kam l (joinL l cs) (zk cs):=
 ⟨fun c h=>hc c (gas h),fun c h=>hi c (gas h),fun ρ=>by rw [zad hl ag,kbg ρ l hc],wa9 hc⟩
theorem ucn {l:Int} (hl:1<=l) (ag:l<=4) {cs:List Pl} (hc:∀ c ∈ cs,c.Can) (hi:∀ c ∈ cs,ug l c):(joinL l cs).xi l=zk cs:=(Pl.xf hl ag (qae l cs)).uniq (xb6 hl ag hc hi)
theorem vbg : ∀ cs : List Pl, (zk cs).length <= cs.length
 | []=>pj _
 | c :: r=>by
   have:=vbg r;rw [zk]
   split
   · exact pS _
   · simpa using this
theorem qbp {l:Int} (hl:1<=l) (ag:l<=4) {cs:List Pl} (hc:∀ c ∈ cs,c.Can) (hi:∀ c ∈ cs,ug l c):mdg l (joinL l cs) < cs.length:=by
 unfold mdg;rw [ucn hl ag hc hi];have:=vbg cs;omega
theorem qcx {l n:Int} (hn:0<=n) (jQ:l<=n) {cs:List Pl} (hc:∀ c ∈ cs,c.Can/\c.lv<=n):(joinL l cs).lv<=n:=by
 unfold joinL
 split
 · rename_i hl;refine kbx hn (Pl.xT _) (Low.nf fun ρ ρ' he=>?_);rw [Pl.mk_val ρ _ _ _ (by omega) hl.2,Pl.mk_val ρ' _ _ _ (by omega) hl.2];exact jak (he l jQ) _ fun c h=>Pl.kj c (hc c h).1 fun j hj=>he j (by have:=(hc c h).2; omega)
 · exact hn
theorem wa0 {l n:Int} {p:Pl} {E D:Nat} (hl:1<=l) (ag:l<=4) (h:Fit p E D) (hn:p.lv<=n):∀ c ∈ p.xi l,El l n E D c:=fun c hc=>⟨Pl.zP h c hc,kaa hl ag h.can c hc,Int.le_trans (Pl.qaF h.can c hc) hn⟩
theorem gcu (l:Int) (f g:Pl):(qag l f g).Can:=by
 unfold qag
 split
 · split
   · exact Pl.qS
   · exact qae _ _
 · exact Pl.qS
theorem uba (g:List Pl) (rest:List Pl):jq g 0 rest=rest:=rfl
theorem xbl {l:Int} (f g:Pl) (hg:0 < (g.xi l).length):(jq (g.xi l) ((f.xi l).length - ((g.xi l).length - 1)) (f.xi l)).length<=(g.xi l).length - 1:=by
 by_cases h:(g.xi l).length - 1<=(f.xi l).length
 · rw [jbh _ _ _ (by omega)];exact pj _
 · rw [show (f.xi l).length - ((g.xi l).length - 1)=0 by omega,uba];omega
section
variable {l:Int} (hl:1<=l) (ag:l<=4) {f g:Pl} {E D F G:Nat}
include hl ag
theorem ucu (hf:f.Can) (hg:g.Can) (bI:g ≠ Pl.zero):mdg l (qag l f g) < mdg l g:=by
 obtain ⟨E,hE⟩:∃ E,Fit f E f.nr:=⟨_,Pl.Kk hf f.ke⟩;obtain ⟨F,hF⟩:∃ F,Fit g F g.nr:=⟨_,Pl.Kk hg g.ke⟩;have lZ:=gaw (l:=l) (n:=4) (by omega) (by omega) (wa0 hl ag hF hg.qq.2) ((f.xi l).length - ((g.xi l).length - 1)) _ _ _ (wa0 hl ag hE hf.qq.2);have hlen:=rA.2 (vae hl ag hg bI);have h1:=xbl f g hlen;unfold qag;rw [if_pos ⟨hl,ag⟩,if_neg (fun e=>bI ((Pl.xj hg).1 e))];have h2:=qbp hl ag (fun c hc=>(lZ c hc).fit.can) (fun c hc=>(lZ c hc).ind);rw [show mdg l g=(g.xi l).length - 1 from rfl];omega
theorem wb8 {n:Int} (jQ:l<=n) (iy:n<=4) (hf:Fit f E D) (hg:Fit g F G) (kD:f.lv<=n) (lK:g.lv<=n) (hF:F < B32):Fit (qag l f g) (E+(E+1) * F+F) (D+(E+1) * (G+2)+1)/\(qag l f g).lv<=n:=by
 unfold qag;rw [if_pos ⟨hl,ag⟩]
 split
 · exact ⟨Fit.zero,by show (0:Int)<=n; omega⟩
 · rename_i hz;have bI:g ≠ Pl.zero:=fun e=>hz ((Pl.xj hg.can).2 e)
   have hlen:=rA.2 (vae hl ag hg.can bI);have ajo:=uu (l:=l) hf.can hf.ex;have ajj:=uu (l:=l) hg.can hg.ex;have h1:=xbl f g hlen;have lZ:=gaw (l:=l) (n:=n) (by omega) iy (wa0 hl ag hg lK) ((f.xi l).length - ((g.xi l).length - 1)) _ _ _ (wa0 hl ag hf kD);have hk:(f.xi l).length - ((g.xi l).length - 1)<=E+1:=by omega
   have yZ:∀ c ∈ jq (g.xi l) ((f.xi l).length - ((g.xi l).length - 1)) (f.xi l),El l n (E+(E+1) * F+F) (D+(E+1) * (G+2)) c:=fun c hc =>
    (lZ c hc).mono (by have:=pE F hk; omega) (by have:=pE (G+2) hk; omega)
   exact ⟨xa7 (fun c hc=>⟨(yZ c hc).fit.can,(yZ c hc).ind,(yZ c hc).fit.ex⟩) (by omega) (jbe (fun c hc=>(yZ c hc).fit) (by omega)),qcx (by omega) jQ fun c hc=>⟨(yZ c hc).fit.can,(yZ c hc).lv⟩⟩
end
open Go.RowKit
noncomputable def qE {α:Type} (a b:α):Bool:=@decide (a=b) (Classical.propDecidable _)
theorem za9 {α:Type} {a b:α}:qE a b=true ↔ a=b:=by unfold qE; exact @decide_eq_true_iff _ (Classical.propDecidable _)
theorem kar {α:Type} {a b:α} (h:a ≠ b):qE a b=false:=by
 cases hb:qE a b
 · rfl
 · exact absurd (za9.1 hb) h
theorem qao {α:Type} {a b:α} (h:a=b):qE a b=true:=za9.2 h
theorem kcp {α β:Type} {a b:α} {c d:β} (h:a=b ↔ c=d):qE a b=qE c d:=by
 by_cases hh:a=b
 · rw [qao hh,qao (h.1 hh)]
 · rw [kar hh,kar fun e=>hh (h.2 e)]
theorem qcj {α:Type} {l r:List α} {k:Nat} (h:l.take k=r.take k) (hl:k < l.length) (hr:k < r.length) (he:l[k]=r[k]):l.take (k+1)=r.take (k+1):=by
 rw [pC hl,pC hr,h,he]
theorem jcs {α:Type} {l r:List α} (h:l.length=r.length) (he:l.take l.length=r.take l.length):l=r:=by
 rw [pP] at he;rw [he,h,pP]
theorem Pl.Ka {p q:Pl} (h1:p.lv=q.lv) (h2:p.neg=q.neg) (h3:p.ds=q.ds) (h4:p.cs=q.cs):p=q:=by
 obtain ⟨l,n,d,c⟩:=p;obtain ⟨l',n',d',c'⟩:=q;simp only [Pl.lv,Pl.neg,Pl.ds,Pl.cs] at h1 h2 h3 h4;rw [h1,h2,h3,h4]
theorem Pl.Can.KM {p:Pl} (h:p.Can) {c:Pl} (hc:c ∈ p.cs):c.Can:=by
 obtain ⟨l,n,d,cs⟩:=p;unfold Pl.Can at h;rcases h with h | h
 · simp only [Pl.cs,h.2.1] at hc; cases hc
 · exact (h.2.2.2.2.2.1.mem c hc).2
end Go.Proofs.YtcepajijiabkmaaGreat

set_option maxRecDepth 100000
set_option maxHeartbeats 8000000
namespace Go.Proofs.YtcepajijiabkmaaGreat
open Lib (hid)
open Go.RowKit
theorem jbp (x y:Value) (a b:Int) (L M:Nat) (w:World) (h:jm w x a L) (k:jm w y b M):Calls Tryz.prog 68 #[x,y] w (vao (qE a b) w):=by
 have H:=hid h;have K:=hid k;obtain ⟨n1,s1,ds,rfl,⟨A1,c1,rfl,-⟩,-⟩:=h;obtain ⟨n2,s2,es,rfl,⟨A2,c2,rfl,-⟩,-⟩:=k;obtain ⟨W,hW⟩:=n_m ((w.alloc (.cells #[.bool n1,.slice A1 ds.length c1] 30)).alloc (.cells #[.bool n2,.slice A2 es.length c2] 30));have ai:Ext w W:=by rw [<- hW]; exact ((Ext.refl w).alloc _).alloc _
 have q0:W.cell? ⟨w.heap.size,0,none⟩=some (.bool n1):=by rw [<- hW]; simp [go_sem]
 have q1:W.cell? ⟨w.heap.size,1,none⟩=some (.slice A1 ds.length c1):=by rw [<- hW]; simp [go_sem]
 have q2:W.cell? ⟨w.heap.size+1,0,none⟩=some (.bool n2):=by rw [<- hW]; simp [go_sem]
 have q3:W.cell? ⟨w.heap.size+1,1,none⟩=some (.slice A2 es.length c2):=by rw [<- hW]; simp [go_sem]
 have aG:=hid ai;have HC:=hid (wca _ _ a b _ _ W (H.out.ext ai) (K.out.ext ai));clear ai;have HE:Hid ((jh a b == 0)=qE a b):=by
  have:(jh a b == 0)=qE a b:=by
   by_cases oK:a=b
   · rw [qao oK,oK]; simp [jh]
   · rw [kar oK];simp only [jh]
     split <;> (try split) <;> simp <;> omega
  exact this
 go_enter Tryz.func68,Tryz.ntmps68;go_wp2_with fail;clear hW q0 q1 q2 q3;refine HC.out.mono ?_;rintro e w1 ⟨rfl,x1⟩;have X1:=hid (aG.out.trans x1);clear x1 HC;generalize jh a b=cq at *;go_wp2_with fail;go_ret;exact ⟨by rw [<- HE.out]; rfl,X1.out⟩
def yc6 (w0:World) (n:Nat):Prop:=∀ (p q:Pl) (v u:Value) (w:World),p.sz < n->p.sz<=1099511627776->p.Can->q.Can->PlV w0 (fun _=>True) p v->PlV w0 (fun _=>True) q u->Ext w0 w->Calls Tryz.prog 51 #[v,u] w (vao (qE p q) w)
theorem ycu (w0:World) (n:Nat):yc6 w0 n:=by
 induction n with
 | zero=>intro p q v u w h; omega
 | succ n ih =>
 intro p q v u w hn hsz hp hq h h' aC;have IH:=hid ih;have ay:=hid aC;have jD:Hid (∀ k (hk:k < p.cs.length),p.cs[k].sz < n/\p.cs[k].sz<=1099511627776):=by
  have:∀ k (hk:k < p.cs.length),p.cs[k].sz < n/\p.cs[k].sz<=1099511627776:=fun k hk=>by have:=Pl.jn (pt hk); omega
  exact this
 have QE:=p.kg;have YH:Hid ((∀ k (hk:k < p.cs.length),p.cs[k].Can)/\∀ k (hk:k < q.cs.length),q.cs[k].Can):=by
  have:(∀ k (hk:k < p.cs.length),p.cs[k].Can)/\∀ k (hk:k < q.cs.length),q.cs[k].Can:=⟨fun k hk=>hp.KM (pt hk),fun k hk=>hq.KM (pt hk)⟩;exact this
 have Dy:=hid hp;have HQC:=hid hq;obtain ⟨A0,n0,c0,A,c,rfl,au,dP,dC,h4⟩:=h.open_;obtain ⟨B0,m0,d0,B,d,rfl,sD,Kw,Su,Df⟩:=h'.open_;have H4:=hid h4;have H4':=hid Df;have HN:=hid au;have VK:=hid sD;obtain ⟨W,hW⟩:=n_m ((w.alloc (.cells #[.int .i64 p.lv,.bool p.neg,.slice A0 n0 c0,.slice A p.cs.length c] 33)).alloc (.cells #[.int .i64 q.lv,.bool q.neg,.slice B0 m0 d0,.slice B q.cs.length d] 33));have ai:Ext w W:=by rw [<- hW]; exact ((Ext.refl w).alloc _).alloc _
 have dG:W.heap.size=w.heap.size+1+1:=by rw [<- hW]; simp
 have bV:jb W w.heap.size p (.slice A0 n0 c0) (.slice A p.cs.length c):=by rw [<- hW]; exact (jb.new w p _ _ _).ext ((Ext.refl _).alloc _) (by simp)
 have zD:jb W (w.heap.size+1) q (.slice B0 m0 d0) (.slice B q.cs.length d):=by
  rw [<- hW];have h1:=jb.new (w.alloc (.cells #[.int .i64 p.lv,.bool p.neg,.slice A0 n0 c0,.slice A p.cs.length c] 33)) q (.slice B0 m0 d0) (.slice B q.cs.length d) 33;simpa using h1
 have aG:=hid ai;have kL:=hid bV;have Wv:=hid zD;obtain ⟨b0,b1,b2,b3⟩:=bV;obtain ⟨e0,e1,e2,e3⟩:=zD;clear h h' ih h4 Df aC au sD ai hp hq;obtain ⟨res,mO⟩:=n_m (qE p q);rw [mO];have Du:=hid mO;clear mO;unfold plV;go_enter Tryz.func51,Tryz.ntmps51
 by_cases fC:p.lv=q.lv
 case neg =>
  have HF:Hid (res=false):=hid (Du.out.symm.trans (kar fun e=>fC (by rw [e])));have aiQ:(p.lv != q.lv)=true:=by simpa using fC
  go_wp2_with fail;go_ret;exact ⟨by rw [HF.out]; rfl,aG.out⟩
 by_cases hl:p.cs.length=q.cs.length
 case neg =>
  have HF:Hid (res=false):=hid (Du.out.symm.trans (kar fun e=>hl (by rw [e])));have HL:=hid fC;rw [<- fC] at e0 hW;clear fC;rw [<- HL.out];go_wp2_with fail;go_ret;exact ⟨by rw [HF.out]; rfl,aG.out⟩
 have Eu:=hid fC;have HL:=hid hl;rw [<- fC] at e0 hW;rw [<- hl] at e3 hW Kw Wv;rw [<- fC,<- hl];clear fC hl
 by_cases hz:p.lv=0
 · have iH:(p.lv == 0)=true:=by simpa using hz
   have HZ:=hid hz;have hip:jm W (.agg #[.bool p.neg,.slice A0 n0 c0]) p.z p.ds.length:=⟨_,_,_,rfl,HN.out.ext (ay.out.trans aG.out),rfl,pj _⟩;have hiq:jm W (.agg #[.bool q.neg,.slice B0 m0 d0]) q.z q.ds.length:=⟨_,_,_,rfl,VK.out.ext (ay.out.trans aG.out),rfl,pj _⟩;have xQ:=hid (jbp _ _ p.z q.z _ _ W hip hiq);clear hip hiq hz;go_wp2_with fail;clear hW b0 b1 b2 b3 e0 e1 e2 e3;refine xQ.out.mono ?_;rintro e w1 ⟨rfl,x1⟩;have HF:Hid (qE p.z q.z=res):=hid ((kcp ⟨fun e=>by rw [gaf Dy.out HZ.out,gaf HQC.out (Eu.out.symm.trans HZ.out),e],fun e=>by rw [e]⟩).trans Du.out);have X1:=hid (aG.out.trans x1);clear x1 xQ;generalize qE p.z q.z=bz at *;go_wp2_with fail;go_ret;exact ⟨by rw [HF.out]; rfl,X1.out⟩
 have iH:(p.lv == 0)=false:=by simpa using hz
 have HND:Hid ((p.neg,p.ds)=(q.neg,q.ds)):=by
  have h1:=Dy.out.qq.1;obtain ⟨l,ng,ds,cs⟩:=p;obtain ⟨l',N8,ds',cs'⟩:=q;have hl:0 < l:=by simp only [Pl.lv] at h1 hz; omega
  have e1:=Dy.out.kids hl;have e2:=HQC.out.kids (by have:=Eu.out; simp only [Pl.lv] at this; omega);show ((ng,ds)=(N8,ds'));rw [e1.1,e1.2.1,e2.1,e2.2.1]
 obtain ⟨w1,uN⟩:=n_m (W);have X1:Hid (Ext w w1):=hid (by rw [<- uN]; exact aG.out);have oz:W.heap.size<=w1.heap.size:=by rw [uN]; exact pj _
 have NK:Hid (jb w1 w.heap.size p (.slice A0 n0 c0) (.slice A p.cs.length c)):=hid (by rw [<- uN]; exact kL.out);have NI:Hid (jb w1 (w.heap.size+1) q (.slice B0 m0 d0) (.slice B p.cs.length d)):=hid (by rw [<- uN]; exact Wv.out);have ZE:=hid uN;clear uN hz Dy HQC HN VK;go_wp2_with fail;clear hW b0 b1 b2 b3 e0 e1 e2 e3;obtain rfl:W=w1:=ZE.out
 go_loopw [31] (fun iv wr=>∃ k:Nat,k<=p.cs.length/\iv=.int .i64 k/\Hid (p.cs.take k=q.cs.take k/\Ext W wr)) (fun iv _=>p.cs.length - (intOf iv).toNat)
 case atStart=>exact ⟨0,pS _,rfl,⟨by simp,Ext.refl _⟩⟩
 case round =>
  obtain ⟨k,hk,rfl,⟨eu,hx⟩⟩:=hrel;have HX:=hid hx;have HT:=hid eu;obtain ⟨b0,b1,b2,b3⟩:=NK.out.ext hx (by omega);obtain ⟨e0,e1,e2,e3⟩:=NI.out.ext hx (by omega);have mM:=hx.size;clear hx eu
  by_cases af:k < p.cs.length
  · have fM:k < q.cs.length:=by have:=HL.out; omega
    obtain ⟨ad,C0,j0,f0,C1,j1,f1,rfl,ah,bP,bC⟩:=jd.ym H4.out k af;obtain ⟨ad',D0,i0,g0,D1,i1,g1,rfl,kY,su,qP⟩:=jd.ym H4'.out k fM;have bQ:Ext w0 wr:=(ay.out.trans X1.out).trans HX.out;have Gi:=hid (bP.ext bQ (by rw [ja]; exact ah));have Jf:=hid (su.ext bQ (by rw [ja]; exact kY));have bF:ad.block < wr.heap.size:=pw ah bQ.size;have dE:ad'.block < wr.heap.size:=pw kY bQ.size;have lM:=hid (fun W' (bJ:Ext wr W')=>IH.out p.cs[k] q.cs[k] _ _ W' (jD.out k af).1 (jD.out k af).2 (YH.out.1 k af) (YH.out.2 k fM) bC qP (bQ.trans bJ));have bY:Hid (p.cs[k]=q.cs[k]->p.cs.take (k+1)=q.cs.take (k+1)):=hid (qcj HT.out af fM);have Je:Hid (p.cs[k] ≠ q.cs[k]->res=false):=hid (fun ax=>Du.out.symm.trans (kar fun e=>ax (by subst e; rfl)));unfold plV at lM;generalize p.cs[k]=pk at *;generalize q.cs[k]=qk at *;have aH:Hid (∀ W2,Ext wr W2->(Ext wr W2/\W2.cell? ⟨w.heap.size,3,none⟩=some (.slice (some ad) p.cs.length c)/\W2.cell? ⟨w.heap.size+1,3,none⟩=some (.slice (some ad') p.cs.length d)/\W2.cell? (Addr.add ad (k * 4))=some (.int .i64 pk.lv)/\W2.cell? ⟨(Addr.add ad (k * 4)).block,(Addr.add ad (k * 4)).off+1,none⟩=some (.bool pk.neg)/\W2.cell? ⟨(Addr.add ad (k * 4)).block,(Addr.add ad (k * 4)).off+2,none⟩=some (.slice C0 j0 f0)/\W2.cell? ⟨(Addr.add ad (k * 4)).block,(Addr.add ad (k * 4)).off+3,none⟩=some (.slice C1 j1 f1)/\W2.cell? (Addr.add ad' (k * 4))=some (.int .i64 qk.lv)/\W2.cell? ⟨(Addr.add ad' (k * 4)).block,(Addr.add ad' (k * 4)).off+1,none⟩=some (.bool qk.neg)/\W2.cell? ⟨(Addr.add ad' (k * 4)).block,(Addr.add ad' (k * 4)).off+2,none⟩=some (.slice D0 i0 g0)/\W2.cell? ⟨(Addr.add ad' (k * 4)).block,(Addr.add ad' (k * 4)).off+3,none⟩=some (.slice D1 i1 g1))):=by
     have:∀ W2,Ext wr W2->(Ext wr W2/\W2.cell? ⟨w.heap.size,3,none⟩=some (.slice (some ad) p.cs.length c)/\W2.cell? ⟨w.heap.size+1,3,none⟩=some (.slice (some ad') p.cs.length d)/\W2.cell? (Addr.add ad (k * 4))=some (.int .i64 pk.lv)/\W2.cell? ⟨(Addr.add ad (k * 4)).block,(Addr.add ad (k * 4)).off+1,none⟩=some (.bool pk.neg)/\W2.cell? ⟨(Addr.add ad (k * 4)).block,(Addr.add ad (k * 4)).off+2,none⟩=some (.slice C0 j0 f0)/\W2.cell? ⟨(Addr.add ad (k * 4)).block,(Addr.add ad (k * 4)).off+3,none⟩=some (.slice C1 j1 f1)/\W2.cell? (Addr.add ad' (k * 4))=some (.int .i64 qk.lv)/\W2.cell? ⟨(Addr.add ad' (k * 4)).block,(Addr.add ad' (k * 4)).off+1,none⟩=some (.bool qk.neg)/\W2.cell? ⟨(Addr.add ad' (k * 4)).block,(Addr.add ad' (k * 4)).off+2,none⟩=some (.slice D0 i0 g0)/\W2.cell? ⟨(Addr.add ad' (k * 4)).block,(Addr.add ad' (k * 4)).off+3,none⟩=some (.slice D1 i1 g1)):=fun W2 aN=>by
      obtain ⟨a0,a1,a2,a3⟩:=Gi.out.ext aN (by rw [ja]; exact bF);obtain ⟨a0',a1',a2',a3'⟩:=Jf.out.ext aN (by rw [ja]; exact dE);exact ⟨aN,(aN.cell (p:=⟨w.heap.size,3,none⟩) (by show w.heap.size < _; omega)).trans b3,(aN.cell (p:=⟨w.heap.size+1,3,none⟩) (by show w.heap.size+1 < _; omega)).trans e3,a0,a1,a2,a3,a0',a1',a2',a3'⟩
     exact this
    clear bP su bC qP bQ ah kY;have y0:Ext wr wr.drew:=(Ext.refl wr).drew;have Y0:=hid y0;clear y0;go_upto_region 8 with fail;clear b0 b1 b2 b3 e0 e1 e2 e3
    go_region_held3 (fun W2 => Ext wr W2 /\ W2.cell? ⟨w.heap.size, 3, none⟩ = some (.slice (some ad) p.cs.length c) /\ W2.cell? ⟨w.heap.size + 1, 3, none⟩ = some (.slice (some ad') p.cs.length d) /\ W2.cell? (Addr.add ad (k * 4)) = some (.int .i64 pk.lv) /\ W2.cell? ⟨(Addr.add ad (k * 4)).block, (Addr.add ad (k * 4)).off + 1, none⟩ = some (.bool pk.neg) /\ W2.cell? ⟨(Addr.add ad (k * 4)).block, (Addr.add ad (k * 4)).off + 2, none⟩ = some (.slice C0 j0 f0) /\ W2.cell? ⟨(Addr.add ad (k * 4)).block, (Addr.add ad (k * 4)).off + 3, none⟩ = some (.slice C1 j1 f1) /\ W2.cell? (Addr.add ad' (k * 4)) = some (.int .i64 qk.lv) /\ W2.cell? ⟨(Addr.add ad' (k * 4)).block, (Addr.add ad' (k * 4)).off + 1, none⟩ = some (.bool qk.neg) /\ W2.cell? ⟨(Addr.add ad' (k * 4)).block, (Addr.add ad' (k * 4)).off + 2, none⟩ = some (.slice D0 i0 g0) /\ W2.cell? ⟨(Addr.add ad' (k * 4)).block, (Addr.add ad' (k * 4)).off + 3, none⟩ = some (.slice D1 i1 g1))
     (first | with_reducible exact aH.out _ Y0.out | with_reducible exact aH.out _ y1)
     ((go_at_call 51
       refine (lM.out _ Y0.out).mono ?_;rintro e v1 ⟨rfl,x1⟩
       have y1:Ext wr v1:=Ext.trans Y0.out x1))
    all_goals
     have X2:=hid (HX.out.trans y1);clear y1 x1 lM aH Y0
     by_cases GZ:pk=qk
     · have HT2:=hid (bY.out GZ);rw [qao GZ];clear GZ;go_wp2_with fail
       go_roundw
       case rel=>exact ⟨k+1,by omega,by go_num,⟨HT2.out,X2.out⟩⟩
       case measure=>simp [intOf]; omega
     · have HF:=hid (Je.out GZ);rw [kar GZ];clear GZ;go_wp2_with fail;go_ret;exact ⟨by rw [HF.out]; rfl,X1.out.trans X2.out⟩
  · have HF:Hid (res=true):=hid (Du.out.symm.trans (qao (by
     have h1:=HT.out;rw [show k=p.cs.length by omega] at h1;have h2:=jcs HL.out h1;have h3:=HND.out
     exact Pl.Ka Eu.out (congrArg Prod.fst h3) (congrArg Prod.snd h3) h2)))
    clear b0 b1 b2 b3 e0 e1 e2 e3;go_wp2_with fail;go_ret;exact ⟨by rw [HF.out]; rfl,X1.out.trans HX.out⟩
theorem ycl {w:World} {q1 q2:Nat->Prop} (p q:Pl) (v u:Value) (hsz:p.sz<=1099511627776) (hp:p.Can) (hq:q.Can) (h:PlV w q1 p v) (k:PlV w q2 q u):Calls Tryz.prog 51 #[v,u] w (vao (qE p q) w):=
 ycu w (p.sz+1) p q v u w (tx _) hsz hp hq (h.mono fun _ _=>trivial) (k.mono fun _ _=>trivial) (Ext.refl w)
theorem Fit.small {p:Pl} {E D:Nat} (h:Fit p E D) (hE:E<=170):p.sz<=1073741824:=py h.sz (py (Pc (show E+2<=172 by omega) 4) (by decide))
theorem xbo {w:World} {p q:Pl} {E D:Nat} {q0:Nat->Prop} (v0:Value) {q1:Nat->Prop} (v1:Value) (h0:PlV w q0 p v0) (h1:PlV w q1 q v1) (bW:p.sz<=1073741824) (eH:p.dm<=1099511627776) (jG:q.sz<=1073741824) (uF:q.dm<=1099511627776) (hp:Fit p.nf E D) (hE:E<=170):Calls Tryz.prog 26 #[v0,v1] w (vao (qE p.nf q.nf) w):=by
 have H0:=hid h0;obtain ⟨A0,n0,c0,B0,d0,rfl,-,-,-,-⟩:=h0.open_;clear h0;have H1:=hid h1;obtain ⟨A1,n1,c1,B1,d1,rfl,-,-,-,-⟩:=h1.open_;clear h1;obtain ⟨W,hW⟩:=n_m ((w.alloc (.cells #[.int .i64 (p).lv,.bool (p).neg,.slice A0 n0 c0,.slice B0 (p).cs.length d0] 33)).alloc (.cells #[.int .i64 (q).lv,.bool (q).neg,.slice A1 n1 c1,.slice B1 (q).cs.length d1] 33));have ai:Ext w W:=by rw [<- hW]; exact ((Ext.refl w).alloc _).alloc _
 have dG:W.heap.size=w.heap.size+1+1:=by rw [<- hW]; simp
 have ay:=hid ai;have HS:Hid (∀ W',Ext W W'->(Ext w W'/\W'.cell? ⟨w.heap.size,0,none⟩=some (.int .i64 (p).lv)/\W'.cell? ⟨w.heap.size,1,none⟩=some (.bool (p).neg)/\W'.cell? ⟨w.heap.size,2,none⟩=some (.slice A0 n0 c0)/\W'.cell? ⟨w.heap.size,3,none⟩=some (.slice B0 (p).cs.length d0)/\W'.cell? ⟨w.heap.size+1,0,none⟩=some (.int .i64 (q).lv)/\W'.cell? ⟨w.heap.size+1,1,none⟩=some (.bool (q).neg)/\W'.cell? ⟨w.heap.size+1,2,none⟩=some (.slice A1 n1 c1)/\W'.cell? ⟨w.heap.size+1,3,none⟩=some (.slice B1 (q).cs.length d1))):=by
  have:∀ W',Ext W W'->(Ext w W'/\W'.cell? ⟨w.heap.size,0,none⟩=some (.int .i64 (p).lv)/\W'.cell? ⟨w.heap.size,1,none⟩=some (.bool (p).neg)/\W'.cell? ⟨w.heap.size,2,none⟩=some (.slice A0 n0 c0)/\W'.cell? ⟨w.heap.size,3,none⟩=some (.slice B0 (p).cs.length d0)/\W'.cell? ⟨w.heap.size+1,0,none⟩=some (.int .i64 (q).lv)/\W'.cell? ⟨w.heap.size+1,1,none⟩=some (.bool (q).neg)/\W'.cell? ⟨w.heap.size+1,2,none⟩=some (.slice A1 n1 c1)/\W'.cell? ⟨w.heap.size+1,3,none⟩=some (.slice B1 (q).cs.length d1)):=fun W' hx=>by
   obtain ⟨hc,hf⟩:=hx.cells;refine ⟨ai.trans hx,?_,?_,?_,?_,?_,?_,?_,?_⟩ <;> (rw [hc _ _ (by omega),<- hW]; simp [go_sem])
  exact this
 have jD:=hid (py (hp.small hE) (show 1073741824<=1099511627776 by decide));clear hp;obtain ⟨-,b0,b1,b2,b3,b4,b5,b6,b7⟩:=HS.out W (Ext.refl W);clear ai;unfold plV at *;go_enter Tryz.func26,Tryz.ntmps26;go_wp2_with fail;clear hW b0 b1 b2 b3 b4 b5 b6 b7;have pO:Ext W W.drew:=(Ext.refl W).drew;have Y0:=hid pO;clear pO
 go_region_held3 (fun W' => Ext w W' /\ W'.cell? ⟨w.heap.size, 0, none⟩ = some (.int .i64 (p).lv) /\ W'.cell? ⟨w.heap.size, 1, none⟩ = some (.bool (p).neg) /\ W'.cell? ⟨w.heap.size, 2, none⟩ = some (.slice A0 n0 c0) /\ W'.cell? ⟨w.heap.size, 3, none⟩ = some (.slice B0 (p).cs.length d0) /\ W'.cell? ⟨w.heap.size + 1, 0, none⟩ = some (.int .i64 (q).lv) /\ W'.cell? ⟨w.heap.size + 1, 1, none⟩ = some (.bool (q).neg) /\ W'.cell? ⟨w.heap.size + 1, 2, none⟩ = some (.slice A1 n1 c1) /\ W'.cell? ⟨w.heap.size + 1, 3, none⟩ = some (.slice B1 (q).cs.length d1))
  (first | with_reducible exact HS.out _ Y0.out | with_reducible exact HS.out _ gI | with_reducible exact HS.out _ iO | with_reducible exact HS.out _ mG)
  (first
    | (go_at_call 38
       (fail_if_success have _:=gI)
       refine (uak p _ (H0.out.ext (ay.out.trans Y0.out)) bW eH).mono ?_;rintro e w1 ⟨z1,rfl,m1,x1⟩;obtain ⟨C1,i1,j1,D1,k1,rfl,-⟩:=id m1.open_;have gI:Ext W w1:=Ext.trans Y0.out x1
       unfold plV)
    | (go_at_call 38
       refine (uak q _ (H1.out.ext (ay.out.trans gI)) jG uF).mono ?_;rintro e w2 ⟨z2,rfl,m2,x2⟩;obtain ⟨C2,i2,j2,D2,k2,rfl,-⟩:=id m2.open_;have iO:Ext W w2:=Ext.trans gI x2
       replace m1:=m1.ext x2
       unfold plV)
    | (go_at_call 51
       refine (ycl p.nf q.nf _ _ jD.out p.xT q.xT m1 m2).mono ?_;rintro e w3 ⟨rfl,x3⟩;have mG:Ext W w3:=Ext.trans iO x3
       replace m1:=m1.ext x3
       replace m2:=m2.ext x3))
 have X3:=hid (ay.out.trans mG);clear m1 m2 x1 x2 x3 gI iO mG HS;generalize qE p.nf q.nf=res at *;go_wp2_with fail;go_ret;exact ⟨rfl,X3.out⟩
end Go.Proofs.YtcepajijiabkmaaGreat
