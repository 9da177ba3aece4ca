/- Plain: pseudo-division and exact division, as the program does them. -/
import Derived.Test.YtcepajijiabkmaaGreatMo28
import Derived.Test.YtcepajijiabkmaaGreatMo27
set_option linter.all false
namespace Go.Proofs.YtcepajijiabkmaaGreat
open Lib (hid)
def Pl.sub (p q:Pl):Pl:=p.add q.yd
theorem Pl.Kx (p q:Pl):(p.sub q).Can:=Pl.yk _ _
theorem Pl.z8 (ρ:Int->Rat) (p q:Pl):(p.sub q).val ρ=p.val ρ - q.val ρ:=by unfold Pl.sub; rw [Pl.yi,Pl.xT]; grind
theorem zh.sub {l:Int} {p q:Pl} (h:zh l p) (k:zh l q):zh l (p.sub q):=h.add k.yd
theorem Fit.sub {p q:Pl} {E D F G:Nat} (h:Fit p E D) (k:Fit q F G):Fit (p.sub q) (max E F) (max D (G+1)+1):=h.add k.yd
def qy (g:List Pl) (k:Nat) (rest:List Pl):List Pl:=
 (List.range (g.length - 1+k)).map fun j =>
   if k<=j then ((rest.getD j Pl.zero).mul (g.getD (g.length - 1) Pl.zero)).sub ((rest.getD (g.length - 1+k) Pl.zero).mul (g.getD (j - k) Pl.zero))
   else (rest.getD j Pl.zero).mul (g.getD (g.length - 1) Pl.zero)
def zt (g : List Pl) : Nat -> List Pl -> List Pl
 | 0,rest=>rest
 | k+1,rest=>zt g k (qy g k rest)
def uah (l:Int) (f g:Pl):Pl:=if 1<=l/\l<=4 then if g.zp=true then Pl.zero else joinL l (zt (g.xf l) ((f.xf l).length - ((g.xf l).length - 1)) (f.xf l)) else Pl.zero
theorem waz (g:List Pl) (k:Nat) (rest:List Pl):(qy g k rest).length=g.length - 1+k:=by
 unfold qy;rw [pw,tt]
theorem vbk (g : List Pl) : ∀ (k : Nat) (rest : List Pl), rest.length = g.length - 1 + k -> (zt g k rest).length = g.length - 1
 | 0,rest,h=>h
 | k+1,rest,h=>by rw [zt]; exact vbk g k _ (waz g k rest)
structure El (l : Int) (n : Int) (E D : Nat) (c : Pl) : Prop where
 fit:Fit c E D
 ind:zh l c
 lv:c.lv<=n
theorem El.zero {l n:Int} {E D:Nat} (hn:0<=n):El l n E D Pl.zero:=⟨Fit.zero,uau l,hn⟩
theorem El.mono {l n:Int} {E D F G:Nat} {c:Pl} (h:El l n E D c) (hE:E<=F) (hD:D<=G):El l n F G c:=⟨h.fit.mono hE hD,h.ind,h.lv⟩
theorem El.mul {l n:Int} {E D F G:Nat} {c d:Pl} (h:El l n E D c) (k:El l n F G d) (iE:n<=4):El l n (E+F) (D+G) (c.mul d):=⟨h.fit.mul k.fit,h.ind.mul k.ind,Pl.vR h.fit.can k.fit.can h.lv k.lv iE⟩
theorem Pl.qa0 {p:Pl} (h:p.Can) {n:Int} (hp:p.lv<=n) (hn:0<=n) (iE:n<=4):p.yd.lv<=n:=Pl.vR h (qp _) hp hn iE
theorem El.sub {l n:Int} {E D F G:Nat} {c d:Pl} (h:El l n E D c) (k:El l n F G d) (hn:0<=n) (iE:n<=4):El l n (max E F) (max D (G+1)+1) (c.sub d):=⟨h.fit.sub k.fit,h.ind.sub k.ind,Pl.qbG h.fit.can (Pl.ye _) h.lv (Pl.qa0 k.fit.can k.lv hn iE) iE⟩
section
variable {l n:Int} {E D F G:Nat} (hn:0<=n) (iE:n<=4)
include hn iE
theorem qci {g rest:List Pl} (hg:∀ c ∈ g,El l n F G c) (hr:∀ c ∈ rest,El l n E D c) (k:Nat):∀ c ∈ qy g k rest,El l n (E+F) (D+G+2) c:=by
 intro c hc;obtain ⟨j,-,rfl⟩:=pS.1 hc;have hz:∀ i,El l n E D (rest.getD i Pl.zero):=yae (El.zero hn) hr;have hy:∀ i,El l n F G (g.getD i Pl.zero):=yae (El.zero hn) hg;have h1:=(hz j).mul (hy (g.length - 1)) iE
 split
 · exact (h1.sub ((hz (g.length - 1+k)).mul (hy (j - k)) iE) hn iE).mono (by omega) (by omega)
 · exact h1.mono (by omega) (by omega)
theorem qay {g : List Pl} (hg : ∀ c ∈ g, El l n F G c) : ∀ (k : Nat) (E D : Nat) (rest : List Pl), (∀ c ∈ rest, El l n E D c) -> ∀ c ∈ zt g k rest, El l n (E + k * F) (D + k * (G + 2)) c
 | 0,E,D,rest,hr,c,hc=>(hr c hc).mono (by omega) (by omega)
 | k+1,E,D,rest,hr,c,hc=>by
   have:=qay hg k (E+F) (D+G+2) _ (qci hn iE hg hr k) c hc;exact this.mono (by rw [Re]; omega) (by rw [Re]; omega)
end
theorem qca {l:Int} (hl:1<=l) (ag:l<=4) {cs:List Pl} (hc:∀ c ∈ cs,c.Can) (hi:∀ c ∈ cs,zh l c):uan l (joinL l cs) (zk cs):=
 ⟨fun c h=>hc c (yau h),fun c h=>hi c (yau h),fun ρ=>by rw [uz hl ag,qbj ρ l hc],ybc hc⟩
theorem wcs {l:Int} (hl:1<=l) (ag:l<=4) {cs:List Pl} (hc:∀ c ∈ cs,c.Can) (hi:∀ c ∈ cs,zh l c):(joinL l cs).xf l=zk cs:=(Pl.q8 hl ag (zad l cs)).uniq (qca hl ag hc hi)
theorem jbj : ∀ cs : List Pl, (zk cs).length <= cs.length
 | []=>pj _
 | c :: r=>by
   have:=jbj r;rw [zk]
   split
   · exact pZ _
   · simpa using this
theorem xa9 {l:Int} (hl:1<=l) (ag:l<=4) {cs:List Pl} (hc:∀ c ∈ cs,c.Can) (hi:∀ c ∈ cs,zh l c):mdg l (joinL l cs) < cs.length:=by
 unfold mdg;rw [wcs hl ag hc hi];have:=jbj cs;omega
theorem vc4 {l n:Int} (hn:0<=n) (jM:l<=n) {cs:List Pl} (hc:∀ c ∈ cs,c.Can/\c.lv<=n):(joinL l cs).lv<=n:=by
 unfold joinL
 split
 · rename_i hl;refine gaw hn (Pl.xV _) (Low.nf fun ρ ρ' he=>?_);rw [Pl.mk_val ρ _ _ _ (by omega) hl.2,Pl.mk_val ρ' _ _ _ (by omega) hl.2];exact jal (he l jM) _ fun c h=>Pl.jz c (hc c h).1 fun j hj=>he j (by have:=(hc c h).2; omega)
 · exact hn
theorem ga2 {l n:Int} {p:Pl} {E D:Nat} (hl:1<=l) (ag:l<=4) (h:Fit p E D) (hn:p.lv<=n):∀ c ∈ p.xf l,El l n E D c:=fun c hc=>⟨Pl.zP h c hc,qx hl ag h.can c hc,Int.le_trans (Pl.qaG h.can c hc) hn⟩
theorem kc0 (l:Int) (f g:Pl):(uah l f g).Can:=by
 unfold uah
 split
 · split
   · exact Pl.qT
   · exact zad _ _
 · exact Pl.qT
theorem wbc (g:List Pl) (rest:List Pl):zt g 0 rest=rest:=rfl
theorem jbo {l:Int} (f g:Pl) (hg:0 < (g.xf l).length):(zt (g.xf l) ((f.xf l).length - ((g.xf l).length - 1)) (f.xf l)).length<=(g.xf l).length - 1:=by
 by_cases h:(g.xf l).length - 1<=(f.xf l).length
 · rw [vbk _ _ _ (by omega)];exact pj _
 · rw [show (f.xf l).length - ((g.xf l).length - 1)=0 by omega,wbc];omega
section
variable {l:Int} (hl:1<=l) (ag:l<=4) {f g:Pl} {E D F G:Nat}
include hl ag
theorem jc0 (hf:f.Can) (hg:g.Can) (bI:g ≠ Pl.zero):mdg l (uah l f g) < mdg l g:=by
 obtain ⟨E,hE⟩:∃ E,Fit f E f.nr:=⟨_,Pl.Kl hf f.ki⟩;obtain ⟨F,hF⟩:∃ F,Fit g F g.nr:=⟨_,Pl.Kl hg g.ki⟩;have mf:=qay (l:=l) (n:=4) (by omega) (by omega) (ga2 hl ag hF hg.qq.2) ((f.xf l).length - ((g.xf l).length - 1)) _ _ _ (ga2 hl ag hE hf.qq.2);have hlen:=rA.2 (jaf hl ag hg bI);have h1:=jbo f g hlen;unfold uah;rw [if_pos ⟨hl,ag⟩,if_neg (fun e=>bI ((Pl.xj hg).1 e))];have h2:=xa9 hl ag (fun c hc=>(mf c hc).fit.can) (fun c hc=>(mf c hc).ind);rw [show mdg l g=(g.xf l).length - 1 from rfl];omega
theorem ycd {n:Int} (jM:l<=n) (iE:n<=4) (hf:Fit f E D) (hg:Fit g F G) (jX:f.lv<=n) (lL:g.lv<=n) (hF:F < B32):Fit (uah l f g) (E+(E+1) * F+F) (D+(E+1) * (G+2)+1)/\(uah l f g).lv<=n:=by
 unfold uah;rw [if_pos ⟨hl,ag⟩]
 split
 · exact ⟨Fit.zero,by show (0:Int)<=n; omega⟩
 · rename_i hz;have bI:g ≠ Pl.zero:=fun e=>hz ((Pl.xj hg.can).2 e)
   have hlen:=rA.2 (jaf hl ag hg.can bI);have ajx:=jw (l:=l) hf.can hf.ex;have ajs:=jw (l:=l) hg.can hg.ex;have h1:=jbo f g hlen;have mf:=qay (l:=l) (n:=n) (by omega) iE (ga2 hl ag hg lL) ((f.xf l).length - ((g.xf l).length - 1)) _ _ _ (ga2 hl ag hf jX);have hk:(f.xf l).length - ((g.xf l).length - 1)<=E+1:=by omega
   have yS:∀ c ∈ zt (g.xf l) ((f.xf l).length - ((g.xf l).length - 1)) (f.xf l),El l n (E+(E+1) * F+F) (D+(E+1) * (G+2)) c:=fun c hc =>
    (mf c hc).mono (by have:=pE F hk; omega) (by have:=pE (G+2) hk; omega)
   exact ⟨qa9 (fun c hc=>⟨(yS c hc).fit.can,(yS c hc).ind,(yS c hc).fit.ex⟩) (by omega) (ubg (fun c hc=>(yS c hc).fit) (by omega)),vc4 (by omega) jM fun c hc=>⟨(yS c hc).fit.can,(yS c hc).lv⟩⟩
end
open Go.RowKit
noncomputable def qF {α:Type} (a b:α):Bool:=@decide (a=b) (Classical.propDecidable _)
theorem xbb {α:Type} {a b:α}:qF a b=true ↔ a=b:=by unfold qF; exact @decide_eq_true_iff _ (Classical.propDecidable _)
theorem gas {α:Type} {a b:α} (h:a ≠ b):qF a b=false:=by
 cases hb:qF a b
 · rfl
 · exact absurd (xbb.1 hb) h
theorem jap {α:Type} {a b:α} (h:a=b):qF a b=true:=xbb.2 h
theorem vcu {α β:Type} {a b:α} {c d:β} (h:a=b ↔ c=d):qF a b=qF c d:=by
 by_cases hh:a=b
 · rw [jap hh,jap (h.1 hh)]
 · rw [gas hh,gas fun e=>hh (h.2 e)]
theorem zco {α:Type} {l r:List α} {k:Nat} (h:l.take k=r.take k) (hl:k < l.length) (hr:k < r.length) (he:l[k]=r[k]):l.take (k+1)=r.take (k+1):=by
 rw [pC hl,pC hr,h,he]
theorem ucx {α:Type} {l r:List α} (h:l.length=r.length) (he:l.take l.length=r.take l.length):l=r:=by
 rw [pQ] at he;rw [he,h,pQ]
theorem Pl.Kc {p q:Pl} (h1:p.lv=q.lv) (h2:p.neg=q.neg) (h3:p.ds=q.ds) (h4:p.cs=q.cs):p=q:=by
 obtain ⟨l,n,d,c⟩:=p;obtain ⟨l',n',d',c'⟩:=q;simp only [Pl.lv,Pl.neg,Pl.ds,Pl.cs] at h1 h2 h3 h4;rw [h1,h2,h3,h4]
theorem Pl.Can.KM {p:Pl} (h:p.Can) {c:Pl} (hc:c ∈ p.cs):c.Can:=by
 obtain ⟨l,n,d,cs⟩:=p;unfold Pl.Can at h;rcases h with h | h
 · simp only [Pl.cs,h.2.1] at hc; cases hc
 · exact (h.2.2.2.2.2.1.mem c hc).2
end Go.Proofs.YtcepajijiabkmaaGreat

set_option maxRecDepth 100000
set_option maxHeartbeats 8000000
namespace Go.Proofs.YtcepajijiabkmaaGreat
open Lib (hid)
open Go.RowKit
theorem qbs (x y:Value) (a b:Int) (L M:Nat) (w:World) (h:qo w x a L) (k:qo w y b M):Calls Tryz.prog 68 #[x,y] w (wap (qF a b) w):=by
 have H:=hid h;have K:=hid k;obtain ⟨n1,s1,ds,rfl,⟨A1,c1,rfl,-⟩,-⟩:=h;obtain ⟨n2,s2,es,rfl,⟨A2,c2,rfl,-⟩,-⟩:=k;obtain ⟨W,hW⟩:=n_m ((w.alloc (.cells #[.bool n1,.slice A1 ds.length c1] 30)).alloc (.cells #[.bool n2,.slice A2 es.length c2] 30));have ai:Ext w W:=by rw [<- hW]; exact ((Ext.refl w).alloc _).alloc _
 have q0:W.cell? ⟨w.heap.size,0,none⟩=some (.bool n1):=by rw [<- hW]; simp [go_sem]
 have q1:W.cell? ⟨w.heap.size,1,none⟩=some (.slice A1 ds.length c1):=by rw [<- hW]; simp [go_sem]
 have q2:W.cell? ⟨w.heap.size+1,0,none⟩=some (.bool n2):=by rw [<- hW]; simp [go_sem]
 have q3:W.cell? ⟨w.heap.size+1,1,none⟩=some (.slice A2 es.length c2):=by rw [<- hW]; simp [go_sem]
 have aG:=hid ai;have HC:=hid (jcf _ _ a b _ _ W (H.out.ext ai) (K.out.ext ai));clear ai;have HE:Hid ((uh a b == 0)=qF a b):=by
  have:(uh a b == 0)=qF a b:=by
   by_cases kF:a=b
   · rw [jap kF,kF]; simp [uh]
   · rw [gas kF];simp only [uh]
     split <;> (try split) <;> simp <;> omega
  exact this
 go_enter Tryz.func68,Tryz.ntmps68;go_wp2_with fail;clear hW q0 q1 q2 q3;refine HC.out.mono ?_;rintro e w1 ⟨rfl,x1⟩;have X1:=hid (aG.out.trans x1);clear x1 HC;generalize uh a b=cq at *;go_wp2_with fail;go_ret;exact ⟨by rw [<- HE.out]; rfl,X1.out⟩
def udb (w0:World) (n:Nat):Prop:=∀ (p q:Pl) (v u:Value) (w:World),p.sz < n->p.sz<=1099511627776->p.Can->q.Can->PlV w0 (fun _=>True) p v->PlV w0 (fun _=>True) q u->Ext w0 w->Calls Tryz.prog 51 #[v,u] w (wap (qF p q) w)
theorem ucz (w0:World) (n:Nat):udb w0 n:=by
 induction n with
 | zero=>intro p q v u w h; omega
 | succ n ih =>
 intro p q v u w hn hsz hp hq h h' aC;have IH:=hid ih;have ay:=hid aC;have jC:Hid (∀ k (hk:k < p.cs.length),p.cs[k].sz < n/\p.cs[k].sz<=1099511627776):=by
  have:∀ k (hk:k < p.cs.length),p.cs[k].sz < n/\p.cs[k].sz<=1099511627776:=fun k hk=>by have:=Pl.jn (pt hk); omega
  exact this
 have QF:=p.kj;have YL:Hid ((∀ k (hk:k < p.cs.length),p.cs[k].Can)/\∀ k (hk:k < q.cs.length),q.cs[k].Can):=by
  have:(∀ k (hk:k < p.cs.length),p.cs[k].Can)/\∀ k (hk:k < q.cs.length),q.cs[k].Can:=⟨fun k hk=>hp.KM (pt hk),fun k hk=>hq.KM (pt hk)⟩;exact this
 have Dz:=hid hp;have HQC:=hid hq;obtain ⟨A0,n0,c0,A,c,rfl,ax,fC,dK,h4⟩:=h.open_;obtain ⟨B0,m0,d0,B,d,rfl,sF,KF,Su,Dc⟩:=h'.open_;have H4:=hid h4;have H4':=hid Dc;have HN:=hid ax;have VK:=hid sF;obtain ⟨W,hW⟩:=n_m ((w.alloc (.cells #[.int .i64 p.lv,.bool p.neg,.slice A0 n0 c0,.slice A p.cs.length c] 33)).alloc (.cells #[.int .i64 q.lv,.bool q.neg,.slice B0 m0 d0,.slice B q.cs.length d] 33));have ai:Ext w W:=by rw [<- hW]; exact ((Ext.refl w).alloc _).alloc _
 have dG:W.heap.size=w.heap.size+1+1:=by rw [<- hW]; simp
 have bV:jb W w.heap.size p (.slice A0 n0 c0) (.slice A p.cs.length c):=by rw [<- hW]; exact (jb.new w p _ _ _).ext ((Ext.refl _).alloc _) (by simp)
 have yZ:jb W (w.heap.size+1) q (.slice B0 m0 d0) (.slice B q.cs.length d):=by
  rw [<- hW];have h1:=jb.new (w.alloc (.cells #[.int .i64 p.lv,.bool p.neg,.slice A0 n0 c0,.slice A p.cs.length c] 33)) q (.slice B0 m0 d0) (.slice B q.cs.length d) 33;simpa using h1
 have aG:=hid ai;have kJ:=hid bV;have Wv:=hid yZ;obtain ⟨b0,b1,b2,b3⟩:=bV;obtain ⟨e0,e1,e2,e3⟩:=yZ;clear h h' ih h4 Dc aC ax sF ai hp hq;obtain ⟨res,mQ⟩:=n_m (qF p q);rw [mQ];have Dv:=hid mQ;clear mQ;unfold plV;go_enter Tryz.func51,Tryz.ntmps51
 by_cases fF:p.lv=q.lv
 case neg =>
  have HF:Hid (res=false):=hid (Dv.out.symm.trans (gas fun e=>fF (by rw [e])));have aiZ:(p.lv != q.lv)=true:=by simpa using fF
  go_wp2_with fail;go_ret;exact ⟨by rw [HF.out]; rfl,aG.out⟩
 by_cases hl:p.cs.length=q.cs.length
 case neg =>
  have HF:Hid (res=false):=hid (Dv.out.symm.trans (gas fun e=>hl (by rw [e])));have HL:=hid fF;rw [<- fF] at e0 hW;clear fF;rw [<- HL.out];go_wp2_with fail;go_ret;exact ⟨by rw [HF.out]; rfl,aG.out⟩
 have ED:=hid fF;have HL:=hid hl;rw [<- fF] at e0 hW;rw [<- hl] at e3 hW KF Wv;rw [<- fF,<- hl];clear fF hl
 by_cases hz:p.lv=0
 · have iI:(p.lv == 0)=true:=by simpa using hz
   have HZ:=hid hz;have hip:qo W (.agg #[.bool p.neg,.slice A0 n0 c0]) p.z p.ds.length:=⟨_,_,_,rfl,HN.out.ext (ay.out.trans aG.out),rfl,pj _⟩;have hiq:qo W (.agg #[.bool q.neg,.slice B0 m0 d0]) q.z q.ds.length:=⟨_,_,_,rfl,VK.out.ext (ay.out.trans aG.out),rfl,pj _⟩;have xN:=hid (qbs _ _ p.z q.z _ _ W hip hiq);clear hip hiq hz;go_wp2_with fail;clear hW b0 b1 b2 b3 e0 e1 e2 e3;refine xN.out.mono ?_;rintro e w1 ⟨rfl,x1⟩;have HF:Hid (qF p.z q.z=res):=hid ((vcu ⟨fun e=>by rw [yah Dz.out HZ.out,yah HQC.out (ED.out.symm.trans HZ.out),e],fun e=>by rw [e]⟩).trans Dv.out);have X1:=hid (aG.out.trans x1);clear x1 xN;generalize qF p.z q.z=bz at *;go_wp2_with fail;go_ret;exact ⟨by rw [HF.out]; rfl,X1.out⟩
 have iI:(p.lv == 0)=false:=by simpa using hz
 have HND:Hid ((p.neg,p.ds)=(q.neg,q.ds)):=by
  have h1:=Dz.out.qq.1;obtain ⟨l,ng,ds,cs⟩:=p;obtain ⟨l',Oe,ds',cs'⟩:=q;have hl:0 < l:=by simp only [Pl.lv] at h1 hz; omega
  have e1:=Dz.out.kids hl;have e2:=HQC.out.kids (by have:=ED.out; simp only [Pl.lv] at this; omega);show ((ng,ds)=(Oe,ds'));rw [e1.1,e1.2.1,e2.1,e2.2.1]
 obtain ⟨w1,uN⟩:=n_m (W);have X1:Hid (Ext w w1):=hid (by rw [<- uN]; exact aG.out);have oH:W.heap.size<=w1.heap.size:=by rw [uN]; exact pj _
 have NT:Hid (jb w1 w.heap.size p (.slice A0 n0 c0) (.slice A p.cs.length c)):=hid (by rw [<- uN]; exact kJ.out);have NP:Hid (jb w1 (w.heap.size+1) q (.slice B0 m0 d0) (.slice B p.cs.length d)):=hid (by rw [<- uN]; exact Wv.out);have ZJ:=hid uN;clear uN hz Dz HQC HN VK;go_wp2_with fail;clear hW b0 b1 b2 b3 e0 e1 e2 e3;obtain rfl:W=w1:=ZJ.out
 go_loopw [31] (fun iv wr=>∃ k:Nat,k<=p.cs.length/\iv=.int .i64 k/\Hid (p.cs.take k=q.cs.take k/\Ext W wr)) (fun iv _=>p.cs.length - (intOf iv).toNat)
 case atStart=>exact ⟨0,pZ _,rfl,⟨by simp,Ext.refl _⟩⟩
 case round =>
  obtain ⟨k,hk,rfl,⟨ed,hx⟩⟩:=hrel;have HX:=hid hx;have HT:=hid ed;obtain ⟨b0,b1,b2,b3⟩:=NT.out.ext hx (by omega);obtain ⟨e0,e1,e2,e3⟩:=NP.out.ext hx (by omega);have mP:=hx.size;clear hx ed
  by_cases af:k < p.cs.length
  · have fV:k < q.cs.length:=by have:=HL.out; omega
    obtain ⟨ad,C0,j0,f0,C1,j1,f1,rfl,ah,bP,bu⟩:=jd.ym H4.out k af;obtain ⟨ad',D0,i0,g0,D1,i1,g1,rfl,kX,sD,qO⟩:=jd.ym H4'.out k fV;have bQ:Ext w0 wr:=(ay.out.trans X1.out).trans HX.out;have Gp:=hid (bP.ext bQ (by rw [ja]; exact ah));have Jm:=hid (sD.ext bQ (by rw [ja]; exact kX));have bF:ad.block < wr.heap.size:=px ah bQ.size;have dE:ad'.block < wr.heap.size:=px kX bQ.size;have lN:=hid (fun W' (bJ:Ext wr W')=>IH.out p.cs[k] q.cs[k] _ _ W' (jC.out k af).1 (jC.out k af).2 (YL.out.1 k af) (YL.out.2 k fV) bu qO (bQ.trans bJ));have bZ:Hid (p.cs[k]=q.cs[k]->p.cs.take (k+1)=q.cs.take (k+1)):=hid (zco HT.out af fV);have Jl:Hid (p.cs[k] ≠ q.cs[k]->res=false):=hid (fun au=>Dv.out.symm.trans (gas fun e=>au (by subst e; rfl)));unfold plV at lN;generalize p.cs[k]=pk at *;generalize q.cs[k]=qk at *;have aH:Hid (∀ W2,Ext wr W2->(Ext wr W2/\W2.cell? ⟨w.heap.size,3,none⟩=some (.slice (some ad) p.cs.length c)/\W2.cell? ⟨w.heap.size+1,3,none⟩=some (.slice (some ad') p.cs.length d)/\W2.cell? (Addr.add ad (k * 4))=some (.int .i64 pk.lv)/\W2.cell? ⟨(Addr.add ad (k * 4)).block,(Addr.add ad (k * 4)).off+1,none⟩=some (.bool pk.neg)/\W2.cell? ⟨(Addr.add ad (k * 4)).block,(Addr.add ad (k * 4)).off+2,none⟩=some (.slice C0 j0 f0)/\W2.cell? ⟨(Addr.add ad (k * 4)).block,(Addr.add ad (k * 4)).off+3,none⟩=some (.slice C1 j1 f1)/\W2.cell? (Addr.add ad' (k * 4))=some (.int .i64 qk.lv)/\W2.cell? ⟨(Addr.add ad' (k * 4)).block,(Addr.add ad' (k * 4)).off+1,none⟩=some (.bool qk.neg)/\W2.cell? ⟨(Addr.add ad' (k * 4)).block,(Addr.add ad' (k * 4)).off+2,none⟩=some (.slice D0 i0 g0)/\W2.cell? ⟨(Addr.add ad' (k * 4)).block,(Addr.add ad' (k * 4)).off+3,none⟩=some (.slice D1 i1 g1))):=by
     have:∀ W2,Ext wr W2->(Ext wr W2/\W2.cell? ⟨w.heap.size,3,none⟩=some (.slice (some ad) p.cs.length c)/\W2.cell? ⟨w.heap.size+1,3,none⟩=some (.slice (some ad') p.cs.length d)/\W2.cell? (Addr.add ad (k * 4))=some (.int .i64 pk.lv)/\W2.cell? ⟨(Addr.add ad (k * 4)).block,(Addr.add ad (k * 4)).off+1,none⟩=some (.bool pk.neg)/\W2.cell? ⟨(Addr.add ad (k * 4)).block,(Addr.add ad (k * 4)).off+2,none⟩=some (.slice C0 j0 f0)/\W2.cell? ⟨(Addr.add ad (k * 4)).block,(Addr.add ad (k * 4)).off+3,none⟩=some (.slice C1 j1 f1)/\W2.cell? (Addr.add ad' (k * 4))=some (.int .i64 qk.lv)/\W2.cell? ⟨(Addr.add ad' (k * 4)).block,(Addr.add ad' (k * 4)).off+1,none⟩=some (.bool qk.neg)/\W2.cell? ⟨(Addr.add ad' (k * 4)).block,(Addr.add ad' (k * 4)).off+2,none⟩=some (.slice D0 i0 g0)/\W2.cell? ⟨(Addr.add ad' (k * 4)).block,(Addr.add ad' (k * 4)).off+3,none⟩=some (.slice D1 i1 g1)):=fun W2 aN=>by
      obtain ⟨a0,a1,a2,a3⟩:=Gp.out.ext aN (by rw [ja]; exact bF);obtain ⟨a0',a1',a2',a3'⟩:=Jm.out.ext aN (by rw [ja]; exact dE);exact ⟨aN,(aN.cell (p:=⟨w.heap.size,3,none⟩) (by show w.heap.size < _; omega)).trans b3,(aN.cell (p:=⟨w.heap.size+1,3,none⟩) (by show w.heap.size+1 < _; omega)).trans e3,a0,a1,a2,a3,a0',a1',a2',a3'⟩
     exact this
    clear bP sD bu qO bQ ah kX;have y0:Ext wr wr.drew:=(Ext.refl wr).drew;have Y0:=hid y0;clear y0;go_upto_region 8 with fail;clear b0 b1 b2 b3 e0 e1 e2 e3
    go_region_held3 (fun W2 => Ext wr W2 /\ W2.cell? ⟨w.heap.size, 3, none⟩ = some (.slice (some ad) p.cs.length c) /\ W2.cell? ⟨w.heap.size + 1, 3, none⟩ = some (.slice (some ad') p.cs.length d) /\ W2.cell? (Addr.add ad (k * 4)) = some (.int .i64 pk.lv) /\ W2.cell? ⟨(Addr.add ad (k * 4)).block, (Addr.add ad (k * 4)).off + 1, none⟩ = some (.bool pk.neg) /\ W2.cell? ⟨(Addr.add ad (k * 4)).block, (Addr.add ad (k * 4)).off + 2, none⟩ = some (.slice C0 j0 f0) /\ W2.cell? ⟨(Addr.add ad (k * 4)).block, (Addr.add ad (k * 4)).off + 3, none⟩ = some (.slice C1 j1 f1) /\ W2.cell? (Addr.add ad' (k * 4)) = some (.int .i64 qk.lv) /\ W2.cell? ⟨(Addr.add ad' (k * 4)).block, (Addr.add ad' (k * 4)).off + 1, none⟩ = some (.bool qk.neg) /\ W2.cell? ⟨(Addr.add ad' (k * 4)).block, (Addr.add ad' (k * 4)).off + 2, none⟩ = some (.slice D0 i0 g0) /\ W2.cell? ⟨(Addr.add ad' (k * 4)).block, (Addr.add ad' (k * 4)).off + 3, none⟩ = some (.slice D1 i1 g1))
     (first | with_reducible exact aH.out _ Y0.out | with_reducible exact aH.out _ y1)
     ((go_at_call 51
       refine (lN.out _ Y0.out).mono ?_;rintro e v1 ⟨rfl,x1⟩
       have y1:Ext wr v1:=Ext.trans Y0.out x1))
    all_goals
     have X2:=hid (HX.out.trans y1);clear y1 x1 lN aH Y0
     by_cases Hm:pk=qk
     · have HT2:=hid (bZ.out Hm);rw [jap Hm];clear Hm;go_wp2_with fail
       go_roundw
       case rel=>exact ⟨k+1,by omega,by go_num,⟨HT2.out,X2.out⟩⟩
       case measure=>simp [intOf]; omega
     · have HF:=hid (Jl.out Hm);rw [gas Hm];clear Hm;go_wp2_with fail;go_ret;exact ⟨by rw [HF.out]; rfl,X1.out.trans X2.out⟩
  · have HF:Hid (res=true):=hid (Dv.out.symm.trans (jap (by
     have h1:=HT.out;rw [show k=p.cs.length by omega] at h1;have h2:=ucx HL.out h1;have h3:=HND.out
     exact Pl.Kc ED.out (congrArg Prod.fst h3) (congrArg Prod.snd h3) h2)))
    clear b0 b1 b2 b3 e0 e1 e2 e3;go_wp2_with fail;go_ret;exact ⟨by rw [HF.out]; rfl,X1.out.trans HX.out⟩
theorem ycq {w:World} {q1 q2:Nat->Prop} (p q:Pl) (v u:Value) (hsz:p.sz<=1099511627776) (hp:p.Can) (hq:q.Can) (h:PlV w q1 p v) (k:PlV w q2 q u):Calls Tryz.prog 51 #[v,u] w (wap (qF p q) w):=
 ucz w (p.sz+1) p q v u w (tx _) hsz hp hq (h.mono fun _ _=>trivial) (k.mono fun _ _=>trivial) (Ext.refl w)
theorem Fit.small {p:Pl} {E D:Nat} (h:Fit p E D) (hE:E<=170):p.sz<=1073741824:=py h.sz (py (Pf (show E+2<=172 by omega) 4) (by decide))
theorem xbr {w:World} {p q:Pl} {E D:Nat} {q0:Nat->Prop} (v0:Value) {q1:Nat->Prop} (v1:Value) (h0:PlV w q0 p v0) (h1:PlV w q1 q v1) (bW:p.sz<=1073741824) (eH:p.dm<=1099511627776) (jF:q.sz<=1073741824) (uD:q.dm<=1099511627776) (hp:Fit p.nf E D) (hE:E<=170):Calls Tryz.prog 26 #[v0,v1] w (wap (qF p.nf q.nf) w):=by
 have H0:=hid h0;obtain ⟨A0,n0,c0,B0,d0,rfl,-,-,-,-⟩:=h0.open_;clear h0;have H1:=hid h1;obtain ⟨A1,n1,c1,B1,d1,rfl,-,-,-,-⟩:=h1.open_;clear h1;obtain ⟨W,hW⟩:=n_m ((w.alloc (.cells #[.int .i64 (p).lv,.bool (p).neg,.slice A0 n0 c0,.slice B0 (p).cs.length d0] 33)).alloc (.cells #[.int .i64 (q).lv,.bool (q).neg,.slice A1 n1 c1,.slice B1 (q).cs.length d1] 33));have ai:Ext w W:=by rw [<- hW]; exact ((Ext.refl w).alloc _).alloc _
 have dG:W.heap.size=w.heap.size+1+1:=by rw [<- hW]; simp
 have ay:=hid ai;have HS:Hid (∀ W',Ext W W'->(Ext w W'/\W'.cell? ⟨w.heap.size,0,none⟩=some (.int .i64 (p).lv)/\W'.cell? ⟨w.heap.size,1,none⟩=some (.bool (p).neg)/\W'.cell? ⟨w.heap.size,2,none⟩=some (.slice A0 n0 c0)/\W'.cell? ⟨w.heap.size,3,none⟩=some (.slice B0 (p).cs.length d0)/\W'.cell? ⟨w.heap.size+1,0,none⟩=some (.int .i64 (q).lv)/\W'.cell? ⟨w.heap.size+1,1,none⟩=some (.bool (q).neg)/\W'.cell? ⟨w.heap.size+1,2,none⟩=some (.slice A1 n1 c1)/\W'.cell? ⟨w.heap.size+1,3,none⟩=some (.slice B1 (q).cs.length d1))):=by
  have:∀ W',Ext W W'->(Ext w W'/\W'.cell? ⟨w.heap.size,0,none⟩=some (.int .i64 (p).lv)/\W'.cell? ⟨w.heap.size,1,none⟩=some (.bool (p).neg)/\W'.cell? ⟨w.heap.size,2,none⟩=some (.slice A0 n0 c0)/\W'.cell? ⟨w.heap.size,3,none⟩=some (.slice B0 (p).cs.length d0)/\W'.cell? ⟨w.heap.size+1,0,none⟩=some (.int .i64 (q).lv)/\W'.cell? ⟨w.heap.size+1,1,none⟩=some (.bool (q).neg)/\W'.cell? ⟨w.heap.size+1,2,none⟩=some (.slice A1 n1 c1)/\W'.cell? ⟨w.heap.size+1,3,none⟩=some (.slice B1 (q).cs.length d1)):=fun W' hx=>by
   obtain ⟨hc,hf⟩:=hx.cells;refine ⟨ai.trans hx,?_,?_,?_,?_,?_,?_,?_,?_⟩ <;> (rw [hc _ _ (by omega),<- hW]; simp [go_sem])
  exact this
 have jC:=hid (py (hp.small hE) (show 1073741824<=1099511627776 by decide));clear hp;obtain ⟨-,b0,b1,b2,b3,b4,b5,b6,b7⟩:=HS.out W (Ext.refl W);clear ai;unfold plV at *;go_enter Tryz.func26,Tryz.ntmps26;go_wp2_with fail;clear hW b0 b1 b2 b3 b4 b5 b6 b7;have pR:Ext W W.drew:=(Ext.refl W).drew;have Y0:=hid pR;clear pR
 go_region_held3 (fun W' => Ext w W' /\ W'.cell? ⟨w.heap.size, 0, none⟩ = some (.int .i64 (p).lv) /\ W'.cell? ⟨w.heap.size, 1, none⟩ = some (.bool (p).neg) /\ W'.cell? ⟨w.heap.size, 2, none⟩ = some (.slice A0 n0 c0) /\ W'.cell? ⟨w.heap.size, 3, none⟩ = some (.slice B0 (p).cs.length d0) /\ W'.cell? ⟨w.heap.size + 1, 0, none⟩ = some (.int .i64 (q).lv) /\ W'.cell? ⟨w.heap.size + 1, 1, none⟩ = some (.bool (q).neg) /\ W'.cell? ⟨w.heap.size + 1, 2, none⟩ = some (.slice A1 n1 c1) /\ W'.cell? ⟨w.heap.size + 1, 3, none⟩ = some (.slice B1 (q).cs.length d1))
  (first | with_reducible exact HS.out _ Y0.out | with_reducible exact HS.out _ gK | with_reducible exact HS.out _ iO | with_reducible exact HS.out _ mM)
  (first
    | (go_at_call 38
       (fail_if_success have _:=gK)
       refine (gal p _ (H0.out.ext (ay.out.trans Y0.out)) bW eH).mono ?_;rintro e w1 ⟨z1,rfl,m1,x1⟩;obtain ⟨C1,i1,j1,D1,k1,rfl,-⟩:=id m1.open_;have gK:Ext W w1:=Ext.trans Y0.out x1
       unfold plV)
    | (go_at_call 38
       refine (gal q _ (H1.out.ext (ay.out.trans gK)) jF uD).mono ?_;rintro e w2 ⟨z2,rfl,m2,x2⟩;obtain ⟨C2,i2,j2,D2,k2,rfl,-⟩:=id m2.open_;have iO:Ext W w2:=Ext.trans gK x2
       replace m1:=m1.ext x2
       unfold plV)
    | (go_at_call 51
       refine (ycq p.nf q.nf _ _ jC.out p.xV q.xV m1 m2).mono ?_;rintro e w3 ⟨rfl,x3⟩;have mM:Ext W w3:=Ext.trans iO x3
       replace m1:=m1.ext x3
       replace m2:=m2.ext x3))
 have X3:=hid (ay.out.trans mM);clear m1 m2 x1 x2 x3 gK iO mM HS;generalize qF p.nf q.nf=res at *;go_wp2_with fail;go_ret;exact ⟨rfl,X3.out⟩
def jag (W:World) (q:Nat->Prop) (v:Value) (L:List Pl):Prop:=∃ A c,v=.slice A L.length c/\L.length<=c/\c<=9223372036854775807/\(L ≠ []->∃ R,A=some ⟨R,0,none⟩/\q R/\jh W q R L)
theorem jag.mono {W:World} {q q':Nat->Prop} {v:Value} {L:List Pl} (h:jag W q v L) (hq:∀ b,q b->q' b):jag W q' v L:=by
 obtain ⟨A,c,e,h1,h2,h3⟩:=h;exact ⟨A,c,e,h1,h2,fun hn=>by obtain ⟨R,e,h4,h5⟩:=h3 hn; exact ⟨R,e,hq R h4,h5.mono hq⟩⟩
theorem jag.at_ {W:World} {q:Nat->Prop} {v:Value} {L:List Pl} (h:jag W q v L):∃ A c,v=.slice A L.length c/\L.length<=c/\c<=9223372036854775807/\jd W q L A 0:=by
 obtain ⟨A,c,e,h1,h2,h3⟩:=h;refine ⟨A,c,e,h1,h2,?_⟩
 by_cases hn:L=[]
 · subst hn; unfold jd; trivial
 · obtain ⟨R,rfl,h4,h5⟩:=h3 hn;exact h5.fin h4
def uai (q:Nat->Prop) (L:List Pl) (w:World) (e:Ending) (w':World):Prop:=∃ v,e=.returned v/\jag w' q v L/\Ext w w'
theorem Fit.copy_ {p:Pl} {E D:Nat} (h:Fit p E D) (hE:E<=170):p.sz<=1099511627776:=by have:=h.small hE; omega
def CoL (n k:Nat) (raw L:List Pl):Prop:=L.length=n+1/\∀ j (h:j < L.length),L[j]=if j < k then (raw.getD j Pl.zero).nf else raw.getD j Pl.zero
theorem gak {w:World} {q:Nat->Prop} {p:Pl} {l:Int} {E D:Nat} (v:Value) (hl:1<=l) (ag:l<=4) (hp:Fit p E D) (hE:E<=170) (hD:D<=1099511627776) (h:PlV w q p v):Calls Tryz.prog 137 #[v,.int .i64 l] w (uai (fun b=>w.heap.size<=b) (p.xf l) w):=by
 have HP:=hid h;obtain ⟨A0,n0,c0,A,c,rfl,-⟩:=h.open_;obtain ⟨W,hW⟩:=n_m (w.alloc (.cells #[.int .i64 p.lv,.bool p.neg,.slice A0 n0 c0,.slice A p.cs.length c] 33));have ai:Ext w W:=by rw [<- hW]; exact (Ext.refl w).alloc _
 have MG:PBx W (fun _=>True) w.heap.size p:=by rw [<- hW]; exact PBx.new (h.mono fun _ _=>trivial) _
 have HC:=hid hp;have HN:=hid (qac _ (HP.out.ext ai) hp.can (hp.copy_ hE) (by have:=hp.dm; omega));have aG:=hid ai;have qG:Hid (W.heap.size=w.heap.size+1):=hid (by rw [<- hW]; simp);have dJ:=hid MG;have QG:=ai.size;obtain ⟨-,-,B0,b0n,b0c,B1,b1c,⟨b0,b1,b2,b3⟩,-⟩:=id MG;have hE:W.cell? ⟨w.heap.size,0,none⟩=some (.int .i64 p.lv)/\W.cell? ⟨w.heap.size,1,none⟩=some (.bool p.neg)/\W.cell? ⟨w.heap.size,2,none⟩=some (.slice A0 n0 c0)/\W.cell? ⟨w.heap.size,3,none⟩=some (.slice A p.cs.length c):=by
  rw [<- hW]; exact ⟨by simp [go_sem],by simp [go_sem],by simp [go_sem],by simp [go_sem]⟩
 clear b0 b1 b2 b3 h hp MG ai;obtain ⟨b0,b1,b2,b3⟩:=hE;unfold plV at HN;unfold plV;go_enter Tryz.func137,Tryz.ntmps137;go_wp2_with fail;clear hW b0 b1 b2 b3;refine HN.out.mono ?_;rintro e w1 ⟨v1,rfl,m1,x1⟩;obtain ⟨C0,j0,f0,C1,f1,rfl,-⟩:=id m1.open_;have qV:=dJ.out.ext x1;obtain ⟨-,bG,B0,b0n,b0c,B1,b1c,⟨b0,b1,b2,b3⟩,-⟩:=id qV;have hsW:w.heap.size < W.heap.size:=dJ.out.1;have xC:=qV.store (Q':=fun _=>True) (m1.mono fun b hb=>⟨trivial,by omega⟩);obtain ⟨W1,aW⟩:=n_m (((((w1.setCell ⟨w.heap.size,0,none⟩ (.int .i64 p.lv)).setCell ⟨w.heap.size,1,none⟩ (.bool p.neg)).setCell ⟨w.heap.size,2,none⟩ (.slice C0 j0 f0)).setCell ⟨w.heap.size,3,none⟩ (.slice C1 p.cs.length f1)));have X1:Hid (Ext w W1):=hid (by rw [<- aW]; exact ((((aG.out.trans x1).setCell (pj _) _).setCell (pj _) _).setCell (pj _) _).setCell (pj _) _);rw [aW] at xC;have xW:=hid xC;have En:=bG 0;have f1':=bG 1;have f2':=bG 2;have f3':=bG 3;have hd:W1.cell? ⟨w.heap.size,0,none⟩=some (.int .i64 p.lv)/\W1.cell? ⟨w.heap.size,1,none⟩=some (.bool p.neg)/\W1.cell? ⟨w.heap.size,2,none⟩=some (.slice C0 j0 f0)/\W1.cell? ⟨w.heap.size,3,none⟩=some (.slice C1 p.cs.length f1):=by
  rw [<- aW]; exact jb.set (dJ.out.ext x1).2.2.choose_spec.choose_spec.choose_spec.choose_spec.choose_spec.1
 have Dw:Hid (PlV W1 (fun b=>W.heap.size<=b) p (plV p (.slice C0 j0 f0) (.slice C1 p.cs.length f1))):=hid (by rw [<- aW]; exact qV.stays m1 (fun b hb=>by omega) _ _ _ _ _ _ _ _);have HD:Hid (∀ W',Ext W1 W'->W'.cell? ⟨w.heap.size,0,none⟩=some (.int .i64 p.lv)/\W'.cell? ⟨w.heap.size,1,none⟩=some (.bool p.neg)/\W'.cell? ⟨w.heap.size,2,none⟩=some (.slice C0 j0 f0)/\W'.cell? ⟨w.heap.size,3,none⟩=some (.slice C1 p.cs.length f1)):=hid (fun W' hx=>by
  have k:∀ i,W'.cell? ⟨w.heap.size,i,none⟩=W1.cell? ⟨w.heap.size,i,none⟩:=fun i=>hx.cell (p:=⟨w.heap.size,i,none⟩) xW.out.1
  exact ⟨(k 0).trans hd.1,(k 1).trans hd.2.1,(k 2).trans hd.2.2.1,(k 3).trans hd.2.2.2⟩)
 have gJ:=hid (kac _ Dw.out HC.out.can);unfold plV at gJ;unfold plV;clear qV xC bG m1 x1 HN;go_upto_region 2 with fail
 try rw [aW]
 clear aW b0 b1 b2 b3 En f1' f2' f3';obtain ⟨b0,b1,b2,b3⟩:=hd;go_wp2_with fail;clear b0 b1 b2 b3;refine gJ.out.mono ?_;rintro e w2 ⟨rfl,x2⟩
 by_cases hz:p.zp=true
 · have nY:p.xf l=[]:=by rw [Pl.xf,if_pos hz]
   rw [hz];have X2:=hid (X1.out.trans x2);have NL:=hid nY;clear x2 gJ hz nY;go_wp2_with fail;go_ret;rw [NL.out];exact ⟨_,rfl,⟨none,0,rfl,by simp,by omega,fun h=>absurd rfl h⟩,X2.out⟩
 · rw [show p.zp=false by simpa using hz];have X2:=hid (X1.out.trans x2);have Yg:=hid x2;have hdb:=Pl.kI hl p HC.out.can HC.out.ex;obtain ⟨n,wW⟩:∃ n:Nat,p.yq l=n:=⟨(p.yq l).toNat,by omega⟩;have hnE:n<=170:=by omega
   have nY:p.xf l=(p.zm l n).map Pl.nf:=by rw [Pl.Km hl ag HC.out.can (fun e=>hz ((Pl.xj HC.out.can).2 e)),wW]; rfl
   have NL:=hid nY;have acX:Hid (∀ j,j < n+1->((p.zm l n).getD j Pl.zero).sz<=1073741824/\((p.zm l n).getD j Pl.zero).dm<=1099511627776/\((p.zm l n).getD j Pl.zero).nf.sz<=1099511627776):=hid (fun j hj=>by
    obtain ⟨h1,h2⟩:=Pl.Ys (l:=l) (n:=n) p j (by omega);obtain ⟨h3,h4⟩:=Pl.JT (l:=l) (n:=n) p HC.out.can HC.out.ex j (by omega);have h5:=HC.out.small hE;have h6:=HC.out.dm;have h7:Fit ((p.zm l n).getD j Pl.zero).nf E D:=⟨Pl.xV _,h3,sB h4 HC.out.nr⟩
    exact ⟨by omega,by omega,h7.copy_ hE⟩)
   have oQ:=hid (fun (W':World) (hx:Ext W1 W')=>vb5 hl p _ HC.out.can (HC.out.copy_ hE) (Dw.out.ext hx));rw [wW] at oQ;have oG:=hid (fun (W':World) (hx:Ext W1 W')=>xde hl n (by omega) p _ HC.out.can (HC.out.copy_ hE) (Int.le_of_eq wW) (Dw.out.ext hx));unfold plV at oQ oG;clear x2 gJ hz wW nY hdb;go_wp2_with fail;refine (yap l _).mono ?_;rintro e w3 ⟨rfl,rfl⟩;rw [show (decide (1<=l) && decide (l<=4))=true by simp [hl,ag]];have aH:Hid (∀ W',Ext W1 W'->(Ext W1 W'/\W'.cell? ⟨w.heap.size,0,none⟩=some (.int .i64 p.lv)/\W'.cell? ⟨w.heap.size,1,none⟩=some (.bool p.neg)/\W'.cell? ⟨w.heap.size,2,none⟩=some (.slice C0 j0 f0)/\W'.cell? ⟨w.heap.size,3,none⟩=some (.slice C1 p.cs.length f1))):=hid (fun W' hx=>⟨hx,HD.out W' hx⟩);have Y0:=hid (Yg.out.drew);go_upto_region 6 with fail
   go_region_held3 (fun W' => Ext W1 W' /\ W'.cell? ⟨w.heap.size, 0, none⟩ = some (.int .i64 p.lv) /\ W'.cell? ⟨w.heap.size, 1, none⟩ = some (.bool p.neg) /\ W'.cell? ⟨w.heap.size, 2, none⟩ = some (.slice C0 j0 f0) /\ W'.cell? ⟨w.heap.size, 3, none⟩ = some (.slice C1 p.cs.length f1))
    (first | with_reducible exact aH.out _ Y0.out | with_reducible exact aH.out _ z1 | with_reducible exact aH.out _ z2)
    (first
      | (go_at_call 136
         refine (oQ.out _ Y0.out).mono ?_;rintro e w4 ⟨rfl,y4⟩
         have z1:Ext W1 w4:=Y0.out.trans y4)
      | (go_at_call 152
         refine (oG.out _ z1).mono ?_;rintro e w5 ⟨R,rfl,hR,ae,y5⟩;rw [Pl.xz]
         have z2:Ext W1 w5:=z1.trans y5))
   all_goals
    have X5:=hid (X1.out.trans z2);have AL:=(X1.out.trans z1).size;have bW:=X1.out.size;have dG:W.heap.size=w.heap.size+1:=qG.out;have gV:jh w5 (fun b=>w.heap.size<=b) R (p.zm l n):=ae.mono fun b hb=>by
     rcases hb with hb | hb <;> omega
    have mi:w.heap.size<=R:=by omega
    have acS:Hid (∃ L,CoL n 0 (p.zm l n) L/\jh w5 (fun b=>w.heap.size<=b) R L):=hid ⟨p.zm l n,⟨Pl.xz l n p,fun j hj=>by rw [if_neg (by omega),po,pr hj]; rfl⟩,gV⟩;clear ae gV y4 y5 z1 z2 oG oQ aH hR;go_wp2_with fail
    go_loopw [26] (fun iv wr=>∃ k:Nat,k<=n+1/\iv=.int .i64 k/\Hid (Ext w wr/\∃ L,CoL n k (p.zm l n) L/\jh wr (fun b=>w.heap.size<=b) R L)) (fun iv _=>n+1 - (intOf iv).toNat)
    case atStart=>exact ⟨0,pZ _,rfl,hid ⟨X5.out,acS.out⟩⟩
    case round =>
     obtain ⟨k,hk,rfl,HI⟩:=hrel
     by_cases af:k < n+1
     · obtain ⟨nO,L,hL,bK⟩:=HI.out;have OC:k < L.length:=by rw [hL.1]; exact af
       obtain ⟨D0,dX,dZ,D1,lg,dY,⟨r0,r1,r2,r3⟩,uX⟩:=bK.2.2 k OC;have XP:=hL.2 k OC;rw [if_neg (Nat.lt_irrefl k)] at XP;obtain ⟨rV,BI,JW⟩:=acX.out k af;rw [<- XP] at rV BI JW;have HNM:=hid (fun (W':World) (hx:Ext wr W')=>ya0 L[k] _ (uX.ext hx) rV JW BI);have Ji:=hid bK;have oh:=hid nO;have Nu:=hid hL;have VQ:=hid XP;generalize L[k]=x at *;unfold plV at HNM;have H6:(k:Int) < (n:Int)+1:=by omega
       clear nO hL bK uX XP rV BI JW HI;go_wp2_with fail;clear r0 r1 r2 r3;refine (HNM.out _ (Ext.refl wr)).mono ?_;rintro e w6 ⟨v6,rfl,m6,x6⟩;obtain ⟨G0,g0n,g0c,G1,g1c,rfl,-⟩:=id m6.open_;have df:=Ji.out.ext x6;have hRr:R < wr.heap.size:=Ji.out.1;obtain ⟨I0,i0n,i0c,I1,i1n,i1c,⟨r0,r1,r2,r3⟩,-⟩:=df.2.2 k OC;have bG:=df.2.1;have En:=bG (k * 4);have f1':=bG (k * 4+1);have f2':=bG (k * 4+2);have f3':=bG (k * 4+3);have dV:=(df.xD k OC x.nf (m6.mono fun b hb=>⟨by omega,by omega⟩)).1;have aA:=(((((oh.out.trans x6).setCell mi (p:=⟨R,k * 4,none⟩) (.int .i64 x.nf.lv)).setCell mi (p:=⟨R,k * 4+1,none⟩) (.bool x.nf.neg)).setCell mi (p:=⟨R,k * 4+2,none⟩) (.slice G0 g0n g0c)).setCell mi (p:=⟨R,k * 4+3,none⟩) (.slice G1 x.nf.cs.length g1c));have hCo:CoL n (k+1) (p.zm l n) (L.set k x.nf):=by
        refine ⟨by rw [pL]; exact Nu.out.1,fun j hj=>?_⟩;rw [pL] at hj
        by_cases lK:j=k
        · subst lK;rw [r6,if_pos (tx _),VQ.out]
        · rw [sY (Ne.symm lK),Nu.out.2 j hj]
          by_cases oJ:j < k
          · rw [if_pos oJ,if_pos (by omega)]
          · rw [if_neg oJ,if_neg (by omega)]
       have uK:=hid (And.intro aA (⟨_,hCo,dV⟩:∃ L,CoL n (k+1) (p.zm l n) L/\jh _ (fun b=>w.heap.size<=b) R L));clear df dV aA hCo bG m6 x6 HNM Nu VQ Ji oh;unfold plV;go_wp2_with fail
       go_roundw
       case rel=>exact ⟨k+1,by omega,by go_num,uK⟩
       case measure=>simp only [intOf]; omega
     · have dh:k=n+1:=by omega
       obtain ⟨nO,L,hL,bK⟩:=HI.out;have pK:L=p.xf l:=by
        rw [NL.out];refine sT (by rw [hL.1,pw,Pl.xz]) fun j h1 h2=>?_
        rw [hL.2 j h1,if_pos (by have:=hL.1; omega),rN,po,pr (by rw [pw] at h2; exact h2)]
        rfl
       rw [pK] at bK;have bT:Hid (uai (fun b=>w.heap.size<=b) (p.xf l) w (.returned (.slice (some ⟨R,0,none⟩) (n+1) (n+1))) wr):=hid ⟨_,rfl,⟨_,_,by rw [NL.out,pw,Pl.xz],by rw [NL.out,pw,Pl.xz]; exact pj _,by omega,fun _=>⟨R,rfl,mi,bK⟩⟩,nO⟩;clear nO hL bK pK HI dh;go_wp2_with fail;go_ret;exact bT.out
theorem wam {w:World} {q:Nat->Prop} {p:Pl} {l:Int} {E D:Nat} (v:Value) (hl:1<=l) (ag:l<=4) (hp:Fit p E D) (hE:E<=170) (hD:D<=1099511627776) (h:PlV w q p v):Calls Tryz.prog 111 #[v,.int .i64 l] w (uf (fun b=>w.heap.size<=b) (yl l p) w):=by
 have HP:=hid h;have rJ:=hid hp;obtain ⟨A0,n0,c0,A,c,rfl,-⟩:=h.open_;obtain ⟨W,hW⟩:=n_m ((w.alloc (.cells #[.int .i64 p.lv,.bool p.neg,.slice A0 n0 c0,.slice A p.cs.length c] 33)).alloc (.cells #[.int .i64 0,.bool false,.slice none 0 0,.slice none 0 0] 33));have ai:Ext w W:=by rw [<- hW]; exact ((Ext.refl w).alloc _).alloc _
 have dG:W.heap.size=w.heap.size+1+1:=by rw [<- hW]; simp
 have hz:jf W (w.heap.size+1):=by
  have:=jf.new (w.alloc (.cells #[.int .i64 p.lv,.bool p.neg,.slice A0 n0 c0,.slice A p.cs.length c] 33)) 33;rw [hW] at this;simpa using this
 have bV:jb W w.heap.size p (.slice A0 n0 c0) (.slice A p.cs.length c):=by rw [<- hW]; exact (jb.new w p _ _ _).ext ((Ext.refl _).alloc _) (by simp)
 obtain ⟨b0,b1,b2,b3⟩:=bV;have iy:=hid (gak _ hl ag hp hE hD (HP.out.ext ai));have aG:=hid ai;have HZ:=hid hz;unfold plV at iy;unfold plV;obtain ⟨X,hX⟩:=n_m (yl l p);rw [hX];have oP:=hid hX;clear h hp ai hz hX;go_enter Tryz.func111,Tryz.ntmps111;go_wp2_with fail;clear hW b0 b1 b2 b3;refine iy.out.mono ?_;rintro e w1 ⟨v1,rfl,⟨A1,k1,rfl,yQ,hk2,hR⟩,x1⟩;have aS:=HZ.out.ext x1 (by omega);have bW:=x1.size
 by_cases au:p.xf l=[]
 · have hlen:(p.xf l).length=0:=by rw [au]; rfl
   have wH:yl l p=Pl.zero:=by unfold yl; rw [au]; rfl
   rw [hlen];have HF:=hid (uf.congr (oP.out.symm.trans wH) <| qf (q:=fun _=>False) (q':=fun b=>w.heap.size<=b) (aG.out.trans x1) (se _) aS (Pl.xt w1 _ none 0 (by omega)) (fun b _ hb=>hb.elim));obtain ⟨⟨z0,z1,z2,z3⟩,zf⟩:=aS;clear au hlen wH x1 iy hR;go_wp2_with fail;exact bodyPost_ret (v:=plV Pl.zero (.slice none 0 0) (.slice none 0 0)) (by simp [results,Tryz.results111,go_sem,z0,z1,z2,z3,plV,Pl.zero,Pl.lv,Pl.neg,Pl.cs]) rfl HF.out
 · obtain ⟨R,rfl,mi,ae⟩:=hR au;obtain ⟨m,hm⟩:∃ m,(p.xf l).length=m+1:=⟨(p.xf l).length - 1,by have:=rA.2 au; omega⟩;have Xm:=jw (l:=l) rJ.out.can rJ.out.ex;have lw:m < (p.xf l).length:=by omega
   obtain ⟨D0,dX,dZ,D1,lg,dY,⟨r0,r1,r2,r3⟩,uX⟩:=ae.2.2 m lw;have AP:yl l p=(p.xf l)[m]:=by
    unfold yl;rw [hm,uR,po,pr lw]; rfl
   have Qu:IntKind.i64.wrap (((m:Int)+1) - 1)=(m:Int):=by rw [rj]; omega
   have hm0:(((m:Int)+1) == 0)=false:=by simp; omega
   rw [hm];have HF:=hid (uf.congr (oP.out.symm.trans AP) <| qf (q':=fun b=>w.heap.size<=b) (aG.out.trans x1) (se _) aS uX (fun b _ hb=>⟨by omega,by omega⟩));obtain ⟨⟨z0,z1,z2,z3⟩,zf⟩:=aS;generalize (p.xf l)[m]=x at *;clear au hm AP x1 iy hR ae uX;go_wp2_with fail;exact bodyPost_ret (v:=plV x (.slice D0 dX dZ) (.slice D1 lg dY)) (by simp [results,Tryz.results111,go_sem,z0,z1,z2,z3,plV]) rfl HF.out
theorem ybs {w:World} {q:Nat->Prop} {p:Pl} {l k:Int} {E D:Nat} (v:Value) (yQ:-9223372036854775808<=k) (hk2:k<=9223372036854775807) (hl:1<=l) (ag:l<=4) (hp:Fit p E D) (hE:E<=170) (hD:D<=1099511627776) (h:PlV w q p v):Calls Tryz.prog 114 #[v,.int .i64 l,.int .i64 k] w (uf (fun b=>w.heap.size<=b) (qi l k p) w):=by
 have HP:=hid h;have rJ:=hid hp;obtain ⟨A0,n0,c0,A,c,rfl,-⟩:=h.open_;obtain ⟨W,hW⟩:=n_m ((w.alloc (.cells #[.int .i64 p.lv,.bool p.neg,.slice A0 n0 c0,.slice A p.cs.length c] 33)).alloc (.cells #[.int .i64 0,.bool false,.slice none 0 0,.slice none 0 0] 33));have ai:Ext w W:=by rw [<- hW]; exact ((Ext.refl w).alloc _).alloc _
 have dG:W.heap.size=w.heap.size+1+1:=by rw [<- hW]; simp
 have hz:jf W (w.heap.size+1):=by
  have:=jf.new (w.alloc (.cells #[.int .i64 p.lv,.bool p.neg,.slice A0 n0 c0,.slice A p.cs.length c] 33)) 33;rw [hW] at this;simpa using this
 have bV:jb W w.heap.size p (.slice A0 n0 c0) (.slice A p.cs.length c):=by rw [<- hW]; exact (jb.new w p _ _ _).ext ((Ext.refl _).alloc _) (by simp)
 obtain ⟨b0,b1,b2,b3⟩:=bV;have iy:=hid (gak _ hl ag hp hE hD (HP.out.ext ai));have aG:=hid ai;have HZ:=hid hz;unfold plV at iy;unfold plV;obtain ⟨X,hX⟩:=n_m (qi l k p);rw [hX];have oP:=hid hX;clear h hp ai hz hX;go_enter Tryz.func114,Tryz.ntmps114;go_wp2_with fail;clear hW b0 b1 b2 b3;refine iy.out.mono ?_;rintro e w1 ⟨v1,rfl,⟨A1,k1,rfl,yQ,hk2,hR⟩,x1⟩;have aS:=HZ.out.ext x1 (by omega);have bW:=x1.size
 by_cases qP:k < 0
 · have wH:qi l k p=Pl.zero:=by unfold qi; rw [if_pos qP]
   have HF:=hid (uf.congr (oP.out.symm.trans wH) <| qf (q:=fun _=>False) (q':=fun b=>w.heap.size<=b) (aG.out.trans x1) (se _) aS (Pl.xt w1 _ none 0 (by omega)) (fun b _ hb=>hb.elim));obtain ⟨⟨z0,z1,z2,z3⟩,zf⟩:=aS;clear wH x1 iy hR;go_wp2_with fail;exact bodyPost_ret (v:=plV Pl.zero (.slice none 0 0) (.slice none 0 0)) (by simp [results,paM,go_sem,z0,z1,z2,z3,plV,Pl.zero,Pl.lv,Pl.neg,Pl.cs]) rfl HF.out
 by_cases H6:((p.xf l).length:Int)<=k
 · have wH:qi l k p=Pl.zero:=by
    unfold qi;rw [if_neg qP,po,sE (by omega)]; rfl
   have Xm:=jw (l:=l) rJ.out.can rJ.out.ex;generalize (p.xf l).length=m at *;have HF:=hid (uf.congr (oP.out.symm.trans wH) <| qf (q:=fun _=>False) (q':=fun b=>w.heap.size<=b) (aG.out.trans x1) (se _) aS (Pl.xt w1 _ none 0 (by omega)) (fun b _ hb=>hb.elim));obtain ⟨⟨z0,z1,z2,z3⟩,zf⟩:=aS;clear wH x1 iy hR;go_wp2_with fail;exact bodyPost_ret (v:=plV Pl.zero (.slice none 0 0) (.slice none 0 0)) (by simp [results,paM,go_sem,z0,z1,z2,z3,plV,Pl.zero,Pl.lv,Pl.neg,Pl.cs]) rfl HF.out
 · obtain ⟨R,rfl,mi,ae⟩:=hR (by intro e; rw [e] at H6; simp at H6; omega);have Xm:=jw (l:=l) rJ.out.can rJ.out.ex;obtain ⟨m,rfl⟩:∃ m:Nat,k=m:=⟨k.toNat,by omega⟩;have lw:m < (p.xf l).length:=by omega
   obtain ⟨D0,dX,dZ,D1,lg,dY,⟨r0,r1,r2,r3⟩,uX⟩:=ae.2.2 m lw;have AP:qi l m p=(p.xf l)[m]:=by
    unfold qi;rw [if_neg qP,sX,po,pr lw]; rfl
   have HF:=hid (uf.congr (oP.out.symm.trans AP) <| qf (q':=fun b=>w.heap.size<=b) (aG.out.trans x1) (se _) aS uX (fun b _ hb=>⟨by omega,by omega⟩));obtain ⟨⟨z0,z1,z2,z3⟩,zf⟩:=aS;generalize (p.xf l)[m]=x at *;clear AP x1 iy hR ae uX;go_wp2_with fail;exact bodyPost_ret (v:=plV x (.slice D0 dX dZ) (.slice D1 lg dY)) (by simp [results,paM,go_sem,z0,z1,z2,z3,plV]) rfl HF.out
theorem kav {L:List Pl} {E D:Nat} (h:∀ c ∈ L,Fit c E D) (hl:L.length<=E+1) (hE:E<=62):vk L<=1073741823:=by
 have h1:∀ L:List Pl,(∀ c ∈ L,Fit c E D)->vk L<=L.length * (E+2) ^ 4:=fun L=>by
  induction L with
  | nil=>intro _; rw [vk]; exact pZ _
  | cons c r ih =>
    intro h;have a:=ih fun d hd=>h d (by simp [hd])
    have b:=(h c (by simp)).sz;rw [vk,pH,Re];omega
 have h2:(E+2) ^ 4<=64 ^ 4:=Pf (by omega) 4;have h3:L.length * (E+2) ^ 4<=63 * 64 ^ 4:=RB (by omega) h2;have h4:63 * 64 ^ 4<=1073741823:=by decide
 have:=h1 L h;omega
theorem jh.take {W:World} {q:Nat->Prop} {R:Nat} {l:List Pl} (h:jh W q R l) (m:Nat):jh W q R (l.take m):=by
 obtain ⟨h1,h2,h3⟩:=h;refine ⟨h1,h2,fun i hi=>?_⟩;rw [pA] at hi;rw [tD];exact h3 i (by omega)
theorem zan {w:World} {q:Nat->Prop} {L:List Pl} {l:Int} {A:Option Addr} {c:Nat} (hl:1<=l) (ag:l<=4) (hA:jd w q L A 0) (hc:L.length<=c) (dP:c<=9223372036854775807) (hsz:vk L<=1073741823) (ig:jy L<=1099511627776) (uZ:(joinL l L).sz<=1099511627776) :
 Calls Tryz.prog 13 #[.slice A L.length c,.int .i64 l] w (uf (fun b=>w.heap.size<=b) (joinL l L) w):=by
 obtain ⟨W,hW⟩:=n_m (w.alloc (.cells #[.int .i64 0,.bool false,.slice none 0 0,.slice none 0 0] 33));have ai:Ext w W:=by rw [<- hW]; exact (Ext.refl w).alloc _
 have dG:W.heap.size=w.heap.size+1:=by rw [<- hW]; simp
 have hz:jf W w.heap.size:=by rw [<- hW]; exact jf.new w _
 have hj:joinL l L=(Pl.mk l false [] L).nf:=by unfold joinL; rw [if_pos ⟨hl,ag⟩]
 have HN:=hid (ya0 (Pl.mk l false [] L) (plV (.mk l false [] L) (.slice none 0 0) (.slice A L.length c)) (PlV.mk (t:=.mk l false [] L) (jc.nil W) hc dP (hA.ext ai)) (by rw [Pl.sz]; omega) (by rw [<- hj]; exact uZ) (by rw [Pl.dm]; simp only [rK]; omega));rw [<- hj] at HN;unfold plV at HN;simp only [Pl.lv,Pl.neg] at HN;have aG:=hid ai;have HZ:=hid hz;generalize joinL l L=X at *;clear hz ai hA hj hsz ig uZ;go_enter Tryz.func13,Tryz.ntmps13;go_wp2_with fail
 try rw [hW]
 refine (yap l _).mono ?_;rintro e w0 ⟨rfl,rfl⟩;rw [show (decide (1<=l) && decide (l<=4))=true by simp [hl,ag]];go_wp2_with fail;clear hW;refine HN.out.mono ?_;rintro e w1 ⟨v1,rfl,m1,x1⟩;obtain ⟨D0,dX,dZ,D1,dY,rfl,-⟩:=id m1.open_;have aS:=HZ.out.ext x1 (by omega);have bW:=x1.size;have HF:=hid (qf (q':=fun b=>w.heap.size<=b) (aG.out.trans x1) (pj _) aS m1 (fun b _ hb=>⟨by omega,by omega⟩));obtain ⟨⟨z0,z1,z2,z3⟩,zf⟩:=aS;clear m1 x1 HN;unfold plV;go_wp2_with fail;exact bodyPost_ret (v:=plV X (.slice D0 dX dZ) (.slice D1 X.cs.length dY)) (by simp [results,Tryz.results13,go_sem,z0,z1,z2,z3,plV]) rfl HF.out
theorem uaq {L:List Pl} {E D:Nat} (h:∀ c ∈ L,Fit c E D):jy L<=D:=by
 induction L with
 | nil=>rw [jy]; exact pZ _
 | cons c r ih =>
   have a:=ih fun d hd=>h d (by simp [hd])
   have b:=(h c (by simp)).dm;rw [jy];omega
theorem uc3 {w:World} {q:Nat->Prop} {p:Pl} {l:Int} {E D:Nat} (v:Value) (hl:1<=l) (ag:l<=4) (hp:Fit p E D) (O1:E<=62) (hD:D<=1099511627776) (h:PlV w q p v):Calls Tryz.prog 110 #[v,.int .i64 l] w (uf (fun b=>w.heap.size<=b) (wag l p) w):=by
 have HP:=hid h;have rJ:=hid hp;obtain ⟨A0,n0,c0,A,c,rfl,-⟩:=h.open_;obtain ⟨W,hW⟩:=n_m ((w.alloc (.cells #[.int .i64 p.lv,.bool p.neg,.slice A0 n0 c0,.slice A p.cs.length c] 33)).alloc (.cells #[.int .i64 0,.bool false,.slice none 0 0,.slice none 0 0] 33));have ai:Ext w W:=by rw [<- hW]; exact ((Ext.refl w).alloc _).alloc _
 have dG:W.heap.size=w.heap.size+1+1:=by rw [<- hW]; simp
 have hz:jf W (w.heap.size+1):=by
  have:=jf.new (w.alloc (.cells #[.int .i64 p.lv,.bool p.neg,.slice A0 n0 c0,.slice A p.cs.length c] 33)) 33;rw [hW] at this;simpa using this
 have bV:jb W w.heap.size p (.slice A0 n0 c0) (.slice A p.cs.length c):=by rw [<- hW]; exact (jb.new w p _ _ _).ext ((Ext.refl _).alloc _) (by simp)
 obtain ⟨b0,b1,b2,b3⟩:=bV;have iy:=hid (gak _ hl ag hp (by omega) hD (HP.out.ext ai));have aG:=hid ai;have HZ:=hid hz;unfold plV at iy;unfold plV;obtain ⟨X,hX⟩:=n_m (wag l p);rw [hX];have oP:=hid hX;clear h hp ai hz hX;go_enter Tryz.func110,Tryz.ntmps110;go_wp2_with fail;clear hW b0 b1 b2 b3;refine iy.out.mono ?_;rintro e w1 ⟨v1,rfl,⟨A1,k1,rfl,yQ,hk2,hR⟩,x1⟩;have aS:=HZ.out.ext x1 (by omega);have bW:=x1.size
 by_cases au:p.xf l=[]
 · have hlen:(p.xf l).length=0:=by rw [au]; rfl
   have wH:wag l p=Pl.zero:=by
    unfold wag;rw [au];exact Pl.qv (zad _ _) Pl.qT fun ρ=>by rw [List.dropLast_nil,uz hl ag,Pl.qt]; rfl
   rw [hlen];have HF:=hid (uf.congr (oP.out.symm.trans wH) <| qf (q:=fun _=>False) (q':=fun b=>w.heap.size<=b) (aG.out.trans x1) (se _) aS (Pl.xt w1 _ none 0 (by omega)) (fun b _ hb=>hb.elim));obtain ⟨⟨z0,z1,z2,z3⟩,zf⟩:=aS;clear au hlen wH x1 iy hR;go_wp2_with fail;exact bodyPost_ret (v:=plV Pl.zero (.slice none 0 0) (.slice none 0 0)) (by simp [results,Tryz.results110,go_sem,z0,z1,z2,z3,plV,Pl.zero,Pl.lv,Pl.neg,Pl.cs]) rfl HF.out
 · obtain ⟨R,rfl,mi,ae⟩:=hR au;obtain ⟨m,hm⟩:∃ m,(p.xf l).length=m+1:=⟨(p.xf l).length - 1,by have:=rA.2 au; omega⟩;have Xm:=jw (l:=l) rJ.out.can rJ.out.ex;have qC:(p.xf l).dropLast=(p.xf l).take m:=by rw [List.dropLast_eq_take,hm,uR]
   have jX:∀ c ∈ (p.xf l).take m,Fit c E D:=fun c hc=>Pl.zP rJ.out c (tl hc)
   have GX:((p.xf l).take m).length=m:=by rw [pA]; omega
   have HJ:=hid (zan (l:=l) (c:=k1) hl ag ((ae.take m).fin (by omega)) (by omega) hk2 (kav jX (by omega) O1) (by have:=uaq jX; omega) (by
    have:=xbg (l:=l) rJ.out (by have:B32=4294967296:=rfl; omega);unfold wag at this;rw [qC] at this
    exact this.copy_ (by omega)))
   rw [GX] at HJ;have Jj:Hid (X=joinL l ((p.xf l).take m)):=hid (by rw [<- qC]; exact oP.out.symm);rw [<- Jj.out] at HJ;have Qu:IntKind.i64.wrap (((m:Int)+1) - 1)=(m:Int):=by rw [rj]; omega
   have hm0:(((m:Int)+1) == 0)=false:=by simp; omega
   have Ox:(m:Int)<=(k1:Int):=by omega
   have X1:=hid (aG.out.trans x1);have eY:=hid aS;have rV:w.heap.size+1 < w1.heap.size:=by omega
   rw [hm];clear au hm qC jX GX ae hR iy x1 aS;go_wp2_with fail;refine HJ.out.mono ?_;rintro e w2 ⟨v2,rfl,m2,x2⟩;obtain ⟨D0,dX,dZ,D1,dY,rfl,-⟩:=id m2.open_;have aS:=eY.out.ext x2 rV;have HF:=hid (qf (q':=fun b=>w.heap.size<=b) (X1.out.trans x2) (se _) aS m2 (fun b _ hb=>⟨by omega,by omega⟩));obtain ⟨⟨z0,z1,z2,z3⟩,zf⟩:=aS;clear m2 x2 HJ;unfold plV;go_wp2_with fail;exact bodyPost_ret (v:=plV X (.slice D0 dX dZ) (.slice D1 X.cs.length dY)) (by simp [results,Tryz.results110,go_sem,z0,z1,z2,z3,plV]) rfl HF.out
end Go.Proofs.YtcepajijiabkmaaGreat
