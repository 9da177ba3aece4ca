/- Layer 22: recpoly.mul where the levels differ, or both are 0. -/
import Derived.Test.YtcepajijiabkmaaGreatMp19
set_option linter.unusedSimpArgs false
set_option linter.unusedVariables false

set_option maxRecDepth 100000
set_option maxHeartbeats 8000000
namespace Go.Proofs.YtcepajijiabkmaaGreat
open Lib (hid)
open Go.RowKit
theorem jb.set {W:World} {g:Nat} {p q:Pl} {s A s' A':Value} (h:jb W g p s A) :
 jb ((((W.setCell ⟨g,0,none⟩ (.int .i64 q.lv)).setCell ⟨g,1,none⟩ (.bool q.neg)).setCell ⟨g,2,none⟩ s').setCell ⟨g,3,none⟩ A') g q s' A':=by
 obtain ⟨h0,h1,h2,h3⟩:=h;have e:∀ (W:World) (i j:Nat) (v:Value),i ≠ j->(W.setCell ⟨g,j,none⟩ v).cell? ⟨g,i,none⟩=W.cell? ⟨g,i,none⟩:=fun W i j v oI=>ph _ _ _ _ (by intro e; injection e; omega)
 refine ⟨?_,?_,?_,?_⟩
 · rw [e _ 0 3 _ (by omega),e _ 0 2 _ (by omega),e _ 0 1 _ (by omega)];exact pN _ _ _ h0
 · rw [e _ 1 3 _ (by omega),e _ 1 2 _ (by omega)];exact pN _ _ _ ((e _ 1 0 _ (by omega)).trans h1)
 · rw [e _ 2 3 _ (by omega)];exact pN _ _ _ ((e _ 2 1 _ (by omega)).trans ((e _ 2 0 _ (by omega)).trans h2))
 · exact pN _ _ _ ((e _ 3 2 _ (by omega)).trans ((e _ 3 1 _ (by omega)).trans ((e _ 3 0 _ (by omega)).trans h3)))
theorem gab (W:World) (g:Nat) (a b c d:Value) (k:Nat) (h:k ≠ g):((((W.setCell ⟨g,0,none⟩ a).setCell ⟨g,1,none⟩ b).setCell ⟨g,2,none⟩ c).setCell ⟨g,3,none⟩ d).heap[k]?=W.heap[k]?:=by
 rw [Below.heap_setCell _ _ _ k h,Below.heap_setCell _ _ _ k h,Below.heap_setCell _ _ _ k h,Below.heap_setCell _ _ _ k h]
theorem jb.qbQ {W:World} {g:Nat} {p:Pl} {A0 A1:Option Addr} {n0 c0 n1 c1:Nat} (h:jb W g p (.slice A0 n0 c0) (.slice A1 n1 c1)) (x y z u:Value) {v:Value} {ds:List Nat} (hv:jc W v ds) :
 jc ((((W.setCell ⟨g,0,none⟩ x).setCell ⟨g,1,none⟩ y).setCell ⟨g,2,none⟩ z).setCell ⟨g,3,none⟩ u) v ds:=by
 obtain ⟨h0,h1,h2,h3⟩:=h;refine (((hv.box h0 rfl _).box (u:=.bool p.neg) ?_ rfl _).box (u:=.slice A0 n0 c0) ?_ rfl _).box (u:=.slice A1 n1 c1) ?_ rfl _
 · rw [ph _ _ _ _ (by simp)]; exact h1
 · rw [ph _ _ _ _ (by simp),ph _ _ _ _ (by simp)]; exact h2
 · rw [ph _ _ _ _ (by simp),ph _ _ _ _ (by simp),ph _ _ _ _ (by simp)]; exact h3
theorem jb.keep {W:World} {g:Nat} {p:Pl} {A0 A1:Option Addr} {n0 c0 n1 c1:Nat} (h:jb W g p (.slice A0 n0 c0) (.slice A1 n1 c1)) (x y z u:Value) {q q':Nat->Prop} {t:Pl} {v:Value} (ht:PlV W q t v) (hq:∀ b,b < W.heap.size->q b->b ≠ g/\q' b) :
 PlV ((((W.setCell ⟨g,0,none⟩ x).setCell ⟨g,1,none⟩ y).setCell ⟨g,2,none⟩ z).setCell ⟨g,3,none⟩ u) q' t v:=
 PlV.zd (by simp [World.setCell]) (fun _ _ hv=>h.qbQ x y z u hv) (fun b af hb=>⟨(hq b af hb).2,gab _ _ _ _ _ _ _ (hq b af hb).1⟩) ht
structure war (w : World) (a b : Pl) (sa Aa sb Ab : Value) (wc : World) : Prop where
 ext:Ext w wc
 size:wc.heap.size=w.heap.size+1+1+1
 box:jb wc w.heap.size a sa Aa
 box':jb wc (w.heap.size+1) b sb Ab
 zero:jf wc (w.heap.size+1+1)
theorem war.swap {w W:World} {a b:Pl} {sa Aa sb Ab:Value} (h:war w a b sa Aa sb Ab W) :
 war w b a sb Ab sa Aa ((((((((W.setCell ⟨w.heap.size,0,none⟩ (.int .i64 b.lv)).setCell ⟨w.heap.size,1,none⟩ (.bool b.neg)).setCell ⟨w.heap.size,2,none⟩ sb).setCell ⟨w.heap.size,3,none⟩ Ab).setCell ⟨w.heap.size+1,0,none⟩ (.int .i64 a.lv)).setCell ⟨w.heap.size+1,1,none⟩ (.bool a.neg)).setCell ⟨w.heap.size+1,2,none⟩ sa).setCell ⟨w.heap.size+1,3,none⟩ Aa):=by
 obtain ⟨h1,h2,h3,h4,h5⟩:=h;obtain ⟨W1,aV⟩:=n_m (((((W.setCell ⟨w.heap.size,0,none⟩ (.int .i64 b.lv)).setCell ⟨w.heap.size,1,none⟩ (.bool b.neg)).setCell ⟨w.heap.size,2,none⟩ sb).setCell ⟨w.heap.size,3,none⟩ Ab));rw [aV];have k1:Ext w W1:=by
  rw [<- aV];exact (((h1.setCell (pj _) _).setCell (pj _) _).setCell (pj _) _).setCell (pj _) _
 have kb:jb W1 w.heap.size b sb Ab:=by rw [<- aV]; exact h3.set
 have kh:∀ k,k ≠ w.heap.size->W1.heap[k]?=W.heap[k]?:=fun k hk=>by rw [<- aV]; exact gab _ _ _ _ _ _ k hk
 have kf:∀ a,W1.frozen? a=W.frozen? a:=fun a=>by rw [<- aV]; simp only [rm]
 have ks:W1.heap.size=W.heap.size:=by rw [<- aV]; simp [World.setCell]
 have kb':jb W1 (w.heap.size+1) b sb Ab:=h4.xl (kh _ (by omega));refine ⟨(((k1.setCell (by show w.heap.size<=w.heap.size+1; omega) _).setCell (by show w.heap.size<=w.heap.size+1; omega) _).setCell (by show w.heap.size<=w.heap.size+1; omega) _).setCell (by show w.heap.size<=w.heap.size+1; omega) _,by simp [World.setCell]; omega,kb.xl (gab _ _ _ _ _ _ _ (by omega)),kb'.set,?_⟩;have hh:((((W1.setCell ⟨w.heap.size+1,0,none⟩ (.int .i64 a.lv)).setCell ⟨w.heap.size+1,1,none⟩ (.bool a.neg)).setCell ⟨w.heap.size+1,2,none⟩ sa).setCell ⟨w.heap.size+1,3,none⟩ Aa).heap[w.heap.size+1+1]?=W.heap[w.heap.size+1+1]?:=(gab _ _ _ _ _ _ _ (by omega)).trans (kh _ (by omega));obtain ⟨⟨z0,z1,z2,z3⟩,zf⟩:=h5;refine ⟨⟨(pB (a:=⟨w.heap.size+1+1,0,none⟩) hh).trans z0,(pB (a:=⟨w.heap.size+1+1,1,none⟩) hh).trans z1,(pB (a:=⟨w.heap.size+1+1,2,none⟩) hh).trans z2,(pB (a:=⟨w.heap.size+1+1,3,none⟩) hh).trans z3⟩,fun i=>?_⟩;simp only [rm];rw [kf];exact zf i
structure qa8 (w0 : World) (E L : Nat) (a b : Pl) (va vb : Value) : Prop where
 ca:a.Can
 cb:b.Can
 len:a.cs.length<=E
 dig:a.ds.length+b.ds.length<=L
 pa:PlV w0 (fun _=>True) a va
 pb:PlV w0 (fun _=>True) b vb
 ord:b.lv<=a.lv
 ne:a.lv=b.lv->a.lv=0
 ih:∀ k (hk:k < a.cs.length) x,PlV w0 (fun _=>True) a.cs[k] x->∀ W',Ext w0 W'->Calls Tryz.prog 40 #[x,vb] W' (uf (fun i=>W'.heap.size<=i) (a.cs[k].mul b) W')
theorem wb9 {w0 w : World} {E D F G : Nat} (p q : Pl) (v u : Value) (hp : Fit p E D) (hq : Fit q F G) (hE : E <= 1000000) (hF : F <= 1000000) (hD : D + G <= 35184372088000)
 (h:PlV w0 (fun _=>True) p v) (k:PlV w0 (fun _=>True) q u) (hx:Ext w0 w) (ax:p.lv=q.lv->p.lv=0)
 (ihp:∀ a ∈ p.cs,∀ x,PlV w0 (fun _=>True) a x->∀ W',Ext w0 W'->Calls Tryz.prog 40 #[x,u] W' (uf (fun i=>W'.heap.size<=i) (a.mul q) W'))
 (ihq:∀ a ∈ q.cs,∀ x,PlV w0 (fun _=>True) a x->∀ W',Ext w0 W'->Calls Tryz.prog 40 #[x,v] W' (uf (fun i=>W'.heap.size<=i) (a.mul p) W')) :
 Calls Tryz.prog 40 #[v,u] w (uf (fun i=>w.heap.size<=i) (p.mul q) w):=by
 have hlen:∀ (r:Pl) (E D:Nat),Fit r E D->r.cs.length<=E+1:=fun r E D hr=>by
  obtain ⟨l,n,d,cs⟩:=r
  by_cases hl:0 < l
  · exact hr.len hl
  · have:=hr.can;unfold Pl.Can at this;rcases this with h | h
    · simp [Pl.cs,h.2.1]
    · omega
 have eH:=py p.vd hp.dm;have uF:=py q.vd hq.dm;have HH:=hid h;have HK:=hid k;obtain ⟨A0,n0,c0,A,c,rfl,-,-,-,-⟩:=h.open_;obtain ⟨B0,m0,d0,B,d,rfl,-,-,-,-⟩:=k.open_;have HPQ:Hid (q.lv<=p.lv->qa8 w0 1000001 35184372088000 p q (plV p (.slice A0 n0 c0) (.slice A p.cs.length c)) (plV q (.slice B0 m0 d0) (.slice B q.cs.length d))):=by
  have:q.lv<=p.lv->qa8 w0 1000001 35184372088000 p q (plV p (.slice A0 n0 c0) (.slice A p.cs.length c)) (plV q (.slice B0 m0 d0) (.slice B q.cs.length d)):=fun hl =>
   ⟨hp.can,hq.can,by have:=hlen p E D hp; omega,by omega,HH.out,HK.out,hl,ax,fun k hk x rQ=>ihp _ (pt hk) x rQ⟩
  exact this
 have HQP:Hid (p.lv < q.lv->qa8 w0 1000001 35184372088000 q p (plV q (.slice B0 m0 d0) (.slice B q.cs.length d)) (plV p (.slice A0 n0 c0) (.slice A p.cs.length c))):=by
  have:p.lv < q.lv->qa8 w0 1000001 35184372088000 q p (plV q (.slice B0 m0 d0) (.slice B q.cs.length d)) (plV p (.slice A0 n0 c0) (.slice A p.cs.length c)):=fun hl =>
   ⟨hq.can,hp.can,by have:=hlen q F G hq; omega,by omega,HK.out,HH.out,by omega,fun e=>by omega,fun k hk x rQ=>ihq _ (pt hk) x rQ⟩
  exact this
 have DR:=hid (Pl.mul_comm p q);have ay:=hid hx;clear h k ihp ihq ax hlen eH uF hp hq hE hF hD hx HH HK;obtain ⟨W,hW⟩:=n_m (((w.alloc (.cells #[.int .i64 p.lv,.bool p.neg,.slice A0 n0 c0,.slice A p.cs.length c] 33)).alloc (.cells #[.int .i64 q.lv,.bool q.neg,.slice B0 m0 d0,.slice B q.cs.length d] 33)).alloc (.cells #[.int .i64 0,.bool false,.slice none 0 0,.slice none 0 0] 33));have hcut:war w p q (.slice A0 n0 c0) (.slice A p.cs.length c) (.slice B0 m0 d0) (.slice B q.cs.length d) W:=by
  rw [<- hW];refine ⟨(((Ext.refl w).alloc _).alloc _).alloc _,by simp,(jb.new w p _ _ _).ext (((Ext.refl _).alloc _).alloc _) (by simp),?_,?_⟩
  · have h1:=jb.new (w.alloc (.cells #[.int .i64 p.lv,.bool p.neg,.slice A0 n0 c0,.slice A p.cs.length c] 33)) q (.slice B0 m0 d0) (.slice B q.cs.length d) 33;have h2:=h1.ext ((Ext.refl _).alloc (.cells #[.int .i64 0,.bool false,.slice none 0 0,.slice none 0 0] 33)) (by simp);simpa using h2
  · have h1:=jf.new ((w.alloc (.cells #[.int .i64 p.lv,.bool p.neg,.slice A0 n0 c0,.slice A p.cs.length c] 33)).alloc (.cells #[.int .i64 q.lv,.bool q.neg,.slice B0 m0 d0,.slice B q.cs.length d] 33)) 33;simpa using h1
 have kE:∀ i,W.frozen? ⟨w.heap.size,i,none⟩=false:=fun i=>by rw [<- hW]; simp [go_sem]
 have lY:∀ i,W.frozen? ⟨w.heap.size+1,i,none⟩=false:=fun i=>by rw [<- hW]; simp [go_sem]
 have NC:=hid hcut;obtain ⟨b0,b1,b2,b3⟩:=hcut.box;obtain ⟨e0,e1,e2,e3⟩:=hcut.box';have dG:=hcut.size;clear hcut;unfold plV;go_enter Tryz.func40,Tryz.ntmps40
 go_upto_if 21 with fail
 go_cut [] from 22 to 23 (fun wc=>Hid ((p.lv < q.lv/\war w q p (.slice B0 m0 d0) (.slice B q.cs.length d) (.slice A0 n0 c0) (.slice A p.cs.length c) wc)\/(q.lv<=p.lv/\war w p q (.slice A0 n0 c0) (.slice A p.cs.length c) (.slice B0 m0 d0) (.slice B q.cs.length d) wc)))
 case first =>
  by_cases af:p.lv < q.lv
  · have HF:=hid NC.out.swap;have HL:=hid af;clear hW;go_wp2_with fail
    go_meet
    exact hid (Or.inl ⟨HL.out,HF.out⟩)
  · have hle:q.lv<=p.lv:=by omega
    have HL:=hid hle;clear hW;go_wp2_with fail
    go_meet
    exact hid (Or.inr ⟨HL.out,NC.out⟩)
 case rest =>
 obtain ⟨a,b,sa1,WP,WO,A',ca,sb1,Qb,Qa,B',cb,hh,hm,hc⟩:∃ (a b:Pl) (sa1:Option Addr) (WP WO:Nat) (A':Option Addr) (ca:Nat) (sb1:Option Addr) (Qb Qa:Nat) (B':Option Addr) (cb:Nat),qa8 w0 1000001 35184372088000 a b (plV a (.slice sa1 WP WO) (.slice A' a.cs.length ca)) (plV b (.slice sb1 Qb Qa) (.slice B' b.cs.length cb))/\p.mul q=a.mul b/\war w a b (.slice sa1 WP WO) (.slice A' a.cs.length ca) (.slice sb1 Qb Qa) (.slice B' b.cs.length cb) wc:=by
  rcases hcut.out with ⟨h1,h2⟩ | ⟨h1,h2⟩
  · exact ⟨q,p,_,_,_,_,_,_,_,_,_,_,HQP.out h1,DR.out,h2⟩
  · exact ⟨p,q,_,_,_,_,_,_,_,_,_,_,HPQ.out h1,rfl,h2⟩
 clear hcut HPQ HQP DR NC b0 b1 b2 b3 e0 e1 e2 e3 kE lY hW dG;have HM:=hid hm;clear hm;have HC:=hid hc;have HH:=hid hh;obtain ⟨b0,b1,b2,b3⟩:=hc.box;obtain ⟨e0,e1,e2,e3⟩:=hc.box';have fB:=hc.size;have IP:=hid (jae a _ (hh.pa.ext (ay.out.trans hc.ext)));clear hc hh;unfold plV at IP;go_wp2_with fail;clear b0 b1 b2 b3 e0 e1 e2 e3;refine IP.out.mono ?_;rintro e w1 ⟨rfl,x1⟩;have FZ:Hid (Calls Tryz.prog 49 #[plV b (.slice sb1 Qb Qa) (.slice B' b.cs.length cb)] w1 fun e w'=>e=.returned (.bool b.zp)/\Ext w1 w'):=jae b _ (HH.out.pb.ext ((ay.out.trans HC.out.ext).trans x1));unfold plV at FZ;have bF:=HC.out.box.ext x1 (by omega);have dE:=HC.out.box'.ext x1 (by omega);have iI:=HC.out.zero.ext x1 (by omega);have bW:=x1.size;have dH:=hid bF;have yB:=hid dE;have eX:=hid iI;have X1:=hid (HC.out.ext.trans x1);obtain ⟨b0,b1,b2,b3⟩:=bF;obtain ⟨e0,e1,e2,e3⟩:=dE;obtain ⟨⟨z0,z1,z2,z3⟩,zf⟩:=iI;clear x1 IP
 by_cases OL:a.zp=true
 · rw [OL];have HF:Hid (uf (fun i=>w.heap.size<=i) (p.mul q) w (.returned (plV Pl.zero (.slice none 0 0) (.slice none 0 0))) ((((w1.setCell ⟨w.heap.size+1+1,0,none⟩ (.int .i64 Pl.zero.lv)).setCell ⟨w.heap.size+1+1,1,none⟩ (.bool Pl.zero.neg)).setCell ⟨w.heap.size+1+1,2,none⟩ (.slice none 0 0)).setCell ⟨w.heap.size+1+1,3,none⟩ (.slice none 0 0))):=by
    have e:p.mul q=Pl.zero:=by rw [HM.out,(Pl.xj HH.out.ca).1 OL,Pl.vQ]
    rw [e];exact qf (p:=Pl.zero) (q:=fun _=>False) X1.out (by omega) eX.out (Pl.xt _ _ none 0 (by omega)) (fun b _ h=>h.elim)
   simp only [Pl.zero,Pl.lv,Pl.neg] at HF;clear OL FZ;go_wp2_with fail;exact bodyPost_ret (v:=plV Pl.zero (.slice none 0 0) (.slice none 0 0)) (by simp [results,Tryz.results40,go_sem,z0,z1,z2,z3,plV,Pl.zero,Pl.lv,Pl.neg]) rfl HF.out
 have Uu:a.zp=false:=by simpa using OL
 rw [Uu];have HA0:=hid OL;clear OL Uu;go_wp2_with fail;clear b0 b1 b2 b3 e0 e1 e2 e3 z0 z1 z2 z3 zf;refine FZ.out.mono ?_;rintro e w2 ⟨rfl,x2⟩;have bF:=dH.out.ext x2 (by omega);have dE:=yB.out.ext x2 (by omega);have iI:=eX.out.ext x2 (by omega);have jG:=x2.size;have PX:=hid bF;have PU:=hid dE;have nY:=hid iI;have X2:=hid (X1.out.trans x2);obtain ⟨b0,b1,b2,b3⟩:=bF;obtain ⟨e0,e1,e2,e3⟩:=dE;obtain ⟨⟨z0,z1,z2,z3⟩,zf⟩:=iI;clear x2 FZ dH yB eX X1
 by_cases aX:b.zp=true
 · rw [aX];have HF:Hid (uf (fun i=>w.heap.size<=i) (p.mul q) w (.returned (plV Pl.zero (.slice none 0 0) (.slice none 0 0))) ((((w2.setCell ⟨w.heap.size+1+1,0,none⟩ (.int .i64 Pl.zero.lv)).setCell ⟨w.heap.size+1+1,1,none⟩ (.bool Pl.zero.neg)).setCell ⟨w.heap.size+1+1,2,none⟩ (.slice none 0 0)).setCell ⟨w.heap.size+1+1,3,none⟩ (.slice none 0 0))):=by
    have e:p.mul q=Pl.zero:=by rw [HM.out,(Pl.xj HH.out.cb).1 aX,Pl.Kg]
    rw [e];exact qf (p:=Pl.zero) (q:=fun _=>False) X2.out (by omega) nY.out (Pl.xt _ _ none 0 (by omega)) (fun b _ h=>h.elim)
   simp only [Pl.zero,Pl.lv,Pl.neg] at HF;clear aX;go_wp2_with fail;exact bodyPost_ret (v:=plV Pl.zero (.slice none 0 0) (.slice none 0 0)) (by simp [results,Tryz.results40,go_sem,z0,z1,z2,z3,plV,Pl.zero,Pl.lv,Pl.neg]) rfl HF.out
 have Ul:b.zp=false:=by simpa using aX
 rw [Ul];have dJ:=hid aX;clear aX Ul;have Ur:=HH.out.ca.qq;have Uf:=HH.out.cb.qq;have Q4:=HH.out.ord;have ax:=HH.out.ne
 by_cases hl:a.lv=0
 · have xA:b.lv=0:=by omega
   have WH:=hid (gaf HH.out.ca hl);have HBL:=hid (gaf HH.out.cb xA);have pq:=HH.out.pa.ext (ay.out.trans X2.out);have uZ:=HH.out.pb.ext (ay.out.trans X2.out);have hia:jm w2 (.agg #[.bool a.neg,.slice sa1 WP WO]) a.z a.ds.length:=by
    obtain ⟨A1,n1,c1,A2,c2,e,hn,-⟩:=pq.open_;unfold plV at e;simp only [tm,tD,so,and_true,true_and] at e;rw [e.1];exact ⟨_,_,_,rfl,hn,rfl,pj _⟩
   have wW:jm w2 (.agg #[.bool b.neg,.slice sb1 Qb Qa]) b.z b.ds.length:=by
    obtain ⟨A1,n1,c1,A2,c2,e,hn,-⟩:=uZ.open_;unfold plV at e;simp only [tm,tD,so,and_true,true_and] at e;rw [e.1];exact ⟨_,_,_,rfl,hn,rfl,pj _⟩
   have YA:=hid (yc7 _ _ a.z b.z _ _ w2 hia wW HH.out.dig);have q1:(a.lv == 0)=true:=by simpa using hl
   have hlz:a.lv=0:=hl;have VS:=hid hl;clear pq uZ hia wW xA hl Ur Uf Q4 ax hlz;go_wp2_with fail;clear b0 b1 b2 b3 e0 e1 e2 e3 z0 z1 z2 z3 zf;refine YA.out.mono ?_;rintro e w3 ⟨x,rfl,⟨v1,rfl,bD⟩,x3⟩;obtain ⟨A1,d1,rfl,-⟩:=id bD;have Qj:=nY.out.ext x3 (by omega);have HF:Hid (uf (fun i=>w.heap.size<=i) (p.mul q) w (.returned (plV (Pl.const (a.z * b.z)) (.slice A1 (dg (a.z * b.z).natAbs).length d1) (.slice none 0 0))) ((((w3.setCell ⟨w.heap.size+1+1,0,none⟩ (.int .i64 0)).setCell ⟨w.heap.size+1+1,1,none⟩ (.bool (decide (a.z * b.z < 0)))).setCell ⟨w.heap.size+1+1,2,none⟩ (.slice A1 (dg (a.z * b.z).natAbs).length d1)).setCell ⟨w.heap.size+1+1,3,none⟩ (.slice none 0 0))):=by
    have e:p.mul q=Pl.const (a.z * b.z):=by rw [HM.out,<- Pl.Q6,<- WH.out,<- HBL.out]
    rw [e];exact qf (p:=Pl.const (a.z * b.z)) (q:=fun _=>False) (X2.out.trans x3) (by omega) Qj (PlV.mk (t:=Pl.const (a.z * b.z)) bD (pj _) (by simp [Pl.cs,Pl.const]) (by unfold Pl.const Pl.cs jd; trivial)) (fun b _ h=>h.elim)
   obtain ⟨⟨z0,z1,z2,z3⟩,zf⟩:=Qj;clear x3 YA bD;generalize a.z * b.z=z at *;go_wp2_with fail;exact bodyPost_ret (v:=plV (Pl.const z) (.slice A1 (dg z.natAbs).length d1) (.slice none 0 0)) (by simp [results,Tryz.results40,go_sem,z0,z1,z2,z3,plV,Pl.const,Pl.lv,Pl.neg]) rfl HF.out
 · have af:b.lv < a.lv:=by
    have:a.lv ≠ b.lv:=fun e=>hl (ax e)
    omega
   have HUP:=hid (Pl.qaM HH.out.ca HH.out.cb af (fun e=>dJ.out ((Pl.xj HH.out.cb).2 e)));have q1:(a.lv == 0)=false:=by simpa using hl
   have hlen:=HH.out.len;obtain ⟨A1,n1,c1,A2,c2,e,-,dP,dC,aK⟩:=HH.out.pa.open_;unfold plV at e;simp only [tm,tD,so,and_true,true_and,Value.slice.injEq] at e;obtain ⟨-,rfl,rfl⟩:=e;have lQ:=hid aK;obtain ⟨V,dw,eQ,xG,ae⟩:=uw (a.cs.length:Int) (by omega) (by omega) w2;rw [sT] at dw ae;have aW:=hid (ae (fun i=>w2.heap.size<=i));have lL:=hid eQ;obtain ⟨f0,f1,f2,f3⟩:=PX.out.ext eQ (by omega);clear aK ae eQ hl Ur Uf Q4 ax HA0;go_wp2_with fail;clear dw b0 b1 b2 b3 e0 e1 e2 e3 f0 f1 f2 f3 z0 z1 z2 z3 zf
   go_loopw [55] (fun iv wr=>∃ k:Nat,k<=a.cs.length/\iv=.int .i64 k/\Hid ((∃ L:List Pl,L.length=a.cs.length/\L.take k=(a.cs.map fun c=>c.mul b).take k/\xh wr (fun i=>w2.heap.size<=i) w2.heap.size L)/\Ext w2 wr)) (fun iv _=>a.cs.length - (intOf iv).toNat)
   case atStart=>exact ⟨0,pS _,rfl,⟨⟨_,p8,by simp,aW.out⟩,lL.out⟩⟩
   case round =>
    obtain ⟨k,hk,rfl,⟨⟨L,pI,tC,ae⟩,hx⟩⟩:=hrel;have HX:=hid hx;have aB:=hid ae;have kJ:=hid tC;have oz:=hx.size;obtain ⟨b0,b1,b2,b3⟩:=PX.out.ext hx (by omega);have gV:w2.heap.size < wr.heap.size:=ae.1;clear hx ae tC lL aW
    by_cases af:k < a.cs.length
    · obtain ⟨ad,C0,j0,g0,C1,j1,g1,rfl,ah,bP,bC⟩:=jd.ym lQ.out k af;have bQ:Ext w0 wr:=(ay.out.trans X2.out).trans HX.out;obtain ⟨a0,a1,a2,a3⟩:=bP.ext bQ (by rw [ja]; exact ah);have Js:=hid (fun W' (qI:Ext wr W')=>HH.out.ih k af _ bC W' (bQ.trans qI));have dU:Hid ((L.set k (a.cs[k].mul b)).take (k+1)=(a.cs.map fun c=>c.mul b).take (k+1)):=by
       have h1:=zae L (a.cs.map fun c=>c.mul b) k kJ.out (by omega) (by rw [px]; exact af);rw [rK] at h1;exact h1
      unfold plV at Js;obtain ⟨U,hU⟩:=n_m (wr.alloc (.cells #[.int .i64 a.cs[k].lv,.bool a.cs[k].neg,.slice C0 j0 g0,.slice C1 j1 g1] 33));have kZ:Ext wr U:=by rw [<- hU]; exact (Ext.refl _).alloc _
      have XG:U.heap.size=wr.heap.size+1:=by rw [<- hU]; simp
      obtain ⟨y0,y1,y2,y3⟩:jb U wr.heap.size a.cs[k] (.slice C0 j0 g0) (.slice C1 j1 g1):=by rw [<- hU]; exact jb.new wr a.cs[k] _ _ _
      obtain ⟨e0,e1,e2,e3⟩:=PU.out.ext (HX.out.trans kZ) (by omega);have ML:=hid kZ;generalize mO:a.cs[k].mul b=res at *;generalize a.cs[k]=ck at *;clear bP bC ah bQ kJ mO kZ;go_wp2_with fail;clear hU y0 y1 y2 y3;refine (Js.out _ ML.out).mono ?_;rintro e w3 ⟨v3,rfl,p3,x3⟩;have Y6:Ext wr w3:=ML.out.trans x3;obtain ⟨C0,j0,f0,C1,f1,rfl,-⟩:=id p3.open_;have yM:=aB.out.ext Y6;obtain ⟨D0,n2,g0,D1,n3,g1,⟨r0,r1,r2,r3⟩,-⟩:=yM.2.2 k (by omega);have bG:=yM.2.1;have dV:=(yM.xD k (by omega) res (p3.mono fun i hi=>by
       have jI:wr.heap.size+1<=i:=by rw [<- XG]; exact hi
       exact ⟨by omega,by omega⟩)).1
      simp only at r0 r1 r2 r3;have dS:=hid dV;have X3:=hid (HX.out.trans Y6);unfold plV;clear yM dV p3 x3 Y6 Js aB a0 a1 a2 a3 b0 b1 b2 b3 e0 e1 e2 e3 ML XG;go_wp2_with fail
      go_roundw
      case rel=>exact ⟨k+1,by omega,by go_num,⟨_,by rw [pH]; exact pI,dU.out,dS.out⟩,(((X3.out.setCell (pj _) _).setCell (pj _) _).setCell (pj _) _).setCell (pj _) _⟩
      case measure=>simp [intOf]; omega
    · have df:k=a.cs.length:=by omega
      have pJ:L=a.cs.map fun c=>c.mul b:=by
       have h:=kJ.out;rw [df,show a.cs.length=(a.cs.map fun c=>c.mul b).length by rw [px],pP,px,<- pI,pP] at h;exact h
      have Qj:=nY.out.ext HX.out (by omega);have aS:=aB.out.fin (pj _);rw [pJ] at aS;have HF:Hid (uf (fun i=>w.heap.size<=i) (p.mul q) w (.returned (plV (.mk a.lv false [] (a.cs.map fun c=>c.mul b)) (.slice none 0 0) (.slice (some ⟨w2.heap.size,0,none⟩) a.cs.length a.cs.length))) ((((wr.setCell ⟨w.heap.size+1+1,0,none⟩ (.int .i64 a.lv)).setCell ⟨w.heap.size+1+1,1,none⟩ (.bool false)).setCell ⟨w.heap.size+1+1,2,none⟩ (.slice none 0 0)).setCell ⟨w.heap.size+1+1,3,none⟩ (.slice (some ⟨w2.heap.size,0,none⟩) a.cs.length a.cs.length))):=by
       rw [HM.out,HUP.out];have h1:=PlV.mk (t:=.mk a.lv false [] (a.cs.map fun c=>c.mul b)) (c:=a.cs.length) (jc.nil wr) (by simp [Pl.cs]) (by omega) aS;rw [show (Pl.mk a.lv false [] (a.cs.map fun c=>c.mul b)).cs.length=a.cs.length by simp [Pl.cs]] at h1;exact qf (p:=.mk a.lv false [] (a.cs.map fun c=>c.mul b)) (q':=fun i=>w.heap.size<=i) (X2.out.trans HX.out) (by omega) Qj h1 (fun b _ hb=>⟨by omega,by omega⟩)
      obtain ⟨⟨z0,z1,z2,z3⟩,zf⟩:=Qj;clear aS aB kJ pJ;go_wp2_with fail;exact bodyPost_ret (v:=plV (.mk a.lv false [] (a.cs.map fun c=>c.mul b)) (.slice none 0 0) (.slice (some ⟨w2.heap.size,0,none⟩) a.cs.length a.cs.length)) (by simp [results,Tryz.results40,go_sem,z0,z1,z2,z3,plV,Pl.lv,Pl.neg]) rfl HF.out
theorem jm.lt {w:World} {x:Value} {z:Int} {L:Nat} (h:jm w x z L):z.natAbs < B32 ^ L:=by
 obtain ⟨n,s,ds,rfl,hn,hz,hl⟩:=h;rw [hz,ku];exact pw (jy (jc.kq hn)) (rS (by decide) hl)
theorem yau {w:World} {s:Value} {z:Int} {L:Nat} (h:jc w s (dg z.natAbs)) (hL:(dg z.natAbs).length<=L):jm w (.agg #[.bool (decide (z < 0)),s]) z L:=⟨_,_,_,rfl,h,by rw [qg,wao],hL⟩
theorem xcm (z:Int) (s A:Value):plV (Pl.const z) s A=.agg #[.int .i64 0,.bool (decide (z < 0)),s,A]:=rfl
theorem jbq {w:World} {s:Value} {z:Int} (q:Nat->Prop) (h:jc w s (dg z.natAbs)):PlV w q (Pl.const z) (plV (Pl.const z) s (.slice none 0 0)):=
 PlV.mk (t:=Pl.const z) (A:=none) (c:=0) h (pj _) (by omega) (by unfold Pl.const Pl.cs jd; trivial)
theorem xat {w:World} {z:Int} {L:Nat} (v0:Value) (h0:jm w v0 z L) (hL:L<=35184372088832):Calls Tryz.prog 10 #[v0] w (uf (fun b=>w.heap.size<=b) (Pl.const z) w):=by
 have H0:=hid h0;obtain ⟨n0,s0,e0,rfl,⟨A0,c0,rfl,-,-,-⟩,-,-⟩:=h0;obtain ⟨W,hW⟩:=n_m ((w.alloc (.cells #[.bool n0,.slice A0 e0.length c0] 30)).alloc (.cells #[.int .i64 0,.bool false,.slice none 0 0,.slice none 0 0] 33));have ai:Ext w W:=by rw [<- hW]; exact ((Ext.refl w).alloc _).alloc _
 have dG:W.heap.size=w.heap.size+1+1:=by rw [<- hW]; simp
 have ay:=hid ai;have HS:Hid (∀ W',Ext W W'->(Ext w W'/\W'.cell? ⟨w.heap.size,0,none⟩=some (.bool n0)/\W'.cell? ⟨w.heap.size,1,none⟩=some (.slice A0 e0.length c0))):=by
  have:∀ W',Ext W W'->(Ext w W'/\W'.cell? ⟨w.heap.size,0,none⟩=some (.bool n0)/\W'.cell? ⟨w.heap.size,1,none⟩=some (.slice A0 e0.length c0)):=fun W' hx=>by
   obtain ⟨hc,hf⟩:=hx.cells;refine ⟨ai.trans hx,?_,?_⟩ <;> (rw [hc _ _ (by omega),<- hW]; simp [go_sem])
  exact this
 have HZ:Hid (jf W (w.heap.size+1)):=by
  have:jf W (w.heap.size+1):=by
   rw [<- hW];refine ⟨⟨?_,?_,?_,?_⟩,fun i=>?_⟩ <;> simp [go_sem]
  exact this
 obtain ⟨-,b0,b1⟩:=HS.out W (Ext.refl W);clear ai;go_enter Tryz.func10,Tryz.ntmps10;go_wp2_with fail;clear hW b0 b1;refine (gan _ z L _ (H0.out.ext ay.out) hL).mono ?_;rintro e w1 ⟨z1,rfl,⟨y1,rfl,m1⟩,x1⟩;obtain ⟨C1,k1,rfl,-⟩:=id m1;have O6:=hid (x1);have aQ:=HZ.out.ext O6.out (by omega);have BG:=(O6.out:Ext W _).size
 have HF:Hid (uf (fun b=>w.heap.size<=b) (Pl.const z) w (.returned (plV (Pl.const z) (.slice C1 (dg z.natAbs).length k1) (.slice none 0 0))) ((((w1.setCell ⟨w.heap.size+1,0,none⟩ (.int .i64 0)).setCell ⟨w.heap.size+1,1,none⟩ (.bool (decide (z < 0)))).setCell ⟨w.heap.size+1,2,none⟩ (.slice C1 (dg z.natAbs).length k1)).setCell ⟨w.heap.size+1,3,none⟩ (.slice none 0 0))):=
  qf (p:=Pl.const z) (q:=fun _=>False) (ay.out.trans O6.out) (by omega) aQ (jbq _ m1) (fun b _ h=>h.elim)
 obtain ⟨⟨r0,r1,r2,r3⟩,rf⟩:=aQ;clear m1 x1 HS HZ;go_wp2_with fail;exact bodyPost_ret (v:=plV (Pl.const z) (.slice C1 (dg z.natAbs).length k1) (.slice none 0 0)) (by simp [results,Tryz.results10,go_sem,r0,r1,r2,r3,xcm]) rfl HF.out
theorem xc7 (w0:World) (z:Int) (u:Value) (E D G:Nat) (hE:E<=1000000) (hD:D+G<=35184372088000) (hz:z.natAbs < B32 ^ G) (k:PlV w0 (fun _=>True) (Pl.const z) u) (n:Nat) :
 ∀ (p:Pl) (v:Value) (w:World),p.sz < n->Fit p E D->PlV w0 (fun _=>True) p v->Ext w0 w->Calls Tryz.prog 40 #[v,u] w (uf (fun i=>w.heap.size<=i) (p.mul (Pl.const z)) w):=by
 induction n with
 | zero=>intro p v w h; omega
 | succ n ih =>
   intro p v w hn hp h hx;refine wb9 (F:=0) p (Pl.const z) v u hp (Fit.const hz) hE (by omega) hD h k hx (fun e=>e) (fun a h1 x pa W' iY=>?_) (fun a h1=>by simp [Pl.const,Pl.cs] at h1);obtain ⟨l,ng,ds,cs⟩:=p;have hl:0 < l:=by
    have:=hp.can;unfold Pl.Can at this;rcases this with h | h
    · simp only [Pl.cs,h.2.1] at h1; cases h1
    · omega
   exact ih a x W' (by have:=Pl.jn h1; omega) (hp.kid hl h1) pa iY
theorem kcw {w:World} {q q':Nat->Prop} {z:Int} {E D G:Nat} (p:Pl) (v u:Value) (hp:Fit p E D) (hz:z.natAbs < B32 ^ G) (hE:E<=1000000) (hD:D+G<=35184372088000) (h:PlV w q p v) (k:PlV w q' (Pl.const z) u):Calls Tryz.prog 40 #[v,u] w (uf (fun i=>w.heap.size<=i) (p.mul (Pl.const z)) w):=
 xc7 w z u E D G hE hD hz (k.mono fun _ _=>trivial) (p.sz+1) p v w (tx _) hp (h.mono fun _ _=>trivial) (Ext.refl w)
theorem wbn {w:World} {p:Pl} {z:Int} {L E D:Nat} {q0:Nat->Prop} (v0:Value) (v1:Value) (h0:PlV w q0 p v0) (h1:jm w v1 z L) (hp:Fit p E D) (hE:E<=1000000) (hD:D+L<=35184372088000):Calls Tryz.prog 39 #[v0,v1] w (uf (fun b=>w.heap.size<=b) (p.mul (Pl.const z)) w):=by
 have H0:=hid h0;obtain ⟨A0,n0,c0,B0,d0,rfl,-,-,-,-⟩:=h0.open_;clear h0;have H1:=hid h1;obtain ⟨n1,s1,e1,rfl,⟨A1,c1,rfl,-,-,-⟩,-,-⟩:=h1;obtain ⟨W,hW⟩:=n_m (((w.alloc (.cells #[.int .i64 (p).lv,.bool (p).neg,.slice A0 n0 c0,.slice B0 (p).cs.length d0] 33)).alloc (.cells #[.bool n1,.slice A1 e1.length c1] 30)).alloc (.cells #[.int .i64 0,.bool false,.slice none 0 0,.slice none 0 0] 33));have ai:Ext w W:=by rw [<- hW]; exact (((Ext.refl w).alloc _).alloc _).alloc _
 have dG:W.heap.size=w.heap.size+1+1+1:=by rw [<- hW]; simp
 have ay:=hid ai;have HS:Hid (∀ W',Ext W W'->(Ext w W'/\W'.cell? ⟨w.heap.size,0,none⟩=some (.int .i64 (p).lv)/\W'.cell? ⟨w.heap.size,1,none⟩=some (.bool (p).neg)/\W'.cell? ⟨w.heap.size,2,none⟩=some (.slice A0 n0 c0)/\W'.cell? ⟨w.heap.size,3,none⟩=some (.slice B0 (p).cs.length d0)/\W'.cell? ⟨w.heap.size+1,0,none⟩=some (.bool n1)/\W'.cell? ⟨w.heap.size+1,1,none⟩=some (.slice A1 e1.length c1))):=by
  have:∀ W',Ext W W'->(Ext w W'/\W'.cell? ⟨w.heap.size,0,none⟩=some (.int .i64 (p).lv)/\W'.cell? ⟨w.heap.size,1,none⟩=some (.bool (p).neg)/\W'.cell? ⟨w.heap.size,2,none⟩=some (.slice A0 n0 c0)/\W'.cell? ⟨w.heap.size,3,none⟩=some (.slice B0 (p).cs.length d0)/\W'.cell? ⟨w.heap.size+1,0,none⟩=some (.bool n1)/\W'.cell? ⟨w.heap.size+1,1,none⟩=some (.slice A1 e1.length c1)):=fun W' hx=>by
   obtain ⟨hc,hf⟩:=hx.cells;refine ⟨ai.trans hx,?_,?_,?_,?_,?_,?_⟩ <;> (rw [hc _ _ (by omega),<- hW]; simp [go_sem])
  exact this
 have HZ:Hid (jf W (w.heap.size+1+1)):=by
  have:jf W (w.heap.size+1+1):=by
   rw [<- hW];refine ⟨⟨?_,?_,?_,?_⟩,fun i=>?_⟩ <;> simp [go_sem]
  exact this
 have aY:Hid (∀ W'' u0 u1 u2 u3,Ext W W''->∀ W',W'=(((W''.setCell ⟨w.heap.size+1+1,0,none⟩ u0).setCell ⟨w.heap.size+1+1,1,none⟩ u1).setCell ⟨w.heap.size+1+1,2,none⟩ u2).setCell ⟨w.heap.size+1+1,3,none⟩ u3->(Ext w W'/\W'.cell? ⟨w.heap.size,0,none⟩=some (.int .i64 (p).lv)/\W'.cell? ⟨w.heap.size,1,none⟩=some (.bool (p).neg)/\W'.cell? ⟨w.heap.size,2,none⟩=some (.slice A0 n0 c0)/\W'.cell? ⟨w.heap.size,3,none⟩=some (.slice B0 (p).cs.length d0)/\W'.cell? ⟨w.heap.size+1,0,none⟩=some (.bool n1)/\W'.cell? ⟨w.heap.size+1,1,none⟩=some (.slice A1 e1.length c1))):=by
  have:∀ W'' u0 u1 u2 u3,Ext W W''->∀ W',W'=(((W''.setCell ⟨w.heap.size+1+1,0,none⟩ u0).setCell ⟨w.heap.size+1+1,1,none⟩ u1).setCell ⟨w.heap.size+1+1,2,none⟩ u2).setCell ⟨w.heap.size+1+1,3,none⟩ u3->(Ext w W'/\W'.cell? ⟨w.heap.size,0,none⟩=some (.int .i64 (p).lv)/\W'.cell? ⟨w.heap.size,1,none⟩=some (.bool (p).neg)/\W'.cell? ⟨w.heap.size,2,none⟩=some (.slice A0 n0 c0)/\W'.cell? ⟨w.heap.size,3,none⟩=some (.slice B0 (p).cs.length d0)/\W'.cell? ⟨w.heap.size+1,0,none⟩=some (.bool n1)/\W'.cell? ⟨w.heap.size+1,1,none⟩=some (.slice A1 e1.length c1)):=fun W'' u0 u1 u2 u3 hx W' bJ=>by
   obtain ⟨s1,k0,k1,k2,k3,k4,k5⟩:=HS.out W'' hx;rw [bJ];refine ⟨(((s1.setCell (by simp; try omega) _).setCell (by simp; try omega) _).setCell (by simp; try omega) _).setCell (by simp; try omega) _,?_,?_,?_,?_,?_,?_⟩ <;> rw [ph _ _ _ _ (by simp; try omega),ph _ _ _ _ (by simp; try omega),ph _ _ _ _ (by simp; try omega),ph _ _ _ _ (by simp; try omega)] <;> assumption
  exact this
 have oq:=hid hp;have tJ:=hid (jm.lt H1.out);clear hp;obtain ⟨-,b0,b1,b2,b3,b4,b5⟩:=HS.out W (Ext.refl W);clear ai;unfold plV at *;go_enter Tryz.func39,Tryz.ntmps39;go_wp2_with fail;clear hW b0 b1 b2 b3 b4 b5;have pO:Ext W W.drew:=(Ext.refl W).drew;have Y0:=hid pO;clear pO
 go_region_held3 (fun W' => Ext w W' /\ W'.cell? ⟨w.heap.size, 0, none⟩ = some (.int .i64 (p).lv) /\ W'.cell? ⟨w.heap.size, 1, none⟩ = some (.bool (p).neg) /\ W'.cell? ⟨w.heap.size, 2, none⟩ = some (.slice A0 n0 c0) /\ W'.cell? ⟨w.heap.size, 3, none⟩ = some (.slice B0 (p).cs.length d0) /\ W'.cell? ⟨w.heap.size + 1, 0, none⟩ = some (.bool n1) /\ W'.cell? ⟨w.heap.size + 1, 1, none⟩ = some (.slice A1 e1.length c1))
  (first | with_reducible exact HS.out _ Y0.out | with_reducible exact HS.out _ gI | with_reducible exact HS.out _ iO | exact aY.out _ _ _ _ _ iO _ rfl)
  (first
    | (go_at_call 10
       refine (xat _ (H1.out.ext (ay.out.trans Y0.out)) (by omega)).mono ?_;rintro e w1 ⟨z1,rfl,m1,x1⟩;obtain ⟨C1,i1,j1,D1,k1,rfl,-⟩:=id m1.open_;have gI:Ext W w1:=Ext.trans Y0.out x1
       unfold plV)
    | (go_at_call 40
       refine (kcw (G:=L) p _ _ oq.out tJ.out hE hD (H0.out.ext (ay.out.trans gI)) m1).mono ?_;rintro e w2 ⟨z2,rfl,m2,x2⟩;obtain ⟨C2,i2,j2,D2,k2,rfl,-⟩:=id m2.open_;have iO:Ext W w2:=Ext.trans gI x2
       replace m1:=m1.ext x2
       obtain ⟨⟨r0,r1,r2,r3⟩,rf⟩:=HZ.out.ext iO (by omega)
       unfold plV))
 have aQ:=HZ.out.ext iO (by omega);have BG:=(iO:Ext W _).size;have oZ:=(gI:Ext W _).size;have HF:=hid (qf (q':=fun b=>w.heap.size<=b) (ay.out.trans iO) (by omega) aQ m2 (fun b _ hb=>⟨by omega,by omega⟩));clear m2 x2 m1 x1 iO gI aY HS HZ
 try unfold plV
 go_wp2_with fail;exact bodyPost_ret (by simp [results,Tryz.results39,go_sem,r0,r1,r2,r3,plV]) rfl HF.out
theorem vbh {w:World} {p:Pl} {z:Int} {L E D:Nat} {q0:Nat->Prop} (v0:Value) (v1:Value) (h0:PlV w q0 p v0) (h1:jm w v1 z L) (iT:∀ W',Ext w W'->Calls Tryz.prog 38 #[v0] W' (uf (fun b=>q0 b\/W'.heap.size<=b) p.nf W')) (hp:Fit p.nf E D) (hE:E<=1000) (hD:D+L<=35184372088000):Calls Tryz.prog 16 #[v0,v1] w (uf (fun b=>w.heap.size<=b) (p.nf.mul (Pl.const z)) w):=by
 have H0:=hid h0;obtain ⟨A0,n0,c0,B0,d0,rfl,-,-,-,-⟩:=h0.open_;clear h0;have H1:=hid h1;obtain ⟨n1,s1,e1,rfl,⟨A1,c1,rfl,-,-,-⟩,-,-⟩:=h1;obtain ⟨W,hW⟩:=n_m (((w.alloc (.cells #[.int .i64 (p).lv,.bool (p).neg,.slice A0 n0 c0,.slice B0 (p).cs.length d0] 33)).alloc (.cells #[.bool n1,.slice A1 e1.length c1] 30)).alloc (.cells #[.int .i64 0,.bool false,.slice none 0 0,.slice none 0 0] 33));have ai:Ext w W:=by rw [<- hW]; exact (((Ext.refl w).alloc _).alloc _).alloc _
 have dG:W.heap.size=w.heap.size+1+1+1:=by rw [<- hW]; simp
 have ay:=hid ai;have HS:Hid (∀ W',Ext W W'->(Ext w W'/\W'.cell? ⟨w.heap.size,0,none⟩=some (.int .i64 (p).lv)/\W'.cell? ⟨w.heap.size,1,none⟩=some (.bool (p).neg)/\W'.cell? ⟨w.heap.size,2,none⟩=some (.slice A0 n0 c0)/\W'.cell? ⟨w.heap.size,3,none⟩=some (.slice B0 (p).cs.length d0)/\W'.cell? ⟨w.heap.size+1,0,none⟩=some (.bool n1)/\W'.cell? ⟨w.heap.size+1,1,none⟩=some (.slice A1 e1.length c1))):=by
  have:∀ W',Ext W W'->(Ext w W'/\W'.cell? ⟨w.heap.size,0,none⟩=some (.int .i64 (p).lv)/\W'.cell? ⟨w.heap.size,1,none⟩=some (.bool (p).neg)/\W'.cell? ⟨w.heap.size,2,none⟩=some (.slice A0 n0 c0)/\W'.cell? ⟨w.heap.size,3,none⟩=some (.slice B0 (p).cs.length d0)/\W'.cell? ⟨w.heap.size+1,0,none⟩=some (.bool n1)/\W'.cell? ⟨w.heap.size+1,1,none⟩=some (.slice A1 e1.length c1)):=fun W' hx=>by
   obtain ⟨hc,hf⟩:=hx.cells;refine ⟨ai.trans hx,?_,?_,?_,?_,?_,?_⟩ <;> (rw [hc _ _ (by omega),<- hW]; simp [go_sem])
  exact this
 have HZ:Hid (jf W (w.heap.size+1+1)):=by
  have:jf W (w.heap.size+1+1):=by
   rw [<- hW];refine ⟨⟨?_,?_,?_,?_⟩,fun i=>?_⟩ <;> simp [go_sem]
  exact this
 have aY:Hid (∀ W'' u0 u1 u2 u3,Ext W W''->∀ W',W'=(((W''.setCell ⟨w.heap.size+1+1,0,none⟩ u0).setCell ⟨w.heap.size+1+1,1,none⟩ u1).setCell ⟨w.heap.size+1+1,2,none⟩ u2).setCell ⟨w.heap.size+1+1,3,none⟩ u3->(Ext w W'/\W'.cell? ⟨w.heap.size,0,none⟩=some (.int .i64 (p).lv)/\W'.cell? ⟨w.heap.size,1,none⟩=some (.bool (p).neg)/\W'.cell? ⟨w.heap.size,2,none⟩=some (.slice A0 n0 c0)/\W'.cell? ⟨w.heap.size,3,none⟩=some (.slice B0 (p).cs.length d0)/\W'.cell? ⟨w.heap.size+1,0,none⟩=some (.bool n1)/\W'.cell? ⟨w.heap.size+1,1,none⟩=some (.slice A1 e1.length c1))):=by
  have:∀ W'' u0 u1 u2 u3,Ext W W''->∀ W',W'=(((W''.setCell ⟨w.heap.size+1+1,0,none⟩ u0).setCell ⟨w.heap.size+1+1,1,none⟩ u1).setCell ⟨w.heap.size+1+1,2,none⟩ u2).setCell ⟨w.heap.size+1+1,3,none⟩ u3->(Ext w W'/\W'.cell? ⟨w.heap.size,0,none⟩=some (.int .i64 (p).lv)/\W'.cell? ⟨w.heap.size,1,none⟩=some (.bool (p).neg)/\W'.cell? ⟨w.heap.size,2,none⟩=some (.slice A0 n0 c0)/\W'.cell? ⟨w.heap.size,3,none⟩=some (.slice B0 (p).cs.length d0)/\W'.cell? ⟨w.heap.size+1,0,none⟩=some (.bool n1)/\W'.cell? ⟨w.heap.size+1,1,none⟩=some (.slice A1 e1.length c1)):=fun W'' u0 u1 u2 u3 hx W' bJ=>by
   obtain ⟨s1,k0,k1,k2,k3,k4,k5⟩:=HS.out W'' hx;rw [bJ];refine ⟨(((s1.setCell (by simp; try omega) _).setCell (by simp; try omega) _).setCell (by simp; try omega) _).setCell (by simp; try omega) _,?_,?_,?_,?_,?_,?_⟩ <;> rw [ph _ _ _ _ (by simp; try omega),ph _ _ _ _ (by simp; try omega),ph _ _ _ _ (by simp; try omega),ph _ _ _ _ (by simp; try omega)] <;> assumption
  exact this
 have oq:=hid hp;have HS0:=hid iT;have KP:=hp.mul (Fit.const (E:=0) (jm.lt H1.out));have jD:=hid (py KP.sz (py (Pc (show E+0+2<=1002 by omega) 4) (show 1002 ^ 4<=1099511627776 by decide)));have oQ:=hid (py KP.dm (show D+L<=35184372088832 by omega));clear hp KP iT;obtain ⟨-,b0,b1,b2,b3,b4,b5⟩:=HS.out W (Ext.refl W);clear ai;unfold plV at *;go_enter Tryz.func16,Tryz.ntmps16;go_wp2_with fail;clear hW b0 b1 b2 b3 b4 b5;have pO:Ext W W.drew:=(Ext.refl W).drew;have Y0:=hid pO;clear pO
 go_region_held3 (fun W' => Ext w W' /\ W'.cell? ⟨w.heap.size, 0, none⟩ = some (.int .i64 (p).lv) /\ W'.cell? ⟨w.heap.size, 1, none⟩ = some (.bool (p).neg) /\ W'.cell? ⟨w.heap.size, 2, none⟩ = some (.slice A0 n0 c0) /\ W'.cell? ⟨w.heap.size, 3, none⟩ = some (.slice B0 (p).cs.length d0) /\ W'.cell? ⟨w.heap.size + 1, 0, none⟩ = some (.bool n1) /\ W'.cell? ⟨w.heap.size + 1, 1, none⟩ = some (.slice A1 e1.length c1))
  (first | with_reducible exact HS.out _ Y0.out | with_reducible exact HS.out _ gI | with_reducible exact HS.out _ iO | with_reducible exact HS.out _ mG | exact aY.out _ _ _ _ _ mG _ rfl)
  (first
    | (go_at_call 38
       refine (HS0.out _ (ay.out.trans Y0.out)).mono ?_;rintro e w1 ⟨z1,rfl,m1,x1⟩;obtain ⟨C1,i1,j1,D1,k1,rfl,-⟩:=id m1.open_;have gI:Ext W w1:=Ext.trans Y0.out x1
       unfold plV)
    | (go_at_call 39
       refine (wbn _ _ m1 (H1.out.ext (ay.out.trans gI)) oq.out (by omega) hD).mono ?_;rintro e w2 ⟨z2,rfl,m2,x2⟩;obtain ⟨C2,i2,j2,D2,k2,rfl,-⟩:=id m2.open_;have iO:Ext W w2:=Ext.trans gI x2
       replace m1:=m1.ext x2
       unfold plV)
    | (go_at_call 29
       refine (zah _ _ (Pl.q8 _ _) jD.out oQ.out m2).mono ?_;rintro e w3 ⟨z3,rfl,m3,x3⟩;obtain ⟨C3,i3,j3,D3,k3,rfl,-⟩:=id m3.open_;have mG:Ext W w3:=Ext.trans iO x3
       replace m1:=m1.ext x3
       replace m2:=m2.ext x3
       obtain ⟨⟨r0,r1,r2,r3⟩,rf⟩:=HZ.out.ext mG (by omega)
       unfold plV))
 have aQ:=HZ.out.ext mG (by omega);have BG:=(mG:Ext W _).size;have oZ:=(iO:Ext W _).size;have HF:=hid (qf (q':=fun b=>w.heap.size<=b) (ay.out.trans mG) (by omega) aQ m3 (fun b _ hb=>⟨by omega,by omega⟩));clear m3 x3 m2 x2 m1 x1 mG iO gI aY HS HZ
 try unfold plV
 go_wp2_with fail;exact bodyPost_ret (by simp [results,Tryz.results16,go_sem,r0,r1,r2,r3,plV]) rfl HF.out
theorem qcv {w:World} {p:Pl} {E D:Nat} {q0:Nat->Prop} (v0:Value) (h0:PlV w q0 p v0) (iT:∀ W',Ext w W'->Calls Tryz.prog 38 #[v0] W' (uf (fun b=>q0 b\/W'.heap.size<=b) p.nf W')) (hp:Fit p.nf E D) (hE:E<=1000) (hD:D+1<=35184372088000):Calls Tryz.prog 159 #[v0] w (uf (fun b=>w.heap.size<=b) (p.nf.mul (Pl.const (-1))) w):=by
 have H0:=hid h0;obtain ⟨A0,n0,c0,B0,d0,rfl,-,-,-,-⟩:=h0.open_;clear h0;obtain ⟨W,hW⟩:=n_m ((w.alloc (.cells #[.int .i64 (p).lv,.bool (p).neg,.slice A0 n0 c0,.slice B0 (p).cs.length d0] 33)).alloc (.cells #[.int .i64 0,.bool false,.slice none 0 0,.slice none 0 0] 33));have ai:Ext w W:=by rw [<- hW]; exact ((Ext.refl w).alloc _).alloc _
 have dG:W.heap.size=w.heap.size+1+1:=by rw [<- hW]; simp
 have ay:=hid ai;have HS:Hid (∀ W',Ext W W'->(Ext w W'/\W'.cell? ⟨w.heap.size,0,none⟩=some (.int .i64 (p).lv)/\W'.cell? ⟨w.heap.size,1,none⟩=some (.bool (p).neg)/\W'.cell? ⟨w.heap.size,2,none⟩=some (.slice A0 n0 c0)/\W'.cell? ⟨w.heap.size,3,none⟩=some (.slice B0 (p).cs.length d0))):=by
  have:∀ W',Ext W W'->(Ext w W'/\W'.cell? ⟨w.heap.size,0,none⟩=some (.int .i64 (p).lv)/\W'.cell? ⟨w.heap.size,1,none⟩=some (.bool (p).neg)/\W'.cell? ⟨w.heap.size,2,none⟩=some (.slice A0 n0 c0)/\W'.cell? ⟨w.heap.size,3,none⟩=some (.slice B0 (p).cs.length d0)):=fun W' hx=>by
   obtain ⟨hc,hf⟩:=hx.cells;refine ⟨ai.trans hx,?_,?_,?_,?_⟩ <;> (rw [hc _ _ (by omega),<- hW]; simp [go_sem])
  exact this
 have HZ:Hid (jf W (w.heap.size+1)):=by
  have:jf W (w.heap.size+1):=by
   rw [<- hW];refine ⟨⟨?_,?_,?_,?_⟩,fun i=>?_⟩ <;> simp [go_sem]
  exact this
 have aY:Hid (∀ W'' u0 u1 u2 u3,Ext W W''->∀ W',W'=(((W''.setCell ⟨w.heap.size+1,0,none⟩ u0).setCell ⟨w.heap.size+1,1,none⟩ u1).setCell ⟨w.heap.size+1,2,none⟩ u2).setCell ⟨w.heap.size+1,3,none⟩ u3->(Ext w W'/\W'.cell? ⟨w.heap.size,0,none⟩=some (.int .i64 (p).lv)/\W'.cell? ⟨w.heap.size,1,none⟩=some (.bool (p).neg)/\W'.cell? ⟨w.heap.size,2,none⟩=some (.slice A0 n0 c0)/\W'.cell? ⟨w.heap.size,3,none⟩=some (.slice B0 (p).cs.length d0))):=by
  have:∀ W'' u0 u1 u2 u3,Ext W W''->∀ W',W'=(((W''.setCell ⟨w.heap.size+1,0,none⟩ u0).setCell ⟨w.heap.size+1,1,none⟩ u1).setCell ⟨w.heap.size+1,2,none⟩ u2).setCell ⟨w.heap.size+1,3,none⟩ u3->(Ext w W'/\W'.cell? ⟨w.heap.size,0,none⟩=some (.int .i64 (p).lv)/\W'.cell? ⟨w.heap.size,1,none⟩=some (.bool (p).neg)/\W'.cell? ⟨w.heap.size,2,none⟩=some (.slice A0 n0 c0)/\W'.cell? ⟨w.heap.size,3,none⟩=some (.slice B0 (p).cs.length d0)):=fun W'' u0 u1 u2 u3 hx W' bJ=>by
   obtain ⟨s1,k0,k1,k2,k3⟩:=HS.out W'' hx;rw [bJ];refine ⟨(((s1.setCell (by simp; try omega) _).setCell (by simp; try omega) _).setCell (by simp; try omega) _).setCell (by simp; try omega) _,?_,?_,?_,?_⟩ <;> rw [ph _ _ _ _ (by simp; try omega),ph _ _ _ _ (by simp; try omega),ph _ _ _ _ (by simp; try omega),ph _ _ _ _ (by simp; try omega)] <;> assumption
  exact this
 have oq:=hid hp;have HS0:=hid iT;have PE:Hid ((dg (-1:Int).natAbs).length<=1):=yf (by decide);clear hp iT;obtain ⟨-,b0,b1,b2,b3⟩:=HS.out W (Ext.refl W);clear ai;unfold plV at *;go_enter Tryz.func159,Tryz.ntmps159;go_wp2_with fail;clear hW b0 b1 b2 b3;have pO:Ext W W.drew:=(Ext.refl W).drew;have Y0:=hid pO;clear pO
 go_region_held3 (fun W' => Ext w W' /\ W'.cell? ⟨w.heap.size, 0, none⟩ = some (.int .i64 (p).lv) /\ W'.cell? ⟨w.heap.size, 1, none⟩ = some (.bool (p).neg) /\ W'.cell? ⟨w.heap.size, 2, none⟩ = some (.slice A0 n0 c0) /\ W'.cell? ⟨w.heap.size, 3, none⟩ = some (.slice B0 (p).cs.length d0))
  (first | with_reducible exact HS.out _ Y0.out | with_reducible exact HS.out _ gI | with_reducible exact HS.out _ iO | exact aY.out _ _ _ _ _ iO _ rfl)
  (first
    | (go_at_call 11
       refine (of_int (-1) _ (by omega) (by omega)).mono ?_;rintro e w1 ⟨z1,rfl,⟨y1,rfl,m1⟩,x1⟩;obtain ⟨C1,k1,rfl,-⟩:=id m1
       have gI:Ext W w1:=Ext.trans Y0.out x1)
    | (go_at_call 16
       refine (vbh (L:=1) _ _ (H0.out.ext (ay.out.trans gI)) (yau m1 PE.out) (fun W' hx=>HS0.out W' (((ay.out.trans gI)).trans hx)) oq.out hE hD).mono ?_;rintro e w2 ⟨z2,rfl,m2,x2⟩;obtain ⟨C2,i2,j2,D2,k2,rfl,-⟩:=id m2.open_;have iO:Ext W w2:=Ext.trans gI x2
       replace m1:=m1.ext x2
       obtain ⟨⟨r0,r1,r2,r3⟩,rf⟩:=HZ.out.ext iO (by omega)
       unfold plV))
 have aQ:=HZ.out.ext iO (by omega);have BG:=(iO:Ext W _).size;have oZ:=(gI:Ext W _).size;have HF:=hid (qf (q':=fun b=>w.heap.size<=b) (ay.out.trans iO) (by omega) aQ m2 (fun b _ hb=>⟨by omega,by omega⟩));clear m2 x2 m1 x1 iO gI aY HS HZ
 try unfold plV
 go_wp2_with fail;exact bodyPost_ret (by simp [results,Tryz.results159,go_sem,r0,r1,r2,r3,plV]) rfl HF.out
theorem xcv {w:World} {q:Nat->Prop} {p:Pl} {E D:Nat} (v:Value) (h:PlV w q p v) (hp:Fit p E D) (hE:E<=1000) (hD:D<=1099511627776):Calls Tryz.prog 159 #[v] w (uf (fun b=>w.heap.size<=b) p.z8 w):=by
 have h1:=qcv (E:=E) (D:=D) v h (fun W' hx=>by rw [Pl.q7 hp.can]; exact ut v (h.ext hx) hp.can) (by rw [Pl.q7 hp.can]; exact hp) hE (by omega);rw [Pl.q7 hp.can] at h1;exact h1
theorem SpO.xD {base:Nat} {W:World} {g c:Nat} {l:Sp} (h:SpO base W (.slice (some ⟨g,0,none⟩) l.length c) l) (k:Nat) (hk:k < l.length) {b:Bool} {A:Option Addr} {n d:Nat} {z:Int} (hc:ul W (.agg #[.bool b,.slice A n d]) z) :
 SpO base ((W.setCell ⟨g,k * 6,none⟩ (.bool b)).setCell ⟨g,k * 6+1,none⟩ (.slice A n d)) (.slice (some ⟨g,0,none⟩) l.length c) (l.set k (z,l[k].2))/\(∀ v ds,jc W v ds->jc ((W.setCell ⟨g,k * 6,none⟩ (.bool b)).setCell ⟨g,k * 6+1,none⟩ (.slice A n d)) v ds):=by
 obtain ⟨⟨A',c',e,h1,h2,aK⟩,ho⟩:=h;injection e with e1 e2 e3
 subst e1 e3;obtain ⟨g',c',e,hb,af,hf⟩:=ho (by omega);injection e with e1 e2 e3
 injection e1 with e1
 injection e1 with e1
 subst e1 e3;obtain ⟨ad,b0,B0,n0,c0,e,ah,kN,eF⟩:=aK k hk;injection e with e
 subst e;rw [zu,rh] at kN;have q0:=kN.1;have q1:=kN.2.1;simp only at q1
 have au:∀ v ds,jc W v ds->jc ((W.setCell ⟨g,k * 6,none⟩ (.bool b)).setCell ⟨g,k * 6+1,none⟩ (.slice A n d)) v ds:=fun v ds hv =>
  (hv.box q0 rfl _).box (u:=.slice B0 n0 c0) (by rw [ph _ _ _ _ (by simp)]; exact q1) rfl _
 have other:∀ j,j ≠ k * 6->j ≠ k * 6+1->((W.setCell ⟨g,k * 6,none⟩ (.bool b)).setCell ⟨g,k * 6+1,none⟩ (.slice A n d)).cell? ⟨g,j,none⟩=W.cell? ⟨g,j,none⟩:=fun j h1 h2=>by
  rw [ph _ _ _ _ (by intro e; injection e with _ e; omega),ph _ _ _ _ (by intro e; injection e with _ e; omega)]
 have hsz:((W.setCell ⟨g,k * 6,none⟩ (.bool b)).setCell ⟨g,k * 6+1,none⟩ (.slice A n d)).heap.size=W.heap.size:=by simp [World.setCell]
 have qO:(l.set k (z,l[k].2)).length=l.length:=pH;refine ⟨⟨⟨some ⟨g,0,none⟩,c,by rw [qO],by rw [qO]; exact h1,h2,fun i hi=>?_⟩,fun _=>⟨g,c,by rw [qO],hb,by rw [hsz]; exact af,fun i hi=>?_⟩⟩,au⟩
 · rw [qO] at hi
   by_cases nG:i=k
   · subst nG;refine ⟨_,b,A,n,d,rfl,by rw [hsz]; exact af,?_,?_⟩
     · rw [zu,rh,rR];obtain ⟨t0,t1,t2,t3,t4,t5⟩:=kN;refine ⟨?_,pN _ _ _ (u:=.slice B0 n0 c0) (by rw [ph _ _ _ _ (by simp)]; exact q1),?_,?_,?_,?_⟩
       · rw [ph _ _ _ _ (by simp)];exact pN _ _ _ t0
       · exact (other (i * 6+2) (by omega) (by omega)).trans t2
       · exact (other (i * 6+3) (by omega) (by omega)).trans t3
       · exact (other (i * 6+4) (by omega) (by omega)).trans t4
       · exact (other (i * 6+5) (by omega) (by omega)).trans t5
     · rw [rR];exact Cf.xl (k:=none) hc au
   · obtain ⟨ad,b1,B1,n1,c1,e,afx,QC,abd⟩:=aK i hi;injection e with e
     subst e;refine ⟨_,b1,B1,n1,c1,rfl,by rw [hsz]; exact af,?_,?_⟩
     · rw [sX (fun e=>nG e.symm)];rw [zu,rh] at QC ⊢;exact QC.same (other _ (by omega) (by omega)) (fun j hj=>other _ (by simp only; omega) (by simp only; omega))
     · rw [sX (fun e=>nG e.symm)];exact Cf.xl (k:=none) abd au
 · rw [rm,rm];exact hf i (by rw [qO] at hi; exact hi)
theorem tk {P : Program} {ops : Array Oper} {Q : Exit -> Act -> World -> Prop} {md : Region.Mode} {S : World -> Prop} {oi : Oper} {v : Value} {fuel : Nat} {listed l' : Array Bool} {a a' : Act} {w : World} (i : Nat) (h : wpAnyH P md ops Q S fuel l' a' w) (hi : ops[i]? = some oi := by rfl) (hs : Region.noSelect ops = true := by kernel_rfl) (hf : Region.free md ops listed i = true := by kernel_rfl) (hr : (Region.ready md ops listed).contains i = true := by kernel_rfl)
 (hy:YieldsIf P ops S oi v a:=by (first | exact Or.inl ⟨by rfl,by intro w' aP; (try dsimp only at aP); go_simp; (try (with_reducible rfl))⟩ | exact Or.inr ⟨by rfl,rfl⟩)) (hS:S w:=by assumption)
 (ha:a.put oi.dst v=a':=by ((try simp only [Act.put,List.getElem_toArray,tT,Rm,RO,uv,Rr]) <;> rfl))
 (hl:listed.setIfInBounds i true=l':=by ((try simp only [RO,uv,Rr]) <;> rfl)) (hq:∀ c a w,Q (.panic c) (a.put oi.dst v) w->Q (.panic c) a w:=by exact fun _ _ _ h=>h):wpAnyH P md ops Q S (fuel+1) listed a w:=
 wpAnyH_take hi hs hf hr hq hy hS (by rw [ha,hl]; exact h)
section
variable {P:Program} {ops:Array Oper} {Q:Exit->Act->World->Prop} {md:Region.Mode} {S:World->Prop} {fuel:Nat}
theorem k_t {l0 l':Array Bool} {K':Act->World->Prop} {a a':Act} {w:World} (hK:Shut (∀ a w,S w->(S w->wpAnyH P md ops Q S fuel l0 a w)->K' a w)) (hS:S w) (h:S w->wpAnyH P md ops Q S fuel l' a' w) (ha:a=a':=by ((try simp only [Act.put,List.getElem_toArray,tT,Rm,RO,uv,Rr]) <;> rfl)) (hl:l0=l':=by ((try simp only [RO,uv,Rr]) <;> rfl)):K' a w:=
  hK.out a w hS fun hs=>by rw [ha,hl]; exact h hs
theorem r_1 {listed:Array Bool} {a:Act} {w:World} {o:Oper} (i:Nat) (h:∀ K':Act->World->Prop,Shut (∀ a w,S w->(S w->wpAnyH P md ops Q S fuel (listed.setIfInBounds i true) a w)->K' a w)->if Region.wanted o (yielded ops a.tmps)=true then Oper.wp P o a w K' Q else K' (a.put o.dst undef) w) (hr:Region.ready md ops listed=[i]:=by kernel_rfl) (ho:ops[i]?=some o:=by rfl):wpAnyH P md ops Q S (fuel+1) listed a w:=
  wpAnyH_ready hr (by simp) (sy ho h tW)
theorem r_2 {listed:Array Bool} {a:Act} {w:World} {o p:Oper} (i j:Nat) (h:∀ K':Act->World->Prop,Shut (∀ a w,S w->(S w->wpAnyH P md ops Q S fuel (listed.setIfInBounds i true) a w)->K' a w)->if Region.wanted o (yielded ops a.tmps)=true then Oper.wp P o a w K' Q else K' (a.put o.dst undef) w) (h2:∀ K':Act->World->Prop,Shut (∀ a w,S w->(S w->wpAnyH P md ops Q S fuel (listed.setIfInBounds j true) a w)->K' a w)->if Region.wanted p (yielded ops a.tmps)=true then Oper.wp P p a w K' Q else K' (a.put p.dst undef) w) (hr:Region.ready md ops listed=[i,j]:=by kernel_rfl) (ho:ops[i]?=some o:=by rfl) (hp:ops[j]?=some p:=by rfl):wpAnyH P md ops Q S (fuel+1) listed a w:=
  wpAnyH_ready hr (by simp) (sy ho h (sy hp h2 tW))
theorem w_d {listed:Array Bool} {a:Act} {w:World} (h:Q .normal a w) (hr:Region.ready md ops listed=[]:=by kernel_rfl):wpAnyH P md ops Q S fuel listed a w:=wpAnyH_done hr h _
end
theorem gbj {p:Pl} {E D:Nat} (hp:Fit p E D) (h0:0 < p.lv) (i:Nat):Fit (Pl.at_ p.cs i) E D:=by
 unfold Pl.at_;rw [pr];rcases tG i p.cs.length with h | h
 · rw [po h];obtain ⟨l,n,d,cs⟩:=p;exact hp.kid h0 (pt h)
 · rw [sA h];exact Fit.zero
theorem qce {p q:Pl} {E D F G:Nat} (hp:Fit p E D) (hq:Fit q F G) (h0:0 < p.lv) (Dh:0 < q.lv) (Ff:p.cs.length<=901) (Ou:q.cs.length<=901) (k:Nat) :
 (∀ r ∈ zo p.cs q.cs (zq (prs p.cs p.cs.length) (prs q.cs q.cs.length)) k,r.Can/\r.ex (E+F))/\lnr (zo p.cs q.cs (zq (prs p.cs p.cs.length) (prs q.cs q.cs.length)) k) < B32 ^ (D+G)/\(zo p.cs q.cs (zq (prs p.cs p.cs.length) (prs q.cs q.cs.length)) k).length<=1000000:=by
 refine ⟨fun r hr=>?_,?_,?_⟩
 · unfold zo at hr;obtain ⟨x,-,rfl⟩:=pZ.1 hr;have h:=(gbj hp h0 x.1).mul (gbj hq Dh x.2);exact ⟨h.can,h.ex⟩
 · have h1:=vcv (fun i=>(gbj hp h0 i).can) (fun i=>(gbj hq Dh i).can) k (prs p.cs p.cs.length) (prs q.cs q.cs.length);have h2:=jb8 p.cs p.cs.length (pj _);have h3:=jb8 q.cs q.cs.length (pj _);rw [pP] at h2 h3;have h4:ql p.cs < B32 ^ D:=by
    have:=hp.nr;obtain ⟨l,n,d,cs⟩:=p;rw [Pl.nr,if_neg (by simp only [Pl.lv] at h0; omega)] at this;exact this
   have h5:ql q.cs < B32 ^ G:=by
    have:=hq.nr;obtain ⟨l,n,d,cs⟩:=q;rw [Pl.nr,if_neg (by simp only [Pl.lv] at Dh; omega)] at this;exact this
   rw [wk];refine sw h1 (sw (Re h2 h3) ?_);exact Nat.mul_lt_mul'' h4 h5
 · refine py (kbo _ _ _ _) ?_;rw [ybi];have h1:=kaz p.cs p.cs.length;have h2:=kaz q.cs q.cs.length;exact py (Re (py h1 Ff) (py h2 Ou)) (by decide)
end Go.Proofs.YtcepajijiabkmaaGreat
