/- Layer 22: recpoly.add of two. -/
import Derived.Test.YtheefiaoimbeiaaGreatDoorMp15
set_option linter.unusedSimpArgs false
set_option linter.unusedVariables false
namespace Go.Proofs.YtheefiaoimbeiaaGreatDoor
open Lib (hid)
open Go.RowKit
theorem Fit.copy {p:Pl} {E D:Nat} (h:Fit p E D) (hE:E<=1000):p.sz<=1099511627776:=po h.sz (po (tT (show E+2<=1002 by omega) 4) (by decide))
theorem gfc {w:World} {qa qb:Nat->Prop} {p q:Pl} {A0 A1 B0 B1:Option Addr} {n0 c0 c1 m0 d0 d1:Nat} (hp:PlV w qa p (plV p (.slice A0 n0 c0) (.slice A1 p.cs.length c1))) (hq:PlV w qb q (plV q (.slice B0 m0 d0) (.slice B1 q.cs.length d1))) (T:TypeId) :
 jdk (w.alloc (.cells #[.int .i64 p.lv,.bool p.neg,.slice A0 n0 c0,.slice A1 p.cs.length c1,.int .i64 q.lv,.bool q.neg,.slice B0 m0 d0,.slice B1 q.cs.length d1] T)) (fun _=>True) [p,q] (some ⟨w.heap.size,0,none⟩) 0:=by
 refine ⟨⟨⟨w.heap.size,0,none⟩,_,_,rfl,by simp,trivial,?_,(hp.ext ((Ext.refl w).alloc _)).mono fun _ _=>trivial⟩,⟨⟨w.heap.size,0,none⟩,_,_,rfl,by simp,trivial,?_,(hq.ext ((Ext.refl w).alloc _)).mono fun _ _=>trivial⟩,trivial⟩
 · refine ⟨?_,?_,?_,?_⟩ <;> simp [go_sem,kdo]
 · refine ⟨?_,?_,?_,?_⟩ <;> simp [go_sem,kdo]
theorem qfe {w:World} {qa:Nat->Prop} {p q:Pl} {A:Option Addr} {c E D:Nat} (hp:Fit p E D) (hq:Fit q E D) (hE:E<=1000000) (hD:D+1<=17592186044000) (hc1:2<=c) (hc2:c<=9223372036854775807) (h:jdk w qa [p,q] A 0) :
 Calls Tryz.prog 96 #[.slice A 2 c] w (gdl (fun b=>w.heap.size<=b) (p.add q) w):=by
 have h1:=kfe (E:=E) (D:=D+1) [p,q] A c hE hD (fun x hx=>by
  simp only [pI,rM,or_false] at hx;rcases hx with rfl | rfl
  · exact ⟨hp.can,hp.ex⟩
  · exact ⟨hq.can,hq.ex⟩) (by
  have:=hp.nr; have:=hq.nr;rw [lnr,lnr,lnr,pP];have:2<=B32:=by decide
  have:=pX (B32 ^ D) this
  omega) (by simp) hc1 hc2 h
 rw [yf7] at h1;exact h1
set_option maxRecDepth 100000
set_option maxHeartbeats 8000000
theorem jdm.set {W:World} {g:Nat} {p q:Pl} {s A s' A':Value} (h:jdm W g p s A) :
 jdm ((((W.setCell ⟨g,0,none⟩ (.int .i64 q.lv)).setCell ⟨g,1,none⟩ (.bool q.neg)).setCell ⟨g,2,none⟩ s').setCell ⟨g,3,none⟩ A') g q s' A':=by
 obtain ⟨h0,h1,h2,h3⟩:=h;have e:∀ (W:World) (i j:Nat) (v:Value),i ≠ j->(W.setCell ⟨g,j,none⟩ v).cell? ⟨g,i,none⟩=W.cell? ⟨g,i,none⟩:=fun W i j v hij=>pe _ _ _ _ (by intro e; injection e; omega)
 refine ⟨?_,?_,?_,?_⟩
 · rw [e _ 0 3 _ (by omega),e _ 0 2 _ (by omega),e _ 0 1 _ (by omega)];exact pG _ _ _ h0
 · rw [e _ 1 3 _ (by omega),e _ 1 2 _ (by omega)];exact pG _ _ _ ((e _ 1 0 _ (by omega)).trans h1)
 · rw [e _ 2 3 _ (by omega)];exact pG _ _ _ ((e _ 2 1 _ (by omega)).trans ((e _ 2 0 _ (by omega)).trans h2))
 · exact pG _ _ _ ((e _ 3 2 _ (by omega)).trans ((e _ 3 1 _ (by omega)).trans ((e _ 3 0 _ (by omega)).trans h3)))
theorem zd6 (W:World) (g:Nat) (a b c d:Value) (k:Nat) (h:k ≠ g):((((W.setCell ⟨g,0,none⟩ a).setCell ⟨g,1,none⟩ b).setCell ⟨g,2,none⟩ c).setCell ⟨g,3,none⟩ d).heap[k]?=W.heap[k]?:=by
 rw [Below.heap_setCell _ _ _ k h,Below.heap_setCell _ _ _ k h,Below.heap_setCell _ _ _ k h,Below.heap_setCell _ _ _ k h]
theorem jdm.jz {W:World} {g:Nat} {p:Pl} {A0 A1:Option Addr} {n0 c0 n1 c1:Nat} (h:jdm W g p (.slice A0 n0 c0) (.slice A1 n1 c1)) (x y z u:Value) {v:Value} {ds:List Nat} (hv:zb1 W v ds) :
 zb1 ((((W.setCell ⟨g,0,none⟩ x).setCell ⟨g,1,none⟩ y).setCell ⟨g,2,none⟩ z).setCell ⟨g,3,none⟩ u) v ds:=by
 obtain ⟨h0,h1,h2,h3⟩:=h;refine (((hv.box h0 rfl _).box (u:=.bool p.neg) ?_ rfl _).box (u:=.slice A0 n0 c0) ?_ rfl _).box (u:=.slice A1 n1 c1) ?_ rfl _
 · rw [pe _ _ _ _ (by simp)]; exact h1
 · rw [pe _ _ _ _ (by simp),pe _ _ _ _ (by simp)]; exact h2
 · rw [pe _ _ _ _ (by simp),pe _ _ _ _ (by simp),pe _ _ _ _ (by simp)]; exact h3
theorem jdm.jf {W:World} {g:Nat} {p:Pl} {A0 A1:Option Addr} {n0 c0 n1 c1:Nat} (h:jdm W g p (.slice A0 n0 c0) (.slice A1 n1 c1)) (x y z u:Value) {q q':Nat->Prop} {t:Pl} {v:Value} (ht:PlV W q t v) (hq:∀ b,b < W.heap.size->q b->b ≠ g/\q' b) :
 PlV ((((W.setCell ⟨g,0,none⟩ x).setCell ⟨g,1,none⟩ y).setCell ⟨g,2,none⟩ z).setCell ⟨g,3,none⟩ u) q' t v:=
 PlV.qO (by simp [World.setCell]) (fun _ _ hv=>h.jz x y z u hv) (fun b hlt hb=>⟨(hq b hlt hb).2,zd6 _ _ _ _ _ _ _ (hq b hlt hb).1⟩) ht
structure vea (w : World) (a b : Pl) (sa Aa sb Ab : Value) (wc : World) : Prop where
 ext:Ext w wc
 size:wc.heap.size=w.heap.size+1+1+1
 box:jdm wc w.heap.size a sa Aa
 box':jdm wc (w.heap.size+1) b sb Ab
 zero:zdl wc (w.heap.size+1+1)
theorem vea.swap {w W:World} {a b:Pl} {sa Aa sb Ab:Value} (h:vea w a b sa Aa sb Ab W) :
 vea w b a sb Ab sa Aa ((((((((W.setCell ⟨w.heap.size,0,none⟩ (.int .i64 b.lv)).setCell ⟨w.heap.size,1,none⟩ (.bool b.neg)).setCell ⟨w.heap.size,2,none⟩ sb).setCell ⟨w.heap.size,3,none⟩ Ab).setCell ⟨w.heap.size+1,0,none⟩ (.int .i64 a.lv)).setCell ⟨w.heap.size+1,1,none⟩ (.bool a.neg)).setCell ⟨w.heap.size+1,2,none⟩ sa).setCell ⟨w.heap.size+1,3,none⟩ Aa):=by
 obtain ⟨h1,h2,h3,h4,h5⟩:=h;obtain ⟨W1,hW1⟩:=n_m (((((W.setCell ⟨w.heap.size,0,none⟩ (.int .i64 b.lv)).setCell ⟨w.heap.size,1,none⟩ (.bool b.neg)).setCell ⟨w.heap.size,2,none⟩ sb).setCell ⟨w.heap.size,3,none⟩ Ab));rw [hW1];have k1:Ext w W1:=by
  rw [<- hW1];exact (((h1.setCell (pf _) _).setCell (pf _) _).setCell (pf _) _).setCell (pf _) _
 have kb:jdm W1 w.heap.size b sb Ab:=by rw [<- hW1]; exact h3.set
 have kh:∀ k,k ≠ w.heap.size->W1.heap[k]?=W.heap[k]?:=fun k hk=>by rw [<- hW1]; exact zd6 _ _ _ _ _ _ k hk
 have kf:∀ a,W1.frozen? a=W.frozen? a:=fun a=>by rw [<- hW1]; simp only [pJ]
 have ks:W1.heap.size=W.heap.size:=by rw [<- hW1]; simp [World.setCell]
 have kb':jdm W1 (w.heap.size+1) b sb Ab:=h4.ql (kh _ (by omega));refine ⟨(((k1.setCell (by show w.heap.size<=w.heap.size+1; omega) _).setCell (by show w.heap.size<=w.heap.size+1; omega) _).setCell (by show w.heap.size<=w.heap.size+1; omega) _).setCell (by show w.heap.size<=w.heap.size+1; omega) _,by simp [World.setCell]; omega,kb.ql (zd6 _ _ _ _ _ _ _ (by omega)),kb'.set,?_⟩;have hh:((((W1.setCell ⟨w.heap.size+1,0,none⟩ (.int .i64 a.lv)).setCell ⟨w.heap.size+1,1,none⟩ (.bool a.neg)).setCell ⟨w.heap.size+1,2,none⟩ sa).setCell ⟨w.heap.size+1,3,none⟩ Aa).heap[w.heap.size+1+1]?=W.heap[w.heap.size+1+1]?:=(zd6 _ _ _ _ _ _ _ (by omega)).trans (kh _ (by omega));obtain ⟨⟨z0,z1,z2,z3⟩,zf⟩:=h5;refine ⟨⟨(ph (a:=⟨w.heap.size+1+1,0,none⟩) hh).trans z0,(ph (a:=⟨w.heap.size+1+1,1,none⟩) hh).trans z1,(ph (a:=⟨w.heap.size+1+1,2,none⟩) hh).trans z2,(ph (a:=⟨w.heap.size+1+1,3,none⟩) hh).trans z3⟩,fun i=>?_⟩;simp only [pJ];rw [kf];exact zf i
structure qel (w0 : World) (E L : Nat) (a b : Pl) (va vb : Value) : Prop where
 ca:a.Can
 cb:b.Can
 len:a.cs.length<=E
 dig:a.ds.length+b.ds.length<=L
 pa:PlV w0 (fun _=>True) a va
 pb:PlV w0 (fun _=>True) b vb
 ord:b.lv<=a.lv
 ne:a.lv=b.lv->a.lv=0
 ih:∀ k (hk:k < a.cs.length) x,PlV w0 (fun _=>True) a.cs[k] x->∀ W',Ext w0 W'->Calls Tryz.prog 131 #[x,vb] W' (gdl (fun i=>W'.heap.size<=i) (a.cs[k].mul b) W')
theorem kfd {w0 w : World} {E D F G : Nat} (p q : Pl) (v u : Value) (hp : Fit p E D) (hq : Fit q F G) (hE : E <= 1000000) (hF : F <= 1000000) (hD : D + G <= 35184372088000)
 (h:PlV w0 (fun _=>True) p v) (k:PlV w0 (fun _=>True) q u) (hx:Ext w0 w) (hne:p.lv=q.lv->p.lv=0)
 (ihp:∀ a ∈ p.cs,∀ x,PlV w0 (fun _=>True) a x->∀ W',Ext w0 W'->Calls Tryz.prog 131 #[x,u] W' (gdl (fun i=>W'.heap.size<=i) (a.mul q) W'))
 (ihq:∀ a ∈ q.cs,∀ x,PlV w0 (fun _=>True) a x->∀ W',Ext w0 W'->Calls Tryz.prog 131 #[x,v] W' (gdl (fun i=>W'.heap.size<=i) (a.mul p) W')) :
 Calls Tryz.prog 131 #[v,u] w (gdl (fun i=>w.heap.size<=i) (p.mul q) w):=by
 have hlen:∀ (r:Pl) (E D:Nat),Fit r E D->r.cs.length<=E+1:=fun r E D hr=>by
  obtain ⟨l,n,d,cs⟩:=r
  by_cases hl:0 < l
  · exact hr.len hl
  · have:=hr.can;unfold Pl.Can at this;rcases this with h | h
    · simp [Pl.cs,h.2.1]
    · omega
 have hd1:=po p.yA hp.dm;have hd2:=po q.yA hq.dm;have HH:=hid h;have HK:=hid k;obtain ⟨A0,n0,c0,A,c,rfl,-,-,-,-⟩:=h.open_;obtain ⟨B0,m0,d0,B,d,rfl,-,-,-,-⟩:=k.open_;have HPQ:Hid (q.lv<=p.lv->qel w0 1000001 35184372088000 p q (plV p (.slice A0 n0 c0) (.slice A p.cs.length c)) (plV q (.slice B0 m0 d0) (.slice B q.cs.length d))):=by
  have:q.lv<=p.lv->qel w0 1000001 35184372088000 p q (plV p (.slice A0 n0 c0) (.slice A p.cs.length c)) (plV q (.slice B0 m0 d0) (.slice B q.cs.length d)):=fun hl =>
   ⟨hp.can,hq.can,by have:=hlen p E D hp; omega,by omega,HH.out,HK.out,hl,hne,fun k hk x hxv=>ihp _ (pt hk) x hxv⟩
  exact this
 have HQP:Hid (p.lv < q.lv->qel w0 1000001 35184372088000 q p (plV q (.slice B0 m0 d0) (.slice B q.cs.length d)) (plV p (.slice A0 n0 c0) (.slice A p.cs.length c))):=by
  have:p.lv < q.lv->qel w0 1000001 35184372088000 q p (plV q (.slice B0 m0 d0) (.slice B q.cs.length d)) (plV p (.slice A0 n0 c0) (.slice A p.cs.length c)):=fun hl =>
   ⟨hq.can,hp.can,by have:=hlen q F G hq; omega,by omega,HK.out,HH.out,by omega,fun e=>by omega,fun k hk x hxv=>ihq _ (pt hk) x hxv⟩
  exact this
 have HCM:=hid (Pl.mul_comm p q);have HX0:=hid hx;clear h k ihp ihq hne hlen hd1 hd2 hp hq hE hF hD hx HH HK;obtain ⟨W,hW⟩:=n_m (((w.alloc (.cells #[.int .i64 p.lv,.bool p.neg,.slice A0 n0 c0,.slice A p.cs.length c] 44)).alloc (.cells #[.int .i64 q.lv,.bool q.neg,.slice B0 m0 d0,.slice B q.cs.length d] 44)).alloc (.cells #[.int .i64 0,.bool false,.slice none 0 0,.slice none 0 0] 44));have hcut:vea w p q (.slice A0 n0 c0) (.slice A p.cs.length c) (.slice B0 m0 d0) (.slice B q.cs.length d) W:=by
  rw [<- hW];refine ⟨(((Ext.refl w).alloc _).alloc _).alloc _,by simp,(jdm.new w p _ _ _).ext (((Ext.refl _).alloc _).alloc _) (by simp),?_,?_⟩
  · have h1:=jdm.new (w.alloc (.cells #[.int .i64 p.lv,.bool p.neg,.slice A0 n0 c0,.slice A p.cs.length c] 44)) q (.slice B0 m0 d0) (.slice B q.cs.length d) 44;have h2:=h1.ext ((Ext.refl _).alloc (.cells #[.int .i64 0,.bool false,.slice none 0 0,.slice none 0 0] 44)) (by simp);simpa using h2
  · have h1:=zdl.new ((w.alloc (.cells #[.int .i64 p.lv,.bool p.neg,.slice A0 n0 c0,.slice A p.cs.length c] 44)).alloc (.cells #[.int .i64 q.lv,.bool q.neg,.slice B0 m0 d0,.slice B q.cs.length d] 44)) 44;simpa using h1
 have hf1:∀ i,W.frozen? ⟨w.heap.size,i,none⟩=false:=fun i=>by rw [<- hW]; simp [go_sem]
 have hf2:∀ i,W.frozen? ⟨w.heap.size+1,i,none⟩=false:=fun i=>by rw [<- hW]; simp [go_sem]
 have akX:=hid hcut;obtain ⟨b0,b1,b2,b3⟩:=hcut.box;obtain ⟨e0,e1,e2,e3⟩:=hcut.box';have hWs:=hcut.size;clear hcut;unfold plV;go_enter Tryz.func131,Tryz.ntmps131
 go_upto_if 21 with fail
 go_cut [] from 22 to 23 (fun wc=>Hid ((p.lv < q.lv/\vea w q p (.slice B0 m0 d0) (.slice B q.cs.length d) (.slice A0 n0 c0) (.slice A p.cs.length c) wc)\/(q.lv<=p.lv/\vea w p q (.slice A0 n0 c0) (.slice A p.cs.length c) (.slice B0 m0 d0) (.slice B q.cs.length d) wc)))
 case first =>
  by_cases hlt:p.lv < q.lv
  · have HF:=hid akX.out.swap;have HL:=hid hlt;clear hW;go_wp2_with fail
    go_meet
    exact hid (Or.inl ⟨HL.out,HF.out⟩)
  · have hle:q.lv<=p.lv:=by omega
    have HL:=hid hle;clear hW;go_wp2_with fail
    go_meet
    exact hid (Or.inr ⟨HL.out,akX.out⟩)
 case rest =>
 obtain ⟨a,b,sa1,sa2,sa3,A',ca,sb1,sb2,sb3,B',cb,hh,hm,hc⟩:∃ (a b:Pl) (sa1:Option Addr) (sa2 sa3:Nat) (A':Option Addr) (ca:Nat) (sb1:Option Addr) (sb2 sb3:Nat) (B':Option Addr) (cb:Nat),qel w0 1000001 35184372088000 a b (plV a (.slice sa1 sa2 sa3) (.slice A' a.cs.length ca)) (plV b (.slice sb1 sb2 sb3) (.slice B' b.cs.length cb))/\p.mul q=a.mul b/\vea w a b (.slice sa1 sa2 sa3) (.slice A' a.cs.length ca) (.slice sb1 sb2 sb3) (.slice B' b.cs.length cb) wc:=by
  rcases hcut.out with ⟨h1,h2⟩ | ⟨h1,h2⟩
  · exact ⟨q,p,_,_,_,_,_,_,_,_,_,_,HQP.out h1,HCM.out,h2⟩
  · exact ⟨p,q,_,_,_,_,_,_,_,_,_,_,HPQ.out h1,rfl,h2⟩
 clear hcut HPQ HQP HCM akX b0 b1 b2 b3 e0 e1 e2 e3 hf1 hf2 hW hWs;have HM:=hid hm;clear hm;have HC:=hid hc;have HH:=hid hh;obtain ⟨b0,b1,b2,b3⟩:=hc.box;obtain ⟨e0,e1,e2,e3⟩:=hc.box';have hcs:=hc.size;have HZA:=hid (gd0 a _ (hh.pa.ext (HX0.out.trans hc.ext)));clear hc hh;unfold plV at HZA;go_wp2_with fail;clear b0 b1 b2 b3 e0 e1 e2 e3;refine HZA.out.mono ?_;rintro e w1 ⟨rfl,x1⟩;have HZB:Hid (Calls Tryz.prog 146 #[plV b (.slice sb1 sb2 sb3) (.slice B' b.cs.length cb)] w1 fun e w'=>e=.returned (.bool b.xw)/\Ext w1 w'):=gd0 b _ (HH.out.pb.ext ((HX0.out.trans HC.out.ext).trans x1));unfold plV at HZB;have hb1:=HC.out.box.ext x1 (by omega);have hb2:=HC.out.box'.ext x1 (by omega);have hz1:=HC.out.zero.ext x1 (by omega);have hs1:=x1.size;have HB1:=hid hb1;have HB2:=hid hb2;have HZ1:=hid hz1;have X1:=hid (HC.out.ext.trans x1);obtain ⟨b0,b1,b2,b3⟩:=hb1;obtain ⟨e0,e1,e2,e3⟩:=hb2;obtain ⟨⟨z0,z1,z2,z3⟩,zf⟩:=hz1;clear x1 HZA
 by_cases ha0:a.xw=true
 · rw [ha0];have HF:Hid (gdl (fun i=>w.heap.size<=i) (p.mul q) w (.returned (plV Pl.zero (.slice none 0 0) (.slice none 0 0))) ((((w1.setCell ⟨w.heap.size+1+1,0,none⟩ (.int .i64 Pl.zero.lv)).setCell ⟨w.heap.size+1+1,1,none⟩ (.bool Pl.zero.neg)).setCell ⟨w.heap.size+1+1,2,none⟩ (.slice none 0 0)).setCell ⟨w.heap.size+1+1,3,none⟩ (.slice none 0 0))):=by
    have e:p.mul q=Pl.zero:=by rw [HM.out,(Pl.qN HH.out.ca).1 ha0,Pl.xV]
    rw [e];exact zdm (p:=Pl.zero) (q:=fun _=>False) X1.out (by omega) HZ1.out (Pl.qV _ _ none 0 (by omega)) (fun b _ h=>h.elim)
   simp only [Pl.zero,Pl.lv,Pl.neg] at HF;clear ha0 HZB;go_wp2_with fail;exact bodyPost_ret (v:=plV Pl.zero (.slice none 0 0) (.slice none 0 0)) (by simp [results,uT,go_sem,z0,z1,z2,z3,plV,Pl.zero,Pl.lv,Pl.neg]) rfl HF.out
 have asn:a.xw=false:=by simpa using ha0
 rw [asn];have HA0:=hid ha0;clear ha0 asn;go_wp2_with fail;clear b0 b1 b2 b3 e0 e1 e2 e3 z0 z1 z2 z3 zf;refine HZB.out.mono ?_;rintro e w2 ⟨rfl,x2⟩;have hb1:=HB1.out.ext x2 (by omega);have hb2:=HB2.out.ext x2 (by omega);have hz1:=HZ1.out.ext x2 (by omega);have hs2:=x2.size;have HB3:=hid hb1;have HB4:=hid hb2;have HZ2:=hid hz1;have X2:=hid (X1.out.trans x2);obtain ⟨b0,b1,b2,b3⟩:=hb1;obtain ⟨e0,e1,e2,e3⟩:=hb2;obtain ⟨⟨z0,z1,z2,z3⟩,zf⟩:=hz1;clear x2 HZB HB1 HB2 HZ1 X1
 by_cases hb0:b.xw=true
 · rw [hb0];have HF:Hid (gdl (fun i=>w.heap.size<=i) (p.mul q) w (.returned (plV Pl.zero (.slice none 0 0) (.slice none 0 0))) ((((w2.setCell ⟨w.heap.size+1+1,0,none⟩ (.int .i64 Pl.zero.lv)).setCell ⟨w.heap.size+1+1,1,none⟩ (.bool Pl.zero.neg)).setCell ⟨w.heap.size+1+1,2,none⟩ (.slice none 0 0)).setCell ⟨w.heap.size+1+1,3,none⟩ (.slice none 0 0))):=by
    have e:p.mul q=Pl.zero:=by rw [HM.out,(Pl.qN HH.out.cb).1 hb0,Pl.zB]
    rw [e];exact zdm (p:=Pl.zero) (q:=fun _=>False) X2.out (by omega) HZ2.out (Pl.qV _ _ none 0 (by omega)) (fun b _ h=>h.elim)
   simp only [Pl.zero,Pl.lv,Pl.neg] at HF;clear hb0;go_wp2_with fail;exact bodyPost_ret (v:=plV Pl.zero (.slice none 0 0) (.slice none 0 0)) (by simp [results,uT,go_sem,z0,z1,z2,z3,plV,Pl.zero,Pl.lv,Pl.neg]) rfl HF.out
 have asc:b.xw=false:=by simpa using hb0
 rw [asc];have HB0:=hid hb0;clear hb0 asc;have asg:=HH.out.ca.qp;have asa:=HH.out.cb.qp;have aq5:=HH.out.ord;have hne:=HH.out.ne
 by_cases hl:a.lv=0
 · have hbl:b.lv=0:=by omega
   have HAL:=hid (kef HH.out.ca hl);have HBL:=hid (kef HH.out.cb hbl);have hpa:=HH.out.pa.ext (HX0.out.trans X2.out);have hpb:=HH.out.pb.ext (HX0.out.trans X2.out);have hia:wdl w2 (.agg #[.bool a.neg,.slice sa1 sa2 sa3]) a.z a.ds.length:=by
    obtain ⟨A1,n1,c1,A2,c2,e,hn,-⟩:=hpa.open_;unfold plV at e;simp only [rS,rX,ru,and_true,true_and] at e;rw [e.1];exact ⟨_,_,_,rfl,hn,rfl,pf _⟩
   have hib:wdl w2 (.agg #[.bool b.neg,.slice sb1 sb2 sb3]) b.z b.ds.length:=by
    obtain ⟨A1,n1,c1,A2,c2,e,hn,-⟩:=hpb.open_;unfold plV at e;simp only [rS,rX,ru,and_true,true_and] at e;rw [e.1];exact ⟨_,_,_,rfl,hn,rfl,pf _⟩
   have HMU:=hid (jdz _ _ a.z b.z _ _ w2 hia hib HH.out.dig);have q1:(a.lv == 0)=true:=by simpa using hl
   have hlz:a.lv=0:=hl;have HLA:=hid hl;clear hpa hpb hia hib hbl hl asg asa aq5 hne hlz;go_wp2_with fail;clear b0 b1 b2 b3 e0 e1 e2 e3 z0 z1 z2 z3 zf;refine HMU.out.mono ?_;rintro e w3 ⟨x,rfl,⟨v1,rfl,hv1⟩,x3⟩;obtain ⟨A1,d1,rfl,-⟩:=id hv1;have hz3:=HZ2.out.ext x3 (by omega);have HF:Hid (gdl (fun i=>w.heap.size<=i) (p.mul q) w (.returned (plV (Pl.const (a.z * b.z)) (.slice A1 (dg (a.z * b.z).natAbs).length d1) (.slice none 0 0))) ((((w3.setCell ⟨w.heap.size+1+1,0,none⟩ (.int .i64 0)).setCell ⟨w.heap.size+1+1,1,none⟩ (.bool (decide (a.z * b.z < 0)))).setCell ⟨w.heap.size+1+1,2,none⟩ (.slice A1 (dg (a.z * b.z).natAbs).length d1)).setCell ⟨w.heap.size+1+1,3,none⟩ (.slice none 0 0))):=by
    have e:p.mul q=Pl.const (a.z * b.z):=by rw [HM.out,<- Pl.yh,<- HAL.out,<- HBL.out]
    rw [e];exact zdm (p:=Pl.const (a.z * b.z)) (q:=fun _=>False) (X2.out.trans x3) (by omega) hz3 (PlV.mk (t:=Pl.const (a.z * b.z)) hv1 (pf _) (by simp [Pl.cs,Pl.const]) (by unfold Pl.const Pl.cs jdk; trivial)) (fun b _ h=>h.elim)
   obtain ⟨⟨z0,z1,z2,z3⟩,zf⟩:=hz3;clear x3 HMU hv1;generalize a.z * b.z=z at *;go_wp2_with fail;exact bodyPost_ret (v:=plV (Pl.const z) (.slice A1 (dg z.natAbs).length d1) (.slice none 0 0)) (by simp [results,uT,go_sem,z0,z1,z2,z3,plV,Pl.const,Pl.lv,Pl.neg]) rfl HF.out
 · have hlt:b.lv < a.lv:=by
    have:a.lv ≠ b.lv:=fun e=>hl (hne e)
    omega
   have HUP:=hid (Pl.yN HH.out.ca HH.out.cb hlt (fun e=>HB0.out ((Pl.qN HH.out.cb).2 e)));have q1:(a.lv == 0)=false:=by simpa using hl
   have hlen:=HH.out.len;obtain ⟨A1,n1,c1,A2,c2,e,-,hl1,hl2,hat⟩:=HH.out.pa.open_;unfold plV at e;simp only [rS,rX,ru,and_true,true_and,Value.slice.injEq] at e;obtain ⟨-,rfl,rfl⟩:=e;have HAT:=hid hat;obtain ⟨V,hmk,hVx,hVs,aaC⟩:=jd9 (a.cs.length:Int) (by omega) (by omega) w2;rw [rV] at hmk aaC;have aeB:=hid (aaC (fun i=>w2.heap.size<=i));have HVX:=hid hVx;obtain ⟨f0,f1,f2,f3⟩:=HB3.out.ext hVx (by omega);clear hat aaC hVx hl asg asa aq5 hne HA0;go_wp2_with fail;clear hmk b0 b1 b2 b3 e0 e1 e2 e3 f0 f1 f2 f3 z0 z1 z2 z3 zf
   go_loopw [55] (fun iv wr=>∃ k:Nat,k<=a.cs.length/\iv=.int .i64 k/\Hid ((∃ L:List Pl,L.length=a.cs.length/\L.take k=(a.cs.map fun c=>c.mul b).take k/\yd9 wr (fun i=>w2.heap.size<=i) w2.heap.size L)/\Ext w2 wr)) (fun iv _=>a.cs.length - (intOf iv).toNat)
   case atStart=>exact ⟨0,pM _,rfl,⟨⟨_,rp,by simp,aeB.out⟩,HVX.out⟩⟩
   case round =>
    obtain ⟨k,hk,rfl,⟨⟨L,hLl,hLt,aaC⟩,hx⟩⟩:=hrel;have HX:=hid hx;have acn:=hid aaC;have HLT:=hid hLt;have hws:=hx.size;obtain ⟨b0,b1,b2,b3⟩:=HB3.out.ext hx (by omega);have amZ:w2.heap.size < wr.heap.size:=aaC.1;clear hx aaC hLt HVX aeB
    by_cases hlt:k < a.cs.length
    · obtain ⟨ad,C0,j0,g0,C1,j1,g1,rfl,abW,hnd,hkt⟩:=jdk.kid HAT.out k hlt;have hxx:Ext w0 wr:=(HX0.out.trans X2.out).trans HX.out;obtain ⟨a0,a1,a2,a3⟩:=hnd.ext hxx (by rw [zc1]; exact abW);have HC2:=hid (fun W' (hxW:Ext wr W')=>HH.out.ih k hlt _ hkt W' (hxx.trans hxW));have ahg:Hid ((L.set k (a.cs[k].mul b)).take (k+1)=(a.cs.map fun c=>c.mul b).take (k+1)):=by
       have h1:=kd1 L (a.cs.map fun c=>c.mul b) k HLT.out (by omega) (by rw [pC]; exact hlt);rw [rJ] at h1;exact h1
      unfold plV at HC2;obtain ⟨U,hU⟩:=n_m (wr.alloc (.cells #[.int .i64 a.cs[k].lv,.bool a.cs[k].neg,.slice C0 j0 g0,.slice C1 j1 g1] 44));have hUx:Ext wr U:=by rw [<- hU]; exact (Ext.refl _).alloc _
      have hUs:U.heap.size=wr.heap.size+1:=by rw [<- hU]; simp
      obtain ⟨y0,y1,y2,y3⟩:jdm U wr.heap.size a.cs[k] (.slice C0 j0 g0) (.slice C1 j1 g1):=by rw [<- hU]; exact jdm.new wr a.cs[k] _ _ _
      obtain ⟨e0,e1,e2,e3⟩:=HB4.out.ext (HX.out.trans hUx) (by omega);have HUX:=hid hUx;generalize aed:a.cs[k].mul b=res at *;generalize a.cs[k]=ck at *;clear hnd hkt abW hxx HLT aed hUx;go_wp2_with fail;clear hU y0 y1 y2 y3;refine (HC2.out _ HUX.out).mono ?_;rintro e w3 ⟨v3,rfl,p3,x3⟩;have x3':Ext wr w3:=HUX.out.trans x3;obtain ⟨C0,j0,f0,C1,f1,rfl,-⟩:=id p3.open_;have hr3:=acn.out.ext x3';obtain ⟨D0,n2,g0,D1,n3,g1,⟨r0,r1,r2,r3⟩,-⟩:=hr3.2.2 k (by omega);have hfr:=hr3.2.1;have hst:=(hr3.qG k (by omega) res (p3.mono fun i hi=>by
       have hi':wr.heap.size+1<=i:=by rw [<- hUs]; exact hi
       exact ⟨by omega,by omega⟩)).1
      simp only at r0 r1 r2 r3;have HST:=hid hst;have X3:=hid (HX.out.trans x3');unfold plV;clear hr3 hst p3 x3 x3' HC2 acn a0 a1 a2 a3 b0 b1 b2 b3 e0 e1 e2 e3 HUX hUs;go_wp2_with fail
      go_roundw
      case rel=>exact ⟨k+1,by omega,by go_num,⟨_,by rw [pN]; exact hLl,ahg.out,HST.out⟩,(((X3.out.setCell (pf _) _).setCell (pf _) _).setCell (pf _) _).setCell (pf _) _⟩
      case measure=>simp [intOf]; omega
    · have hke:k=a.cs.length:=by omega
      have hLe:L=a.cs.map fun c=>c.mul b:=by
       have h:=HLT.out;rw [hke,show a.cs.length=(a.cs.map fun c=>c.mul b).length by rw [pC],pw,pC,<- hLl,pw] at h;exact h
      have hz3:=HZ2.out.ext HX.out (by omega);have acb:=acn.out.fin (pf _);rw [hLe] at acb;have HF:Hid (gdl (fun i=>w.heap.size<=i) (p.mul q) w (.returned (plV (.mk a.lv false [] (a.cs.map fun c=>c.mul b)) (.slice none 0 0) (.slice (some ⟨w2.heap.size,0,none⟩) a.cs.length a.cs.length))) ((((wr.setCell ⟨w.heap.size+1+1,0,none⟩ (.int .i64 a.lv)).setCell ⟨w.heap.size+1+1,1,none⟩ (.bool false)).setCell ⟨w.heap.size+1+1,2,none⟩ (.slice none 0 0)).setCell ⟨w.heap.size+1+1,3,none⟩ (.slice (some ⟨w2.heap.size,0,none⟩) a.cs.length a.cs.length))):=by
       rw [HM.out,HUP.out];have h1:=PlV.mk (t:=.mk a.lv false [] (a.cs.map fun c=>c.mul b)) (c:=a.cs.length) (zb1.nil wr) (by simp [Pl.cs]) (by omega) acb;rw [show (Pl.mk a.lv false [] (a.cs.map fun c=>c.mul b)).cs.length=a.cs.length by simp [Pl.cs]] at h1;exact zdm (p:=.mk a.lv false [] (a.cs.map fun c=>c.mul b)) (q':=fun i=>w.heap.size<=i) (X2.out.trans HX.out) (by omega) hz3 h1 (fun b _ hb=>⟨by omega,by omega⟩)
      obtain ⟨⟨z0,z1,z2,z3⟩,zf⟩:=hz3;clear acb acn HLT hLe;go_wp2_with fail;exact bodyPost_ret (v:=plV (.mk a.lv false [] (a.cs.map fun c=>c.mul b)) (.slice none 0 0) (.slice (some ⟨w2.heap.size,0,none⟩) a.cs.length a.cs.length)) (by simp [results,uT,go_sem,z0,z1,z2,z3,plV,Pl.lv,Pl.neg]) rfl HF.out
end Go.Proofs.YtheefiaoimbeiaaGreatDoor
