/- Layer 22: recpoly.mul where the levels differ, or both are 0. -/
import Derived.Test.YtheefiaoimbeiaaGreatDoorMt5
import Derived.Test.YtheefiaoimbeiaaGreatDoorMt6
import Derived.Deep.CutBlock
import Derived.Test.YtheefiaoimbeiaaGreatDoorMt8
import Derived.Test.YtheefiaoimbeiaaGreatDoorMt7
import Derived.Test.YtheefiaoimbeiaaGreatDoorMt3
set_option linter.unusedSimpArgs false
set_option linter.unusedVariables false
set_option maxRecDepth 100000
set_option maxHeartbeats 8000000
namespace Go.Proofs.YtheefiaoimbeiaaGreatDoor
open Go.RowKit
theorem ql.set {W:World} {g:Nat} {p q:Pl} {s A s' A':Value} (h:ql W g p s A) :
 ql ((((W.setCell ⟨g,0,none⟩ (.int .i64 q.lv)).setCell ⟨g,1,none⟩ (.bool q.neg)).setCell ⟨g,2,none⟩ s').setCell ⟨g,3,none⟩ A') g q s' A':=by
 obtain ⟨h0,h1,h2,h3⟩:=h;have e:∀ (W:World) (i j:Nat) (v:Value),i ≠ j->(W.setCell ⟨g,j,none⟩ v).cell? ⟨g,i,none⟩=W.cell? ⟨g,i,none⟩:=fun W i j v hij=>World.cell?_setCell_other _ _ _ _ (by intro e; injection e; omega)
 refine ⟨?_,?_,?_,?_⟩
 · rw [e _ 0 3 _ (by omega),e _ 0 2 _ (by omega),e _ 0 1 _ (by omega)];exact World.cell?_setCell_same _ _ _ h0
 · rw [e _ 1 3 _ (by omega),e _ 1 2 _ (by omega)];exact World.cell?_setCell_same _ _ _ ((e _ 1 0 _ (by omega)).trans h1)
 · rw [e _ 2 3 _ (by omega)];exact World.cell?_setCell_same _ _ _ ((e _ 2 1 _ (by omega)).trans ((e _ 2 0 _ (by omega)).trans h2))
 · exact World.cell?_setCell_same _ _ _ ((e _ 3 2 _ (by omega)).trans ((e _ 3 1 _ (by omega)).trans ((e _ 3 0 _ (by omega)).trans h3)))
theorem jam (W:World) (g:Nat) (a b c d:Value) (k:Nat) (h:k ≠ g):((((W.setCell ⟨g,0,none⟩ a).setCell ⟨g,1,none⟩ b).setCell ⟨g,2,none⟩ c).setCell ⟨g,3,none⟩ d).heap[k]?=W.heap[k]?:=by
 rw [Below.heap_setCell _ _ _ k h,Below.heap_setCell _ _ _ k h,Below.heap_setCell _ _ _ k h,Below.heap_setCell _ _ _ k h]
theorem ql.nat_ {W:World} {g:Nat} {p:Pl} {A0 A1:Option Addr} {n0 c0 n1 c1:Nat} (h:ql W g p (.slice A0 n0 c0) (.slice A1 n1 c1)) (x y z u:Value) {v:Value} {ds:List Nat} (hv:ja W v ds) :
 ja ((((W.setCell ⟨g,0,none⟩ x).setCell ⟨g,1,none⟩ y).setCell ⟨g,2,none⟩ z).setCell ⟨g,3,none⟩ u) v ds:=by
 obtain ⟨h0,h1,h2,h3⟩:=h;refine (((hv.box h0 rfl _).box (u:=.bool p.neg) ?_ rfl _).box (u:=.slice A0 n0 c0) ?_ rfl _).box (u:=.slice A1 n1 c1) ?_ rfl _
 · rw [World.cell?_setCell_other _ _ _ _ (by simp)]; exact h1
 · rw [World.cell?_setCell_other _ _ _ _ (by simp),World.cell?_setCell_other _ _ _ _ (by simp)]; exact h2
 · rw [World.cell?_setCell_other _ _ _ _ (by simp),World.cell?_setCell_other _ _ _ _ (by simp),World.cell?_setCell_other _ _ _ _ (by simp)]; exact h3
theorem ql.keep {W:World} {g:Nat} {p:Pl} {A0 A1:Option Addr} {n0 c0 n1 c1:Nat} (h:ql W g p (.slice A0 n0 c0) (.slice A1 n1 c1)) (x y z u:Value) {q q':Nat->Prop} {t:Pl} {v:Value} (ht:PlV W q t v) (hq:∀ b,b < W.heap.size->q b->b ≠ g/\q' b) :
 PlV ((((W.setCell ⟨g,0,none⟩ x).setCell ⟨g,1,none⟩ y).setCell ⟨g,2,none⟩ z).setCell ⟨g,3,none⟩ u) q' t v:=
 PlV.turn_ (by simp [World.setCell]) (fun _ _ hv=>h.nat_ x y z u hv) (fun b hlt hb=>⟨(hq b hlt hb).2,jam _ _ _ _ _ _ _ (hq b hlt hb).1⟩) ht
structure xar (w : World) (a b : Pl) (sa Aa sb Ab : Value) (wc : World) : Prop where
 ext:Ext w wc
 size:wc.heap.size=w.heap.size+1+1+1
 box:ql wc w.heap.size a sa Aa
 box':ql wc (w.heap.size+1) b sb Ab
 zero:yh wc (w.heap.size+1+1)
theorem xar.swap {w W:World} {a b:Pl} {sa Aa sb Ab:Value} (h:xar w a b sa Aa sb Ab W) :
 xar w b a sb Ab sa Aa ((((((((W.setCell ⟨w.heap.size,0,none⟩ (.int .i64 b.lv)).setCell ⟨w.heap.size,1,none⟩ (.bool b.neg)).setCell ⟨w.heap.size,2,none⟩ sb).setCell ⟨w.heap.size,3,none⟩ Ab).setCell ⟨w.heap.size+1,0,none⟩ (.int .i64 a.lv)).setCell ⟨w.heap.size+1,1,none⟩ (.bool a.neg)).setCell ⟨w.heap.size+1,2,none⟩ sa).setCell ⟨w.heap.size+1,3,none⟩ Aa):=by
 obtain ⟨h1,h2,h3,h4,h5⟩:=h;obtain ⟨W1,hW1⟩:=n_m (((((W.setCell ⟨w.heap.size,0,none⟩ (.int .i64 b.lv)).setCell ⟨w.heap.size,1,none⟩ (.bool b.neg)).setCell ⟨w.heap.size,2,none⟩ sb).setCell ⟨w.heap.size,3,none⟩ Ab));rw [hW1];have k1:Ext w W1:=by
  rw [<- hW1];exact (((h1.setCell (Nat.le_refl _) _).setCell (Nat.le_refl _) _).setCell (Nat.le_refl _) _).setCell (Nat.le_refl _) _
 have kb:ql W1 w.heap.size b sb Ab:=by rw [<- hW1]; exact h3.set
 have kh:∀ k,k ≠ w.heap.size->W1.heap[k]?=W.heap[k]?:=fun k hk=>by rw [<- hW1]; exact jam _ _ _ _ _ _ k hk
 have kf:∀ a,W1.frozen? a=W.frozen? a:=fun a=>by rw [<- hW1]; simp only [World.frozen?_setCell]
 have ks:W1.heap.size=W.heap.size:=by rw [<- hW1]; simp [World.setCell]
 have kb':ql W1 (w.heap.size+1) b sb Ab:=h4.turn (kh _ (by omega));refine ⟨(((k1.setCell (by show w.heap.size<=w.heap.size+1; omega) _).setCell (by show w.heap.size<=w.heap.size+1; omega) _).setCell (by show w.heap.size<=w.heap.size+1; omega) _).setCell (by show w.heap.size<=w.heap.size+1; omega) _,by simp [World.setCell]; omega,kb.turn (jam _ _ _ _ _ _ _ (by omega)),kb'.set,?_⟩;have hh:((((W1.setCell ⟨w.heap.size+1,0,none⟩ (.int .i64 a.lv)).setCell ⟨w.heap.size+1,1,none⟩ (.bool a.neg)).setCell ⟨w.heap.size+1,2,none⟩ sa).setCell ⟨w.heap.size+1,3,none⟩ Aa).heap[w.heap.size+1+1]?=W.heap[w.heap.size+1+1]?:=(jam _ _ _ _ _ _ _ (by omega)).trans (kh _ (by omega));obtain ⟨⟨z0,z1,z2,z3⟩,zf⟩:=h5;refine ⟨⟨(World.cell?_of_block (a:=⟨w.heap.size+1+1,0,none⟩) hh).trans z0,(World.cell?_of_block (a:=⟨w.heap.size+1+1,1,none⟩) hh).trans z1,(World.cell?_of_block (a:=⟨w.heap.size+1+1,2,none⟩) hh).trans z2,(World.cell?_of_block (a:=⟨w.heap.size+1+1,3,none⟩) hh).trans z3⟩,fun i=>?_⟩;simp only [World.frozen?_setCell];rw [kf];exact zf i
structure va1 (w0 : World) (E L : Nat) (a b : Pl) (va vb : Value) : Prop where
 ca:a.Can
 cb:b.Can
 len:a.cs.length<=E
 dig:a.ds.length+b.ds.length<=L
 pa:PlV w0 (fun _=>True) a va
 pb:PlV w0 (fun _=>True) b vb
 ord:b.lv<=a.lv
 ne:a.lv=b.lv->a.lv=0
 ih:∀ k (hk:k < a.cs.length) x,PlV w0 (fun _=>True) a.cs[k] x->∀ W',Ext w0 W'->Calls Tryz.prog 131 #[x,vb] W' (ji (fun i=>W'.heap.size<=i) (a.cs[k].mul b) W')
theorem qbs {w0 w : World} {E D F G : Nat} (p q : Pl) (v u : Value) (hp : Fit p E D) (hq : Fit q F G) (hE : E <= 1000000) (hF : F <= 1000000) (hD : D + G <= 35184372088000)
 (h:PlV w0 (fun _=>True) p v) (k:PlV w0 (fun _=>True) q u) (hx:Ext w0 w) (hne:p.lv=q.lv->p.lv=0)
 (ihp:∀ a ∈ p.cs,∀ x,PlV w0 (fun _=>True) a x->∀ W',Ext w0 W'->Calls Tryz.prog 131 #[x,u] W' (ji (fun i=>W'.heap.size<=i) (a.mul q) W'))
 (ihq:∀ a ∈ q.cs,∀ x,PlV w0 (fun _=>True) a x->∀ W',Ext w0 W'->Calls Tryz.prog 131 #[x,v] W' (ji (fun i=>W'.heap.size<=i) (a.mul p) W')) :
 Calls Tryz.prog 131 #[v,u] w (ji (fun i=>w.heap.size<=i) (p.mul q) w):=by
 have hlen:∀ (r:Pl) (E D:Nat),Fit r E D->r.cs.length<=E+1:=fun r E D hr=>by
  obtain ⟨l,n,d,cs⟩:=r
  by_cases hl:0 < l
  · exact hr.len hl
  · have:=hr.can;unfold Pl.Can at this;rcases this with h | h
    · simp [Pl.cs,h.2.1]
    · omega
 have hd1:=Nat.le_trans p.dm_ds hp.dm;have hd2:=Nat.le_trans q.dm_ds hq.dm;have HH:=Lib.hid h;have HK:=Lib.hid k;obtain ⟨A0,n0,c0,A,c,rfl,-,-,-,-⟩:=h.open_;obtain ⟨B0,m0,d0,B,d,rfl,-,-,-,-⟩:=k.open_;have HPQ:Hid (q.lv<=p.lv->va1 w0 1000001 35184372088000 p q (plV p (.slice A0 n0 c0) (.slice A p.cs.length c)) (plV q (.slice B0 m0 d0) (.slice B q.cs.length d))):=by
  have:q.lv<=p.lv->va1 w0 1000001 35184372088000 p q (plV p (.slice A0 n0 c0) (.slice A p.cs.length c)) (plV q (.slice B0 m0 d0) (.slice B q.cs.length d)):=fun hl =>
   ⟨hp.can,hq.can,by have:=hlen p E D hp; omega,by omega,HH.out,HK.out,hl,hne,fun k hk x hxv=>ihp _ (List.getElem_mem hk) x hxv⟩
  exact this
 have HQP:Hid (p.lv < q.lv->va1 w0 1000001 35184372088000 q p (plV q (.slice B0 m0 d0) (.slice B q.cs.length d)) (plV p (.slice A0 n0 c0) (.slice A p.cs.length c))):=by
  have:p.lv < q.lv->va1 w0 1000001 35184372088000 q p (plV q (.slice B0 m0 d0) (.slice B q.cs.length d)) (plV p (.slice A0 n0 c0) (.slice A p.cs.length c)):=fun hl =>
   ⟨hq.can,hp.can,by have:=hlen q F G hq; omega,by omega,HK.out,HH.out,by omega,fun e=>by omega,fun k hk x hxv=>ihq _ (List.getElem_mem hk) x hxv⟩
  exact this
 have HCM:=Lib.hid (Pl.mul_comm p q);have HX0:=Lib.hid hx;clear h k ihp ihq hne hlen hd1 hd2 hp hq hE hF hD hx HH HK;obtain ⟨W,hW⟩:=n_m (((w.alloc (.cells #[.int .i64 p.lv,.bool p.neg,.slice A0 n0 c0,.slice A p.cs.length c] 44)).alloc (.cells #[.int .i64 q.lv,.bool q.neg,.slice B0 m0 d0,.slice B q.cs.length d] 44)).alloc (.cells #[.int .i64 0,.bool false,.slice none 0 0,.slice none 0 0] 44));have hcut:xar w p q (.slice A0 n0 c0) (.slice A p.cs.length c) (.slice B0 m0 d0) (.slice B q.cs.length d) W:=by
  rw [<- hW];refine ⟨(((Ext.refl w).alloc _).alloc _).alloc _,by simp,(ql.new w p _ _ _).ext (((Ext.refl _).alloc _).alloc _) (by simp),?_,?_⟩
  · have h1:=ql.new (w.alloc (.cells #[.int .i64 p.lv,.bool p.neg,.slice A0 n0 c0,.slice A p.cs.length c] 44)) q (.slice B0 m0 d0) (.slice B q.cs.length d) 44;have h2:=h1.ext ((Ext.refl _).alloc (.cells #[.int .i64 0,.bool false,.slice none 0 0,.slice none 0 0] 44)) (by simp);simpa using h2
  · have h1:=yh.new ((w.alloc (.cells #[.int .i64 p.lv,.bool p.neg,.slice A0 n0 c0,.slice A p.cs.length c] 44)).alloc (.cells #[.int .i64 q.lv,.bool q.neg,.slice B0 m0 d0,.slice B q.cs.length d] 44)) 44;simpa using h1
 have hf1:∀ i,W.frozen? ⟨w.heap.size,i,none⟩=false:=fun i=>by rw [<- hW]; simp [go_sem]
 have hf2:∀ i,W.frozen? ⟨w.heap.size+1,i,none⟩=false:=fun i=>by rw [<- hW]; simp [go_sem]
 have HCUT:=Lib.hid hcut;obtain ⟨b0,b1,b2,b3⟩:=hcut.box;obtain ⟨e0,e1,e2,e3⟩:=hcut.box';have hWs:=hcut.size;clear hcut;unfold plV;go_enter Tryz.func131,Tryz.ntmps131
 go_upto_if 21 with fail
 go_cut [] from 22 to 23 (fun wc=>Hid ((p.lv < q.lv/\xar w q p (.slice B0 m0 d0) (.slice B q.cs.length d) (.slice A0 n0 c0) (.slice A p.cs.length c) wc)\/(q.lv<=p.lv/\xar w p q (.slice A0 n0 c0) (.slice A p.cs.length c) (.slice B0 m0 d0) (.slice B q.cs.length d) wc)))
 case first =>
  by_cases hlt:p.lv < q.lv
  · have HF:=Lib.hid HCUT.out.swap;have HL:=Lib.hid hlt;clear hW;go_wp2_with fail
    go_meet
    exact Lib.hid (Or.inl ⟨HL.out,HF.out⟩)
  · have hle:q.lv<=p.lv:=by omega
    have HL:=Lib.hid hle;clear hW;go_wp2_with fail
    go_meet
    exact Lib.hid (Or.inr ⟨HL.out,HCUT.out⟩)
 case rest =>
 obtain ⟨a,b,sa1,sa2,sa3,A',ca,sb1,sb2,sb3,B',cb,hh,hm,hc⟩:∃ (a b:Pl) (sa1:Option Addr) (sa2 sa3:Nat) (A':Option Addr) (ca:Nat) (sb1:Option Addr) (sb2 sb3:Nat) (B':Option Addr) (cb:Nat),va1 w0 1000001 35184372088000 a b (plV a (.slice sa1 sa2 sa3) (.slice A' a.cs.length ca)) (plV b (.slice sb1 sb2 sb3) (.slice B' b.cs.length cb))/\p.mul q=a.mul b/\xar w a b (.slice sa1 sa2 sa3) (.slice A' a.cs.length ca) (.slice sb1 sb2 sb3) (.slice B' b.cs.length cb) wc:=by
  rcases hcut.out with ⟨h1,h2⟩ | ⟨h1,h2⟩
  · exact ⟨q,p,_,_,_,_,_,_,_,_,_,_,HQP.out h1,HCM.out,h2⟩
  · exact ⟨p,q,_,_,_,_,_,_,_,_,_,_,HPQ.out h1,rfl,h2⟩
 clear hcut HPQ HQP HCM HCUT b0 b1 b2 b3 e0 e1 e2 e3 hf1 hf2 hW hWs;have HM:=Lib.hid hm;clear hm;have HC:=Lib.hid hc;have HH:=Lib.hid hh;obtain ⟨b0,b1,b2,b3⟩:=hc.box;obtain ⟨e0,e1,e2,e3⟩:=hc.box';have hcs:=hc.size;have HZA:=Lib.hid (uah a _ (hh.pa.ext (HX0.out.trans hc.ext)));clear hc hh;unfold plV at HZA;go_wp2_with fail;clear b0 b1 b2 b3 e0 e1 e2 e3;refine HZA.out.mono ?_;rintro e w1 ⟨rfl,x1⟩;have HZB:Hid (Calls Tryz.prog 146 #[plV b (.slice sb1 sb2 sb3) (.slice B' b.cs.length cb)] w1 fun e w'=>e=.returned (.bool b.isZ)/\Ext w1 w'):=uah b _ (HH.out.pb.ext ((HX0.out.trans HC.out.ext).trans x1));unfold plV at HZB;have hb1:=HC.out.box.ext x1 (by omega);have hb2:=HC.out.box'.ext x1 (by omega);have hz1:=HC.out.zero.ext x1 (by omega);have hs1:=x1.size;have HB1:=Lib.hid hb1;have HB2:=Lib.hid hb2;have HZ1:=Lib.hid hz1;have X1:=Lib.hid (HC.out.ext.trans x1);obtain ⟨b0,b1,b2,b3⟩:=hb1;obtain ⟨e0,e1,e2,e3⟩:=hb2;obtain ⟨⟨z0,z1,z2,z3⟩,zf⟩:=hz1;clear x1 HZA
 by_cases ha0:a.isZ=true
 · rw [ha0];have HF:Hid (ji (fun i=>w.heap.size<=i) (p.mul q) w (.returned (plV Pl.zero (.slice none 0 0) (.slice none 0 0))) ((((w1.setCell ⟨w.heap.size+1+1,0,none⟩ (.int .i64 Pl.zero.lv)).setCell ⟨w.heap.size+1+1,1,none⟩ (.bool Pl.zero.neg)).setCell ⟨w.heap.size+1+1,2,none⟩ (.slice none 0 0)).setCell ⟨w.heap.size+1+1,3,none⟩ (.slice none 0 0))):=by
    have e:p.mul q=Pl.zero:=by rw [HM.out,(Pl.zero_isZ HH.out.ca).1 ha0,Pl.mul_zero_l]
    rw [e];exact qi (p:=Pl.zero) (q:=fun _=>False) X1.out (by omega) HZ1.out (Pl.zero_v _ _ none 0 (by omega)) (fun b _ h=>h.elim)
   simp only [Pl.zero,Pl.lv,Pl.neg] at HF;clear ha0 HZB;go_wp2_with fail;exact bodyPost_ret (v:=plV Pl.zero (.slice none 0 0) (.slice none 0 0)) (by simp [results,Tryz.results131,go_sem,z0,z1,z2,z3,plV,Pl.zero,Pl.lv,Pl.neg]) rfl HF.out
 have ha0':a.isZ=false:=by simpa using ha0
 rw [ha0'];have HA0:=Lib.hid ha0;clear ha0 ha0';go_wp2_with fail;clear b0 b1 b2 b3 e0 e1 e2 e3 z0 z1 z2 z3 zf;refine HZB.out.mono ?_;rintro e w2 ⟨rfl,x2⟩;have hb1:=HB1.out.ext x2 (by omega);have hb2:=HB2.out.ext x2 (by omega);have hz1:=HZ1.out.ext x2 (by omega);have hs2:=x2.size;have HB3:=Lib.hid hb1;have HB4:=Lib.hid hb2;have HZ2:=Lib.hid hz1;have X2:=Lib.hid (X1.out.trans x2);obtain ⟨b0,b1,b2,b3⟩:=hb1;obtain ⟨e0,e1,e2,e3⟩:=hb2;obtain ⟨⟨z0,z1,z2,z3⟩,zf⟩:=hz1;clear x2 HZB HB1 HB2 HZ1 X1
 by_cases hb0:b.isZ=true
 · rw [hb0];have HF:Hid (ji (fun i=>w.heap.size<=i) (p.mul q) w (.returned (plV Pl.zero (.slice none 0 0) (.slice none 0 0))) ((((w2.setCell ⟨w.heap.size+1+1,0,none⟩ (.int .i64 Pl.zero.lv)).setCell ⟨w.heap.size+1+1,1,none⟩ (.bool Pl.zero.neg)).setCell ⟨w.heap.size+1+1,2,none⟩ (.slice none 0 0)).setCell ⟨w.heap.size+1+1,3,none⟩ (.slice none 0 0))):=by
    have e:p.mul q=Pl.zero:=by rw [HM.out,(Pl.zero_isZ HH.out.cb).1 hb0,Pl.mul_zero_r]
    rw [e];exact qi (p:=Pl.zero) (q:=fun _=>False) X2.out (by omega) HZ2.out (Pl.zero_v _ _ none 0 (by omega)) (fun b _ h=>h.elim)
   simp only [Pl.zero,Pl.lv,Pl.neg] at HF;clear hb0;go_wp2_with fail;exact bodyPost_ret (v:=plV Pl.zero (.slice none 0 0) (.slice none 0 0)) (by simp [results,Tryz.results131,go_sem,z0,z1,z2,z3,plV,Pl.zero,Pl.lv,Pl.neg]) rfl HF.out
 have hb0':b.isZ=false:=by simpa using hb0
 rw [hb0'];have HB0:=Lib.hid hb0;clear hb0 hb0';have halv:=HH.out.ca.lv_nonneg;have hblv:=HH.out.cb.lv_nonneg;have hord:=HH.out.ord;have hne:=HH.out.ne
 by_cases hl:a.lv=0
 · have hbl:b.lv=0:=by omega
   have HAL:=Lib.hid (gav HH.out.ca hl);have HBL:=Lib.hid (gav HH.out.cb hbl);have hpa:=HH.out.pa.ext (HX0.out.trans X2.out);have hpb:=HH.out.pb.ext (HX0.out.trans X2.out);have hia:jg w2 (.agg #[.bool a.neg,.slice sa1 sa2 sa3]) a.z a.ds.length:=by
    obtain ⟨A1,n1,c1,A2,c2,e,hn,-⟩:=hpa.open_;unfold plV at e;simp only [Value.agg.injEq,Array.mk.injEq,List.cons.injEq,and_true,true_and] at e;rw [e.1];exact ⟨_,_,_,rfl,hn,rfl,Nat.le_refl _⟩
   have hib:jg w2 (.agg #[.bool b.neg,.slice sb1 sb2 sb3]) b.z b.ds.length:=by
    obtain ⟨A1,n1,c1,A2,c2,e,hn,-⟩:=hpb.open_;unfold plV at e;simp only [Value.agg.injEq,Array.mk.injEq,List.cons.injEq,and_true,true_and] at e;rw [e.1];exact ⟨_,_,_,rfl,hn,rfl,Nat.le_refl _⟩
   have HMU:=Lib.hid (kam _ _ a.z b.z _ _ w2 hia hib HH.out.dig);have q1:(a.lv == 0)=true:=by simpa using hl
   have hlz:a.lv=0:=hl;have HLA:=Lib.hid hl;clear hpa hpb hia hib hbl hl halv hblv hord hne hlz;go_wp2_with fail;clear b0 b1 b2 b3 e0 e1 e2 e3 z0 z1 z2 z3 zf;refine HMU.out.mono ?_;rintro e w3 ⟨x,rfl,⟨v1,rfl,hv1⟩,x3⟩;obtain ⟨A1,d1,rfl,-⟩:=id hv1;have hz3:=HZ2.out.ext x3 (by omega);have HF:Hid (ji (fun i=>w.heap.size<=i) (p.mul q) w (.returned (plV (Pl.const (a.z * b.z)) (.slice A1 (dg (a.z * b.z).natAbs).length d1) (.slice none 0 0))) ((((w3.setCell ⟨w.heap.size+1+1,0,none⟩ (.int .i64 0)).setCell ⟨w.heap.size+1+1,1,none⟩ (.bool (decide (a.z * b.z < 0)))).setCell ⟨w.heap.size+1+1,2,none⟩ (.slice A1 (dg (a.z * b.z).natAbs).length d1)).setCell ⟨w.heap.size+1+1,3,none⟩ (.slice none 0 0))):=by
    have e:p.mul q=Pl.const (a.z * b.z):=by rw [HM.out,<- Pl.const_mul,<- HAL.out,<- HBL.out]
    rw [e];exact qi (p:=Pl.const (a.z * b.z)) (q:=fun _=>False) (X2.out.trans x3) (by omega) hz3 (PlV.mk (t:=Pl.const (a.z * b.z)) hv1 (Nat.le_refl _) (by simp [Pl.cs,Pl.const]) (by unfold Pl.const Pl.cs jf; trivial)) (fun b _ h=>h.elim)
   obtain ⟨⟨z0,z1,z2,z3⟩,zf⟩:=hz3;clear x3 HMU hv1;generalize a.z * b.z=z at *;go_wp2_with fail;exact bodyPost_ret (v:=plV (Pl.const z) (.slice A1 (dg z.natAbs).length d1) (.slice none 0 0)) (by simp [results,Tryz.results131,go_sem,z0,z1,z2,z3,plV,Pl.const,Pl.lv,Pl.neg]) rfl HF.out
 · have hlt:b.lv < a.lv:=by
    have:a.lv ≠ b.lv:=fun e=>hl (hne e)
    omega
   have HUP:=Lib.hid (Pl.mul_up_ HH.out.ca HH.out.cb hlt (fun e=>HB0.out ((Pl.zero_isZ HH.out.cb).2 e)));have q1:(a.lv == 0)=false:=by simpa using hl
   have hlen:=HH.out.len;obtain ⟨A1,n1,c1,A2,c2,e,-,hl1,hl2,hat⟩:=HH.out.pa.open_;unfold plV at e;simp only [Value.agg.injEq,Array.mk.injEq,List.cons.injEq,and_true,true_and,Value.slice.injEq] at e;obtain ⟨-,rfl,rfl⟩:=e;have HAT:=Lib.hid hat;obtain ⟨V,hmk,hVx,hVs,hrow⟩:=xaq (a.cs.length:Int) (by omega) (by omega) w2;rw [Int.toNat_natCast] at hmk hrow;have HROW:=Lib.hid (hrow (fun i=>w2.heap.size<=i));have HVX:=Lib.hid hVx;obtain ⟨f0,f1,f2,f3⟩:=HB3.out.ext hVx (by omega);clear hat hrow hVx hl halv hblv hord hne HA0;go_wp2_with fail;clear hmk b0 b1 b2 b3 e0 e1 e2 e3 f0 f1 f2 f3 z0 z1 z2 z3 zf
   go_loopw [55] (fun iv wr=>∃ k:Nat,k<=a.cs.length/\iv=.int .i64 k/\Hid ((∃ L:List Pl,L.length=a.cs.length/\L.take k=(a.cs.map fun c=>c.mul b).take k/\wap wr (fun i=>w2.heap.size<=i) w2.heap.size L)/\Ext w2 wr)) (fun iv _=>a.cs.length - (intOf iv).toNat)
   case atStart=>exact ⟨0,Nat.zero_le _,rfl,⟨⟨_,List.length_replicate,by simp,HROW.out⟩,HVX.out⟩⟩
   case round =>
    obtain ⟨k,hk,rfl,⟨⟨L,hLl,hLt,hrow⟩,hx⟩⟩:=hrel;have HX:=Lib.hid hx;have HROWk:=Lib.hid hrow;have HLT:=Lib.hid hLt;have hws:=hx.size;obtain ⟨b0,b1,b2,b3⟩:=HB3.out.ext hx (by omega);have hRlt:w2.heap.size < wr.heap.size:=hrow.1;clear hx hrow hLt HVX HROW
    by_cases hlt:k < a.cs.length
    · obtain ⟨ad,C0,j0,g0,C1,j1,g1,rfl,hadb,hnd,hkt⟩:=jf.kid HAT.out k hlt;have hxx:Ext w0 wr:=(HX0.out.trans X2.out).trans HX.out;obtain ⟨a0,a1,a2,a3⟩:=hnd.ext hxx (by rw [jb]; exact hadb);have HC2:=Lib.hid (fun W' (hxW:Ext wr W')=>HH.out.ih k hlt _ hkt W' (hxx.trans hxW));have HSET:Hid ((L.set k (a.cs[k].mul b)).take (k+1)=(a.cs.map fun c=>c.mul b).take (k+1)):=by
       have h1:=xai L (a.cs.map fun c=>c.mul b) k HLT.out (by omega) (by rw [List.length_map]; exact hlt);rw [List.getElem_map] at h1;exact h1
      unfold plV at HC2;obtain ⟨U,hU⟩:=n_m (wr.alloc (.cells #[.int .i64 a.cs[k].lv,.bool a.cs[k].neg,.slice C0 j0 g0,.slice C1 j1 g1] 44));have hUx:Ext wr U:=by rw [<- hU]; exact (Ext.refl _).alloc _
      have hUs:U.heap.size=wr.heap.size+1:=by rw [<- hU]; simp
      obtain ⟨y0,y1,y2,y3⟩:ql U wr.heap.size a.cs[k] (.slice C0 j0 g0) (.slice C1 j1 g1):=by rw [<- hU]; exact ql.new wr a.cs[k] _ _ _
      obtain ⟨e0,e1,e2,e3⟩:=HB4.out.ext (HX.out.trans hUx) (by omega);have HUX:=Lib.hid hUx;generalize hres:a.cs[k].mul b=res at *;generalize a.cs[k]=ck at *;clear hnd hkt hadb hxx HLT hres hUx;go_wp2_with fail;clear hU y0 y1 y2 y3;refine (HC2.out _ HUX.out).mono ?_;rintro e w3 ⟨v3,rfl,p3,x3⟩;have x3':Ext wr w3:=HUX.out.trans x3;obtain ⟨C0,j0,f0,C1,f1,rfl,-⟩:=id p3.open_;have hr3:=HROWk.out.ext x3';obtain ⟨D0,n2,g0,D1,n3,g1,⟨r0,r1,r2,r3⟩,-⟩:=hr3.2.2 k (by omega);have hfr:=hr3.2.1;have hst:=(hr3.set_ k (by omega) res (p3.mono fun i hi=>by
       have hi':wr.heap.size+1<=i:=by rw [<- hUs]; exact hi
       exact ⟨by omega,by omega⟩)).1
      simp only at r0 r1 r2 r3;have HST:=Lib.hid hst;have X3:=Lib.hid (HX.out.trans x3');unfold plV;clear hr3 hst p3 x3 x3' HC2 HROWk a0 a1 a2 a3 b0 b1 b2 b3 e0 e1 e2 e3 HUX hUs;go_wp2_with fail
      go_roundw
      case rel=>exact ⟨k+1,by omega,by go_num,⟨_,by rw [List.length_set]; exact hLl,HSET.out,HST.out⟩,(((X3.out.setCell (Nat.le_refl _) _).setCell (Nat.le_refl _) _).setCell (Nat.le_refl _) _).setCell (Nat.le_refl _) _⟩
      case measure=>simp [intOf]; omega
    · have hke:k=a.cs.length:=by omega
      have hLe:L=a.cs.map fun c=>c.mul b:=by
       have h:=HLT.out;rw [hke,show a.cs.length=(a.cs.map fun c=>c.mul b).length by rw [List.length_map],List.take_length,List.length_map,<- hLl,List.take_length] at h;exact h
      have hz3:=HZ2.out.ext HX.out (by omega);have hfin:=HROWk.out.fin (Nat.le_refl _);rw [hLe] at hfin;have HF:Hid (ji (fun i=>w.heap.size<=i) (p.mul q) w (.returned (plV (.mk a.lv false [] (a.cs.map fun c=>c.mul b)) (.slice none 0 0) (.slice (some ⟨w2.heap.size,0,none⟩) a.cs.length a.cs.length))) ((((wr.setCell ⟨w.heap.size+1+1,0,none⟩ (.int .i64 a.lv)).setCell ⟨w.heap.size+1+1,1,none⟩ (.bool false)).setCell ⟨w.heap.size+1+1,2,none⟩ (.slice none 0 0)).setCell ⟨w.heap.size+1+1,3,none⟩ (.slice (some ⟨w2.heap.size,0,none⟩) a.cs.length a.cs.length))):=by
       rw [HM.out,HUP.out];have h1:=PlV.mk (t:=.mk a.lv false [] (a.cs.map fun c=>c.mul b)) (c:=a.cs.length) (ja.nil wr) (by simp [Pl.cs]) (by omega) hfin;rw [show (Pl.mk a.lv false [] (a.cs.map fun c=>c.mul b)).cs.length=a.cs.length by simp [Pl.cs]] at h1;exact qi (p:=.mk a.lv false [] (a.cs.map fun c=>c.mul b)) (q':=fun i=>w.heap.size<=i) (X2.out.trans HX.out) (by omega) hz3 h1 (fun b _ hb=>⟨by omega,by omega⟩)
      obtain ⟨⟨z0,z1,z2,z3⟩,zf⟩:=hz3;clear hfin HROWk HLT hLe;go_wp2_with fail;exact bodyPost_ret (v:=plV (.mk a.lv false [] (a.cs.map fun c=>c.mul b)) (.slice none 0 0) (.slice (some ⟨w2.heap.size,0,none⟩) a.cs.length a.cs.length)) (by simp [results,Tryz.results131,go_sem,z0,z1,z2,z3,plV,Pl.lv,Pl.neg]) rfl HF.out
/- Layer 22: recpoly.Const, mul by a constant, scale, Scale, Neg. -/
set_option maxRecDepth 100000
set_option maxHeartbeats 8000000
theorem jg.lt {w:World} {x:Value} {z:Int} {L:Nat} (h:jg w x z L):z.natAbs < B32 ^ L:=by
 obtain ⟨n,s,ds,rfl,hn,hz,hl⟩:=h;rw [hz,uq];exact Nat.lt_of_lt_of_le (uab (ja.digs hn)) (Nat.pow_le_pow_right (by decide) hl)
theorem kbb {w:World} {s:Value} {z:Int} {L:Nat} (h:ja w s (dg z.natAbs)) (hL:(dg z.natAbs).length<=L):jg w (.agg #[.bool (decide (z < 0)),s]) z L:=⟨_,_,_,rfl,h,by rw [je,wal],hL⟩
theorem qb4 (z:Int) (s A:Value):plV (Pl.const z) s A=.agg #[.int .i64 0,.bool (decide (z < 0)),s,A]:=rfl
theorem xbf {w:World} {s:Value} {z:Int} (q:Nat->Prop) (h:ja w s (dg z.natAbs)):PlV w q (Pl.const z) (plV (Pl.const z) s (.slice none 0 0)):=
 PlV.mk (t:=Pl.const z) (A:=none) (c:=0) h (Nat.le_refl _) (by omega) (by unfold Pl.const Pl.cs jf; trivial)
theorem jax {w:World} {z:Int} {L:Nat} (v0:Value) (h0:jg w v0 z L) (hL:L<=35184372088832):Calls Tryz.prog 99 #[v0] w (ji (fun b=>w.heap.size<=b) (Pl.const z) w):=by
 have H0:=Lib.hid h0;obtain ⟨n0,s0,e0,rfl,⟨A0,c0,rfl,-,-,-⟩,-,-⟩:=h0;obtain ⟨W,hW⟩:=n_m ((w.alloc (.cells #[.bool n0,.slice A0 e0.length c0] 25)).alloc (.cells #[.int .i64 0,.bool false,.slice none 0 0,.slice none 0 0] 44));have hWx:Ext w W:=by rw [<- hW]; exact ((Ext.refl w).alloc _).alloc _
 have hWs:W.heap.size=w.heap.size+1+1:=by rw [<- hW]; simp
 have HX0:=Lib.hid hWx;have HS:Hid (∀ W',Ext W W'->(Ext w W'/\W'.cell? ⟨w.heap.size,0,none⟩=some (.bool n0)/\W'.cell? ⟨w.heap.size,1,none⟩=some (.slice A0 e0.length c0))):=by
  have:∀ W',Ext W W'->(Ext w W'/\W'.cell? ⟨w.heap.size,0,none⟩=some (.bool n0)/\W'.cell? ⟨w.heap.size,1,none⟩=some (.slice A0 e0.length c0)):=fun W' hx=>by
   obtain ⟨hc,hf⟩:=hx.cells;refine ⟨hWx.trans hx,?_,?_⟩ <;> (rw [hc _ _ (by omega),<- hW]; simp [go_sem])
  exact this
 have HZ:Hid (yh W (w.heap.size+1)):=by
  have:yh W (w.heap.size+1):=by
   rw [<- hW];refine ⟨⟨?_,?_,?_,?_⟩,fun i=>?_⟩ <;> simp [go_sem]
  exact this
 obtain ⟨-,b0,b1⟩:=HS.out W (Ext.refl W);clear hWx;go_enter Tryz.func99,Tryz.ntmps99;go_wp2_with fail;clear hW b0 b1;refine (jar _ z L _ (H0.out.ext HX0.out) hL).mono ?_;rintro e w1 ⟨z1,rfl,⟨y1,rfl,m1⟩,x1⟩;obtain ⟨C1,k1,rfl,-⟩:=id m1;have YY1:=Lib.hid (x1);have hzn:=HZ.out.ext YY1.out (by omega);have hsn:=(YY1.out:Ext W _).size
 have HF:Hid (ji (fun b=>w.heap.size<=b) (Pl.const z) w (.returned (plV (Pl.const z) (.slice C1 (dg z.natAbs).length k1) (.slice none 0 0))) ((((w1.setCell ⟨w.heap.size+1,0,none⟩ (.int .i64 0)).setCell ⟨w.heap.size+1,1,none⟩ (.bool (decide (z < 0)))).setCell ⟨w.heap.size+1,2,none⟩ (.slice C1 (dg z.natAbs).length k1)).setCell ⟨w.heap.size+1,3,none⟩ (.slice none 0 0))):=
  qi (p:=Pl.const z) (q:=fun _=>False) (HX0.out.trans YY1.out) (by omega) hzn (xbf _ m1) (fun b _ h=>h.elim)
 obtain ⟨⟨r0,r1,r2,r3⟩,rf⟩:=hzn;clear m1 x1 HS HZ;go_wp2_with fail;exact bodyPost_ret (v:=plV (Pl.const z) (.slice C1 (dg z.natAbs).length k1) (.slice none 0 0)) (by simp [results,Tryz.results99,go_sem,r0,r1,r2,r3,qb4]) rfl HF.out
theorem wcp (w0:World) (z:Int) (u:Value) (E D G:Nat) (hE:E<=1000000) (hD:D+G<=35184372088000) (hz:z.natAbs < B32 ^ G) (k:PlV w0 (fun _=>True) (Pl.const z) u) (n:Nat) :
 ∀ (p:Pl) (v:Value) (w:World),p.sz < n->Fit p E D->PlV w0 (fun _=>True) p v->Ext w0 w->Calls Tryz.prog 131 #[v,u] w (ji (fun i=>w.heap.size<=i) (p.mul (Pl.const z)) w):=by
 induction n with
 | zero=>intro p v w h; omega
 | succ n ih =>
   intro p v w hn hp h hx;refine qbs (F:=0) p (Pl.const z) v u hp (Fit.const hz) hE (by omega) hD h k hx (fun e=>e) (fun a h1 x pa W' hx'=>?_) (fun a h1=>by simp [Pl.const,Pl.cs] at h1);obtain ⟨l,ng,ds,cs⟩:=p;have hl:0 < l:=by
    have:=hp.can;unfold Pl.Can at this;rcases this with h | h
    · simp only [Pl.cs,h.2.1] at h1; cases h1
    · omega
   exact ih a x W' (by have:=Pl.sz_kid h1; omega) (hp.kid hl h1) pa hx'
theorem ycg {w:World} {q q':Nat->Prop} {z:Int} {E D G:Nat} (p:Pl) (v u:Value) (hp:Fit p E D) (hz:z.natAbs < B32 ^ G) (hE:E<=1000000) (hD:D+G<=35184372088000) (h:PlV w q p v) (k:PlV w q' (Pl.const z) u):Calls Tryz.prog 131 #[v,u] w (ji (fun i=>w.heap.size<=i) (p.mul (Pl.const z)) w):=
 wcp w z u E D G hE hD hz (k.mono fun _ _=>trivial) (p.sz+1) p v w (Nat.lt_succ_self _) hp (h.mono fun _ _=>trivial) (Ext.refl w)
theorem jbd {w:World} {p:Pl} {z:Int} {L E D:Nat} {q0:Nat->Prop} (v0:Value) (v1:Value) (h0:PlV w q0 p v0) (h1:jg w v1 z L) (hp:Fit p E D) (hE:E<=1000000) (hD:D+L<=35184372088000):Calls Tryz.prog 98 #[v0,v1] w (ji (fun b=>w.heap.size<=b) (p.mul (Pl.const z)) w):=by
 have H0:=Lib.hid h0;obtain ⟨A0,n0,c0,B0,d0,rfl,-,-,-,-⟩:=h0.open_;clear h0;have H1:=Lib.hid h1;obtain ⟨n1,s1,e1,rfl,⟨A1,c1,rfl,-,-,-⟩,-,-⟩:=h1;obtain ⟨W,hW⟩:=n_m (((w.alloc (.cells #[.int .i64 (p).lv,.bool (p).neg,.slice A0 n0 c0,.slice B0 (p).cs.length d0] 44)).alloc (.cells #[.bool n1,.slice A1 e1.length c1] 25)).alloc (.cells #[.int .i64 0,.bool false,.slice none 0 0,.slice none 0 0] 44));have hWx:Ext w W:=by rw [<- hW]; exact (((Ext.refl w).alloc _).alloc _).alloc _
 have hWs:W.heap.size=w.heap.size+1+1+1:=by rw [<- hW]; simp
 have HX0:=Lib.hid hWx;have HS:Hid (∀ W',Ext W W'->(Ext w W'/\W'.cell? ⟨w.heap.size,0,none⟩=some (.int .i64 (p).lv)/\W'.cell? ⟨w.heap.size,1,none⟩=some (.bool (p).neg)/\W'.cell? ⟨w.heap.size,2,none⟩=some (.slice A0 n0 c0)/\W'.cell? ⟨w.heap.size,3,none⟩=some (.slice B0 (p).cs.length d0)/\W'.cell? ⟨w.heap.size+1,0,none⟩=some (.bool n1)/\W'.cell? ⟨w.heap.size+1,1,none⟩=some (.slice A1 e1.length c1))):=by
  have:∀ W',Ext W W'->(Ext w W'/\W'.cell? ⟨w.heap.size,0,none⟩=some (.int .i64 (p).lv)/\W'.cell? ⟨w.heap.size,1,none⟩=some (.bool (p).neg)/\W'.cell? ⟨w.heap.size,2,none⟩=some (.slice A0 n0 c0)/\W'.cell? ⟨w.heap.size,3,none⟩=some (.slice B0 (p).cs.length d0)/\W'.cell? ⟨w.heap.size+1,0,none⟩=some (.bool n1)/\W'.cell? ⟨w.heap.size+1,1,none⟩=some (.slice A1 e1.length c1)):=fun W' hx=>by
   obtain ⟨hc,hf⟩:=hx.cells;refine ⟨hWx.trans hx,?_,?_,?_,?_,?_,?_⟩ <;> (rw [hc _ _ (by omega),<- hW]; simp [go_sem])
  exact this
 have HZ:Hid (yh W (w.heap.size+1+1)):=by
  have:yh W (w.heap.size+1+1):=by
   rw [<- hW];refine ⟨⟨?_,?_,?_,?_⟩,fun i=>?_⟩ <;> simp [go_sem]
  exact this
 have HS2:Hid (∀ W'' u0 u1 u2 u3,Ext W W''->∀ W',W'=(((W''.setCell ⟨w.heap.size+1+1,0,none⟩ u0).setCell ⟨w.heap.size+1+1,1,none⟩ u1).setCell ⟨w.heap.size+1+1,2,none⟩ u2).setCell ⟨w.heap.size+1+1,3,none⟩ u3->(Ext w W'/\W'.cell? ⟨w.heap.size,0,none⟩=some (.int .i64 (p).lv)/\W'.cell? ⟨w.heap.size,1,none⟩=some (.bool (p).neg)/\W'.cell? ⟨w.heap.size,2,none⟩=some (.slice A0 n0 c0)/\W'.cell? ⟨w.heap.size,3,none⟩=some (.slice B0 (p).cs.length d0)/\W'.cell? ⟨w.heap.size+1,0,none⟩=some (.bool n1)/\W'.cell? ⟨w.heap.size+1,1,none⟩=some (.slice A1 e1.length c1))):=by
  have:∀ W'' u0 u1 u2 u3,Ext W W''->∀ W',W'=(((W''.setCell ⟨w.heap.size+1+1,0,none⟩ u0).setCell ⟨w.heap.size+1+1,1,none⟩ u1).setCell ⟨w.heap.size+1+1,2,none⟩ u2).setCell ⟨w.heap.size+1+1,3,none⟩ u3->(Ext w W'/\W'.cell? ⟨w.heap.size,0,none⟩=some (.int .i64 (p).lv)/\W'.cell? ⟨w.heap.size,1,none⟩=some (.bool (p).neg)/\W'.cell? ⟨w.heap.size,2,none⟩=some (.slice A0 n0 c0)/\W'.cell? ⟨w.heap.size,3,none⟩=some (.slice B0 (p).cs.length d0)/\W'.cell? ⟨w.heap.size+1,0,none⟩=some (.bool n1)/\W'.cell? ⟨w.heap.size+1,1,none⟩=some (.slice A1 e1.length c1)):=fun W'' u0 u1 u2 u3 hx W' hW'=>by
   obtain ⟨s1,k0,k1,k2,k3,k4,k5⟩:=HS.out W'' hx;rw [hW'];refine ⟨(((s1.setCell (by simp; try omega) _).setCell (by simp; try omega) _).setCell (by simp; try omega) _).setCell (by simp; try omega) _,?_,?_,?_,?_,?_,?_⟩ <;> rw [World.cell?_setCell_other _ _ _ _ (by simp; try omega),World.cell?_setCell_other _ _ _ _ (by simp; try omega),World.cell?_setCell_other _ _ _ _ (by simp; try omega),World.cell?_setCell_other _ _ _ _ (by simp; try omega)] <;> assumption
  exact this
 have HFP:=Lib.hid hp;have HZL:=Lib.hid (jg.lt H1.out);clear hp;obtain ⟨-,b0,b1,b2,b3,b4,b5⟩:=HS.out W (Ext.refl W);clear hWx;unfold plV at *;go_enter Tryz.func98,Tryz.ntmps98;go_wp2_with fail;clear hW b0 b1 b2 b3 b4 b5;have yy0:Ext W W.drew:=(Ext.refl W).drew;have Y0:=Lib.hid yy0;clear yy0
 go_region_held3 (fun W' => Ext w W' /\ W'.cell? ⟨w.heap.size, 0, none⟩ = some (.int .i64 (p).lv) /\ W'.cell? ⟨w.heap.size, 1, none⟩ = some (.bool (p).neg) /\ W'.cell? ⟨w.heap.size, 2, none⟩ = some (.slice A0 n0 c0) /\ W'.cell? ⟨w.heap.size, 3, none⟩ = some (.slice B0 (p).cs.length d0) /\ W'.cell? ⟨w.heap.size + 1, 0, none⟩ = some (.bool n1) /\ W'.cell? ⟨w.heap.size + 1, 1, none⟩ = some (.slice A1 e1.length c1))
  (first | with_reducible exact HS.out _ Y0.out | with_reducible exact HS.out _ yy1 | with_reducible exact HS.out _ yy2 | exact HS2.out _ _ _ _ _ yy2 _ rfl)
  (first
    | (go_at_call 99
       refine (jax _ (H1.out.ext (HX0.out.trans Y0.out)) (by omega)).mono ?_;rintro e w1 ⟨z1,rfl,m1,x1⟩;obtain ⟨C1,i1,j1,D1,k1,rfl,-⟩:=id m1.open_;have yy1:Ext W w1:=Ext.trans Y0.out x1
       unfold plV)
    | (go_at_call 131
       refine (ycg (G:=L) p _ _ HFP.out HZL.out hE hD (H0.out.ext (HX0.out.trans yy1)) m1).mono ?_;rintro e w2 ⟨z2,rfl,m2,x2⟩;obtain ⟨C2,i2,j2,D2,k2,rfl,-⟩:=id m2.open_;have yy2:Ext W w2:=Ext.trans yy1 x2
       replace m1:=m1.ext x2
       obtain ⟨⟨r0,r1,r2,r3⟩,rf⟩:=HZ.out.ext yy2 (by omega)
       unfold plV))
 have hzn:=HZ.out.ext yy2 (by omega);have hsn:=(yy2:Ext W _).size;have hsp:=(yy1:Ext W _).size;have HF:=Lib.hid (qi (q':=fun b=>w.heap.size<=b) (HX0.out.trans yy2) (by omega) hzn m2 (fun b _ hb=>⟨by omega,by omega⟩));clear m2 x2 m1 x1 yy2 yy1 HS2 HS HZ
 try unfold plV
 go_wp2_with fail;exact bodyPost_ret (by simp [results,Tryz.results98,go_sem,r0,r1,r2,r3,plV]) rfl HF.out
theorem wbv {w:World} {p:Pl} {z:Int} {L E D:Nat} {q0:Nat->Prop} (v0:Value) (v1:Value) (h0:PlV w q0 p v0) (h1:jg w v1 z L) (hs0:∀ W',Ext w W'->Calls Tryz.prog 97 #[v0] W' (ji (fun b=>q0 b\/W'.heap.size<=b) p.nf W')) (hp:Fit p.nf E D) (hE:E<=1000) (hD:D+L<=35184372088000):Calls Tryz.prog 133 #[v0,v1] w (ji (fun b=>w.heap.size<=b) (p.nf.mul (Pl.const z)) w):=by
 have H0:=Lib.hid h0;obtain ⟨A0,n0,c0,B0,d0,rfl,-,-,-,-⟩:=h0.open_;clear h0;have H1:=Lib.hid h1;obtain ⟨n1,s1,e1,rfl,⟨A1,c1,rfl,-,-,-⟩,-,-⟩:=h1;obtain ⟨W,hW⟩:=n_m (((w.alloc (.cells #[.int .i64 (p).lv,.bool (p).neg,.slice A0 n0 c0,.slice B0 (p).cs.length d0] 44)).alloc (.cells #[.bool n1,.slice A1 e1.length c1] 25)).alloc (.cells #[.int .i64 0,.bool false,.slice none 0 0,.slice none 0 0] 44));have hWx:Ext w W:=by rw [<- hW]; exact (((Ext.refl w).alloc _).alloc _).alloc _
 have hWs:W.heap.size=w.heap.size+1+1+1:=by rw [<- hW]; simp
 have HX0:=Lib.hid hWx;have HS:Hid (∀ W',Ext W W'->(Ext w W'/\W'.cell? ⟨w.heap.size,0,none⟩=some (.int .i64 (p).lv)/\W'.cell? ⟨w.heap.size,1,none⟩=some (.bool (p).neg)/\W'.cell? ⟨w.heap.size,2,none⟩=some (.slice A0 n0 c0)/\W'.cell? ⟨w.heap.size,3,none⟩=some (.slice B0 (p).cs.length d0)/\W'.cell? ⟨w.heap.size+1,0,none⟩=some (.bool n1)/\W'.cell? ⟨w.heap.size+1,1,none⟩=some (.slice A1 e1.length c1))):=by
  have:∀ W',Ext W W'->(Ext w W'/\W'.cell? ⟨w.heap.size,0,none⟩=some (.int .i64 (p).lv)/\W'.cell? ⟨w.heap.size,1,none⟩=some (.bool (p).neg)/\W'.cell? ⟨w.heap.size,2,none⟩=some (.slice A0 n0 c0)/\W'.cell? ⟨w.heap.size,3,none⟩=some (.slice B0 (p).cs.length d0)/\W'.cell? ⟨w.heap.size+1,0,none⟩=some (.bool n1)/\W'.cell? ⟨w.heap.size+1,1,none⟩=some (.slice A1 e1.length c1)):=fun W' hx=>by
   obtain ⟨hc,hf⟩:=hx.cells;refine ⟨hWx.trans hx,?_,?_,?_,?_,?_,?_⟩ <;> (rw [hc _ _ (by omega),<- hW]; simp [go_sem])
  exact this
 have HZ:Hid (yh W (w.heap.size+1+1)):=by
  have:yh W (w.heap.size+1+1):=by
   rw [<- hW];refine ⟨⟨?_,?_,?_,?_⟩,fun i=>?_⟩ <;> simp [go_sem]
  exact this
 have HS2:Hid (∀ W'' u0 u1 u2 u3,Ext W W''->∀ W',W'=(((W''.setCell ⟨w.heap.size+1+1,0,none⟩ u0).setCell ⟨w.heap.size+1+1,1,none⟩ u1).setCell ⟨w.heap.size+1+1,2,none⟩ u2).setCell ⟨w.heap.size+1+1,3,none⟩ u3->(Ext w W'/\W'.cell? ⟨w.heap.size,0,none⟩=some (.int .i64 (p).lv)/\W'.cell? ⟨w.heap.size,1,none⟩=some (.bool (p).neg)/\W'.cell? ⟨w.heap.size,2,none⟩=some (.slice A0 n0 c0)/\W'.cell? ⟨w.heap.size,3,none⟩=some (.slice B0 (p).cs.length d0)/\W'.cell? ⟨w.heap.size+1,0,none⟩=some (.bool n1)/\W'.cell? ⟨w.heap.size+1,1,none⟩=some (.slice A1 e1.length c1))):=by
  have:∀ W'' u0 u1 u2 u3,Ext W W''->∀ W',W'=(((W''.setCell ⟨w.heap.size+1+1,0,none⟩ u0).setCell ⟨w.heap.size+1+1,1,none⟩ u1).setCell ⟨w.heap.size+1+1,2,none⟩ u2).setCell ⟨w.heap.size+1+1,3,none⟩ u3->(Ext w W'/\W'.cell? ⟨w.heap.size,0,none⟩=some (.int .i64 (p).lv)/\W'.cell? ⟨w.heap.size,1,none⟩=some (.bool (p).neg)/\W'.cell? ⟨w.heap.size,2,none⟩=some (.slice A0 n0 c0)/\W'.cell? ⟨w.heap.size,3,none⟩=some (.slice B0 (p).cs.length d0)/\W'.cell? ⟨w.heap.size+1,0,none⟩=some (.bool n1)/\W'.cell? ⟨w.heap.size+1,1,none⟩=some (.slice A1 e1.length c1)):=fun W'' u0 u1 u2 u3 hx W' hW'=>by
   obtain ⟨s1,k0,k1,k2,k3,k4,k5⟩:=HS.out W'' hx;rw [hW'];refine ⟨(((s1.setCell (by simp; try omega) _).setCell (by simp; try omega) _).setCell (by simp; try omega) _).setCell (by simp; try omega) _,?_,?_,?_,?_,?_,?_⟩ <;> rw [World.cell?_setCell_other _ _ _ _ (by simp; try omega),World.cell?_setCell_other _ _ _ _ (by simp; try omega),World.cell?_setCell_other _ _ _ _ (by simp; try omega),World.cell?_setCell_other _ _ _ _ (by simp; try omega)] <;> assumption
  exact this
 have HFP:=Lib.hid hp;have HS0:=Lib.hid hs0;have hfm:=hp.mul (Fit.const (E:=0) (jg.lt H1.out));have HSZ:=Lib.hid (Nat.le_trans hfm.sz (Nat.le_trans (Nat.pow_le_pow_left (show E+0+2<=1002 by omega) 4) (show 1002 ^ 4<=1099511627776 by decide)));have HDM:=Lib.hid (Nat.le_trans hfm.dm (show D+L<=35184372088832 by omega));clear hp hfm hs0;obtain ⟨-,b0,b1,b2,b3,b4,b5⟩:=HS.out W (Ext.refl W);clear hWx;unfold plV at *;go_enter Tryz.func133,Tryz.ntmps133;go_wp2_with fail;clear hW b0 b1 b2 b3 b4 b5;have yy0:Ext W W.drew:=(Ext.refl W).drew;have Y0:=Lib.hid yy0;clear yy0
 go_region_held3 (fun W' => Ext w W' /\ W'.cell? ⟨w.heap.size, 0, none⟩ = some (.int .i64 (p).lv) /\ W'.cell? ⟨w.heap.size, 1, none⟩ = some (.bool (p).neg) /\ W'.cell? ⟨w.heap.size, 2, none⟩ = some (.slice A0 n0 c0) /\ W'.cell? ⟨w.heap.size, 3, none⟩ = some (.slice B0 (p).cs.length d0) /\ W'.cell? ⟨w.heap.size + 1, 0, none⟩ = some (.bool n1) /\ W'.cell? ⟨w.heap.size + 1, 1, none⟩ = some (.slice A1 e1.length c1))
  (first | with_reducible exact HS.out _ Y0.out | with_reducible exact HS.out _ yy1 | with_reducible exact HS.out _ yy2 | with_reducible exact HS.out _ yy3 | exact HS2.out _ _ _ _ _ yy3 _ rfl)
  (first
    | (go_at_call 97
       refine (HS0.out _ (HX0.out.trans Y0.out)).mono ?_;rintro e w1 ⟨z1,rfl,m1,x1⟩;obtain ⟨C1,i1,j1,D1,k1,rfl,-⟩:=id m1.open_;have yy1:Ext W w1:=Ext.trans Y0.out x1
       unfold plV)
    | (go_at_call 98
       refine (jbd _ _ m1 (H1.out.ext (HX0.out.trans yy1)) HFP.out (by omega) hD).mono ?_;rintro e w2 ⟨z2,rfl,m2,x2⟩;obtain ⟨C2,i2,j2,D2,k2,rfl,-⟩:=id m2.open_;have yy2:Ext W w2:=Ext.trans yy1 x2
       replace m1:=m1.ext x2
       unfold plV)
    | (go_at_call 95
       refine (jap _ _ (Pl.mul_can _ _) HSZ.out HDM.out m2).mono ?_;rintro e w3 ⟨z3,rfl,m3,x3⟩;obtain ⟨C3,i3,j3,D3,k3,rfl,-⟩:=id m3.open_;have yy3:Ext W w3:=Ext.trans yy2 x3
       replace m1:=m1.ext x3
       replace m2:=m2.ext x3
       obtain ⟨⟨r0,r1,r2,r3⟩,rf⟩:=HZ.out.ext yy3 (by omega)
       unfold plV))
 have hzn:=HZ.out.ext yy3 (by omega);have hsn:=(yy3:Ext W _).size;have hsp:=(yy2:Ext W _).size;have HF:=Lib.hid (qi (q':=fun b=>w.heap.size<=b) (HX0.out.trans yy3) (by omega) hzn m3 (fun b _ hb=>⟨by omega,by omega⟩));clear m3 x3 m2 x2 m1 x1 yy3 yy2 yy1 HS2 HS HZ
 try unfold plV
 go_wp2_with fail;exact bodyPost_ret (by simp [results,Tryz.results133,go_sem,r0,r1,r2,r3,plV]) rfl HF.out
theorem gcc {w:World} {p:Pl} {E D:Nat} {q0:Nat->Prop} (v0:Value) (h0:PlV w q0 p v0) (hs0:∀ W',Ext w W'->Calls Tryz.prog 97 #[v0] W' (ji (fun b=>q0 b\/W'.heap.size<=b) p.nf W')) (hp:Fit p.nf E D) (hE:E<=1000) (hD:D+1<=35184372088000):Calls Tryz.prog 103 #[v0] w (ji (fun b=>w.heap.size<=b) (p.nf.mul (Pl.const (-1))) w):=by
 have H0:=Lib.hid h0;obtain ⟨A0,n0,c0,B0,d0,rfl,-,-,-,-⟩:=h0.open_;clear h0;obtain ⟨W,hW⟩:=n_m ((w.alloc (.cells #[.int .i64 (p).lv,.bool (p).neg,.slice A0 n0 c0,.slice B0 (p).cs.length d0] 44)).alloc (.cells #[.int .i64 0,.bool false,.slice none 0 0,.slice none 0 0] 44));have hWx:Ext w W:=by rw [<- hW]; exact ((Ext.refl w).alloc _).alloc _
 have hWs:W.heap.size=w.heap.size+1+1:=by rw [<- hW]; simp
 have HX0:=Lib.hid hWx;have HS:Hid (∀ W',Ext W W'->(Ext w W'/\W'.cell? ⟨w.heap.size,0,none⟩=some (.int .i64 (p).lv)/\W'.cell? ⟨w.heap.size,1,none⟩=some (.bool (p).neg)/\W'.cell? ⟨w.heap.size,2,none⟩=some (.slice A0 n0 c0)/\W'.cell? ⟨w.heap.size,3,none⟩=some (.slice B0 (p).cs.length d0))):=by
  have:∀ W',Ext W W'->(Ext w W'/\W'.cell? ⟨w.heap.size,0,none⟩=some (.int .i64 (p).lv)/\W'.cell? ⟨w.heap.size,1,none⟩=some (.bool (p).neg)/\W'.cell? ⟨w.heap.size,2,none⟩=some (.slice A0 n0 c0)/\W'.cell? ⟨w.heap.size,3,none⟩=some (.slice B0 (p).cs.length d0)):=fun W' hx=>by
   obtain ⟨hc,hf⟩:=hx.cells;refine ⟨hWx.trans hx,?_,?_,?_,?_⟩ <;> (rw [hc _ _ (by omega),<- hW]; simp [go_sem])
  exact this
 have HZ:Hid (yh W (w.heap.size+1)):=by
  have:yh W (w.heap.size+1):=by
   rw [<- hW];refine ⟨⟨?_,?_,?_,?_⟩,fun i=>?_⟩ <;> simp [go_sem]
  exact this
 have HS2:Hid (∀ W'' u0 u1 u2 u3,Ext W W''->∀ W',W'=(((W''.setCell ⟨w.heap.size+1,0,none⟩ u0).setCell ⟨w.heap.size+1,1,none⟩ u1).setCell ⟨w.heap.size+1,2,none⟩ u2).setCell ⟨w.heap.size+1,3,none⟩ u3->(Ext w W'/\W'.cell? ⟨w.heap.size,0,none⟩=some (.int .i64 (p).lv)/\W'.cell? ⟨w.heap.size,1,none⟩=some (.bool (p).neg)/\W'.cell? ⟨w.heap.size,2,none⟩=some (.slice A0 n0 c0)/\W'.cell? ⟨w.heap.size,3,none⟩=some (.slice B0 (p).cs.length d0))):=by
  have:∀ W'' u0 u1 u2 u3,Ext W W''->∀ W',W'=(((W''.setCell ⟨w.heap.size+1,0,none⟩ u0).setCell ⟨w.heap.size+1,1,none⟩ u1).setCell ⟨w.heap.size+1,2,none⟩ u2).setCell ⟨w.heap.size+1,3,none⟩ u3->(Ext w W'/\W'.cell? ⟨w.heap.size,0,none⟩=some (.int .i64 (p).lv)/\W'.cell? ⟨w.heap.size,1,none⟩=some (.bool (p).neg)/\W'.cell? ⟨w.heap.size,2,none⟩=some (.slice A0 n0 c0)/\W'.cell? ⟨w.heap.size,3,none⟩=some (.slice B0 (p).cs.length d0)):=fun W'' u0 u1 u2 u3 hx W' hW'=>by
   obtain ⟨s1,k0,k1,k2,k3⟩:=HS.out W'' hx;rw [hW'];refine ⟨(((s1.setCell (by simp; try omega) _).setCell (by simp; try omega) _).setCell (by simp; try omega) _).setCell (by simp; try omega) _,?_,?_,?_,?_⟩ <;> rw [World.cell?_setCell_other _ _ _ _ (by simp; try omega),World.cell?_setCell_other _ _ _ _ (by simp; try omega),World.cell?_setCell_other _ _ _ _ (by simp; try omega),World.cell?_setCell_other _ _ _ _ (by simp; try omega)] <;> assumption
  exact this
 have HFP:=Lib.hid hp;have HS0:=Lib.hid hs0;have HM1:Hid ((dg (-1:Int).natAbs).length<=1):=zh (by decide);clear hp hs0;obtain ⟨-,b0,b1,b2,b3⟩:=HS.out W (Ext.refl W);clear hWx;unfold plV at *;go_enter Tryz.func103,Tryz.ntmps103;go_wp2_with fail;clear hW b0 b1 b2 b3;have yy0:Ext W W.drew:=(Ext.refl W).drew;have Y0:=Lib.hid yy0;clear yy0
 go_region_held3 (fun W' => Ext w W' /\ W'.cell? ⟨w.heap.size, 0, none⟩ = some (.int .i64 (p).lv) /\ W'.cell? ⟨w.heap.size, 1, none⟩ = some (.bool (p).neg) /\ W'.cell? ⟨w.heap.size, 2, none⟩ = some (.slice A0 n0 c0) /\ W'.cell? ⟨w.heap.size, 3, none⟩ = some (.slice B0 (p).cs.length d0))
  (first | with_reducible exact HS.out _ Y0.out | with_reducible exact HS.out _ yy1 | with_reducible exact HS.out _ yy2 | exact HS2.out _ _ _ _ _ yy2 _ rfl)
  (first
    | (go_at_call 40
       refine (of_int (-1) _ (by omega) (by omega)).mono ?_;rintro e w1 ⟨z1,rfl,⟨y1,rfl,m1⟩,x1⟩;obtain ⟨C1,k1,rfl,-⟩:=id m1
       have yy1:Ext W w1:=Ext.trans Y0.out x1)
    | (go_at_call 133
       refine (wbv (L:=1) _ _ (H0.out.ext (HX0.out.trans yy1)) (kbb m1 HM1.out) (fun W' hx=>HS0.out W' (((HX0.out.trans yy1)).trans hx)) HFP.out hE hD).mono ?_;rintro e w2 ⟨z2,rfl,m2,x2⟩;obtain ⟨C2,i2,j2,D2,k2,rfl,-⟩:=id m2.open_;have yy2:Ext W w2:=Ext.trans yy1 x2
       replace m1:=m1.ext x2
       obtain ⟨⟨r0,r1,r2,r3⟩,rf⟩:=HZ.out.ext yy2 (by omega)
       unfold plV))
 have hzn:=HZ.out.ext yy2 (by omega);have hsn:=(yy2:Ext W _).size;have hsp:=(yy1:Ext W _).size;have HF:=Lib.hid (qi (q':=fun b=>w.heap.size<=b) (HX0.out.trans yy2) (by omega) hzn m2 (fun b _ hb=>⟨by omega,by omega⟩));clear m2 x2 m1 x1 yy2 yy1 HS2 HS HZ
 try unfold plV
 go_wp2_with fail;exact bodyPost_ret (by simp [results,Tryz.results103,go_sem,r0,r1,r2,r3,plV]) rfl HF.out
theorem ucc {w:World} {q:Nat->Prop} {p:Pl} {E D:Nat} (v:Value) (h:PlV w q p v) (hp:Fit p E D) (hE:E<=1000) (hD:D<=1099511627776):Calls Tryz.prog 103 #[v] w (ji (fun b=>w.heap.size<=b) p.opp w):=by
 have h1:=gcc (E:=E) (D:=D) v h (fun W' hx=>by rw [Pl.nf_of_can hp.can]; exact yab v (h.ext hx) hp.can) (by rw [Pl.nf_of_can hp.can]; exact hp) hE (by omega);rw [Pl.nf_of_can hp.can] at h1;exact h1
/- Layer 27: prenex.kind, Level. -/
mutual
def Mx.lvl : Mx -> Int
 | .mk k _ p ks=>if k=2 then p.nf.lv else if k=3\/k=4 then xbb 0 ks else 0
def xbb : Int -> List Mx -> Int
 | a,[]=>a
 | a,t :: r=>xbb (max a t.lvl) r
end
theorem Mx.lvl_eq (t:Mx):t.lvl=if t.kind=2 then t.p.nf.lv else if t.kind=3\/t.kind=4 then xbb 0 t.ks else 0:=by
 cases t; rw [Mx.lvl]; rfl
/- Layer 38: the polynomials of a matrix, plain; lists that a call has made longer. -/
/- Layer 38: prenex.Polys. -/
/- Layer 1 (natural): shifts. -/
set_option maxRecDepth 100000
set_option maxHeartbeats 8000000
def jbn (w0:World) (g words s:Nat) (E:List Nat) (k:Nat) (wr:World):Prop:=
 ∃ (ys:List Nat) (cy:Nat),Row wr g (List.replicate words 0 ++ ys)/\ys.length=E.length+1/\zg ys/\Hid (ys[k]?=some cy)/\cy < 2 ^ s/\val (ys.take k)+B32 ^ k * cy=val (E.take k) * 2 ^ s/\Ext w0 wr
theorem qbr (u:Value) (ds:List Nat) (n:Nat) (w:World) (h:ja w u ds) (hs:ds.length<=35184371500000) (hn:n<=16777216) :
 Calls Tryz.prog 167 #[u,.int .i64 (n:Nat)] w (zar (val ds * 2 ^ n) w):=by
 have hmn:min (n:Int) 16777216=n:=by omega
 have hls:(dg (val ds)).length<=ds.length:=ve h.digs;go_enter Tryz.func167,Tryz.ntmps167;go_wp2_with fail;refine (yz u ds _ h).mono ?_;rintro e w' ⟨u',rfl,hu,rfl⟩;obtain ⟨A,c,rfl,h1,h2,h3⟩:=hu;have G5:=Lib.hid h3;have HVD:=Lib.hid (je (val ds));clear h3 h;generalize hE:dg (val ds)=E at *;have HE:=Lib.hid hE;clear hE;obtain ⟨words,s,hs1,hnw⟩:∃ words s:Nat,s < 32/\n=32 * words+s:=⟨n / 32,n % 32,by omega,by omega⟩;have HNW:=Lib.hid hnw;have e1:(n:Int) / 32=words:=by omega
 have e2:(n:Int) % 32=s:=by omega
 have hw1:32 * words+s<=16777216:=by omega
 have hmk:=fun W=>vab ((words:Int)+E.length+1) (by omega) (by omega) W
 clear hnw
 by_cases h0:E.length=0
 · have h0b:((E.length:Int) == 0)=true:=beq_iff_eq.2 (by omega);have HV:Hid (val ds=0):=by
    have:=HVD.out;rw [List.eq_nil_of_length_eq_zero h0] at this;exact this.symm
   clear h0 hmk e1 e2;go_wp2_with fail;go_ret;exact ⟨_,rfl,by rw [HV.out,Nat.zero_mul,jm]; exact ja.nil w,Ext.refl w⟩
 · have h0b:((E.length:Int) == 0)=false:=beq_eq_false_iff_ne.2 (by omega);go_wp2_with fail;have HINV:Hid (jbn w w.heap.size words s E 0 (w.alloc (Obj.cells (jw (List.replicate (words+E.length+1) 0)).toArray 108))):=by
    refine ⟨List.replicate (E.length+1) 0,0,?_,by simp,zg.replicate _,Lib.hid (by simp),Nat.pow_pos (by omega),by simp,(Ext.refl _).alloc _⟩;have:=Row.new w (List.replicate (words+E.length+1) 0);rw [Nat.add_assoc,<- List.replicate_append_replicate] at this;rw [Nat.add_assoc,<- List.replicate_append_replicate];exact this
   have hbl:words+E.length+1 - words=E.length+1:=by omega
   rw [hbl];clear hbl e1 e2 hmk
   go_loopw [36] (fun iv wr=>∃ k:Nat,k<=E.length/\iv=.int .i64 k/\Hid (jbn w w.heap.size words s E k wr)) (fun iv _=>E.length - (intOf iv).toNat)
   case atStart=>exact ⟨0,by omega,rfl,HINV⟩
   case round =>
    clear HINV;obtain ⟨k,hk,rfl,HI⟩:=hrel;obtain ⟨ys,cy,hrow,hyl,hyd,HCY,hcy,hval,hext⟩:=HI.out
    by_cases hlt:k < E.length
    · obtain ⟨ad,x,rfl,hb,hcell,hx1,HX⟩:=(G5.out.ext hext).get_ k hlt;have hc1:wr.cell? ⟨w.heap.size,words+k,none⟩=some (.int .u32 (cy:Nat)):=by
       rw [hrow.cell (words+k) (by simp; omega)];have:=HCY.out;rw [List.getElem_append_right (by simp)];simp at this ⊢;obtain ⟨_,h⟩:=List.getElem?_eq_some_iff.1 this;rw [h]
      have hc2:wr.frozen? ⟨w.heap.size,words+k,none⟩=false:=hrow.frozen _;obtain ⟨z,hz1,hz2,_⟩:=hrow.get_ (words+(k+1)) (by simp; omega);have hxe:=qg HX;have hp31:2 ^ s<=2147483648:=Nat.pow_le_pow_right (n:=2) (by omega) (show s<=31 by omega);have hpd:∃ q,4294967296=2 ^ s * q:=⟨2 ^ (32 - s),by rw [<- Nat.pow_add,show s+(32 - s)=32 from by omega]⟩;have hp0:x * 2 ^ s<=4294967295 * 2147483648:=Nat.mul_le_mul (by omega) hp31;have hi0:(0:Int)<=(x:Int) * 2 ^ s:=by (have:(x:Int) * 2 ^ s=((x * 2 ^ s:Nat):Int):=by simp); omega
      have hi1:(x:Int) * 2 ^ s<=4294967295 * 2147483648:=by (have:(x:Int) * 2 ^ s=((x * 2 ^ s:Nat):Int):=by simp); omega
      obtain ⟨q,hq⟩:=hpd;have hlow:x * 2 ^ s % 4294967296 % 2 ^ s=0:=by
       rw [hq,Nat.mod_mul_right_mod,Nat.mul_mod_left]
      have hlow2:x * 2 ^ s % 4294967296+cy < 4294967296:=by
       have h1:x * 2 ^ s % 4294967296 < 2 ^ s * q:=by rw [<- hq]; exact Nat.mod_lt _ (by omega)
       obtain ⟨m,hm⟩:=Nat.dvd_of_mod_eq_zero hlow;rw [hm] at h1 ⊢;have h2:=Nat.lt_of_mul_lt_mul_left h1;have h3:2 ^ s * (m+1)<=2 ^ s * q:=Nat.mul_le_mul_left _ h2;rw [Nat.mul_add,Nat.mul_one] at h3;omega
      have hor:bits .or .u32 (cy:Int) ((x:Int) * 2 ^ s % 4294967296)=((x * 2 ^ s % B32+cy:Nat):Int):=by
       have e:(x:Int) * 2 ^ s % 4294967296=((x * 2 ^ s % 4294967296:Nat):Int):=by simp
       rw [e,u32_or_nat _ _ (by omega) (by omega),Nat.or_comm,nat_join s _ _ hlow hcy,yg]
      have HS:Hid (jbn w w.heap.size words s E (k+1) ((wr.setCell ⟨w.heap.size,words+k,none⟩ (.int .u32 ((x * 2 ^ s % B32+cy:Nat):Int))).setCell ⟨w.heap.size,words+(k+1),none⟩ (.int .u32 ((x * 2 ^ s / B32:Nat):Int)))):=by
       have r1:=(hrow.set_ (words+k) (x * 2 ^ s % B32+cy)).set_ (words+(k+1)) (x * 2 ^ s / B32);rw [List.set_append_right _ _ (by simp),List.set_append_right _ _ (by simp),List.length_replicate,Nat.add_sub_cancel_left,Nat.add_sub_cancel_left] at r1;refine ⟨_,x * 2 ^ s / B32,r1,by rw [List.length_set,List.length_set,hyl],(hyd.set _ _ (by rw [yg]; exact hlow2)).set _ _ (by rw [yg]; omega),Lib.hid (by rw [List.getElem?_set_self (by rw [List.length_set]; omega)]),?_,?_,(hext.setCell (by simp) _).setCell (by simp) _⟩
       · rw [yg];exact Nat.div_lt_of_lt_mul (Nat.mul_lt_mul_of_pos_right hx1 (Nat.pow_pos (by omega)))
       · rw [List.take_set_of_le (Nat.le_refl _),zab ys k _ (by omega),vaf,List.length_take,Nat.min_eq_left (by omega),hxe,Nat.add_mul,Nat.pow_succ,<- hval];have e:=Nat.mod_add_div (x * 2 ^ s) B32;have e2:B32 ^ k * (x * 2 ^ s)=B32 ^ k * (x * 2 ^ s % B32)+B32 ^ k * B32 * (x * 2 ^ s / B32):=by
          rw [Nat.mul_assoc (B32 ^ k) B32,<- Nat.mul_add,e]
         rw [Nat.mul_assoc (B32 ^ k) x,e2,Nat.mul_add];omega
      have he:(x:Int) * 2 ^ s / 4294967296=((x * 2 ^ s / B32:Nat):Int):=by rw [yg]; simp
      have HEE:=Lib.hid he;have hbd:(x:Int) * 2 ^ s / 4294967296 < 4294967296:=by omega
      clear HI hrow hyl hyd HCY hval hext hxe hq hlow he;go_wp2_with fail
      go_roundw
      case rel =>
       refine ⟨k+1,by omega,by go_num,?_⟩;rw [HEE.out,show ((x:Int) * 2 ^ s % B32+cy)=((x * 2 ^ s % B32+cy:Nat):Int) from by simp];exact HS
      case measure=>simp [intOf]; omega
    · obtain rfl:k=E.length:=by omega
      have hyt:ys=ys.take E.length ++ [cy]:=by
       obtain ⟨h,e⟩:=List.getElem?_eq_some_iff.1 HCY.out;have:=zaz ys E.length h;rw [List.take_of_length_le (by omega),e] at this;exact this
      have hvy:val ys=val ds * 2 ^ s:=by
       rw [hyt,vaf,List.length_take,Nat.min_eq_left (by omega),hval,List.take_of_length_le (Nat.le_refl _),HVD.out]
      have HV:Hid (val (List.replicate words 0 ++ ys)=val ds * 2 ^ n):=by
       have:val (List.replicate words 0 ++ ys)=val ds * 2 ^ n:=by
        rw [val_append,xad,List.length_replicate,Nat.zero_add,hvy,HNW.out,show B32=2 ^ 32 from rfl,<- Nat.pow_mul,Nat.pow_add,Nat.mul_left_comm]
       exact this
      have HN:Hid (ja wr (.slice (some ⟨w.heap.size,0,none⟩) (words+E.length+1) (words+E.length+1)) (List.replicate words 0 ++ ys)):=
       hrow.natVn ((zg.replicate _).append hyd) _ _ (by simp; omega) (Nat.le_refl _) (by omega)
      have HX:=Lib.hid hext;clear HI hrow hyl hyd HCY hval hext hyt hvy;go_wp2_with fail;refine (yz _ _ _ HN.out).mono ?_;rintro e w' ⟨v',rfl,hv,rfl⟩;rw [HV.out] at hv;have HV2:=Lib.hid hv;clear hv;go_wp2_with fail;go_ret;exact ⟨v',rfl,HV2.out,HX.out⟩
end Go.Proofs.YtheefiaoimbeiaaGreatDoor
