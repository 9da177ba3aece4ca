/- The negative of a canonical polynomial, plain. No program in sight. -/
import Derived.Test.YtcfcjabgkfehlaaGreatMf30
import Derived.Test.YtcfcjabgkfehlaaGreatMf34
import Derived.Deep.CutBlock
import Derived.Test.YtcfcjabgkfehlaaGreatMf38
import Derived.Test.YtcfcjabgkfehlaaGreatMf26
set_option linter.unusedSimpArgs false
set_option linter.unusedVariables false
namespace Go.Proofs.YtcfcjabgkfehlaaGreat
/- Layer 22: recpoly.mul where the levels differ, or both are 0. -/
set_option maxRecDepth 100000
set_option maxHeartbeats 8000000
open Go.RowKit
theorem uf.set {W:World} {g:Nat} {p q:Pl} {s A s' A':Value} (h:uf W g p s A) :
 uf ((((W.setCell ⟨g,0,none⟩ (.int .i64 q.lv)).setCell ⟨g,1,none⟩ (.bool q.neg)).setCell ⟨g,2,none⟩ s').setCell ⟨g,3,none⟩ A') g q s' A':=by
 obtain ⟨h0,h1,h2,h3⟩:=h;have e:∀ (W:World) (i j:Nat) (v:Value),i ≠ j->(W.setCell ⟨g,j,none⟩ v).cell? ⟨g,i,none⟩=W.cell? ⟨g,i,none⟩:=fun W i j v hij=>World.cell?_setCell_other _ _ _ _ (by intro e; injection e; omega)
 refine ⟨?_,?_,?_,?_⟩
 · rw [e _ 0 3 _ (by omega),e _ 0 2 _ (by omega),e _ 0 1 _ (by omega)];exact World.cell?_setCell_same _ _ _ h0
 · rw [e _ 1 3 _ (by omega),e _ 1 2 _ (by omega)];exact World.cell?_setCell_same _ _ _ ((e _ 1 0 _ (by omega)).trans h1)
 · rw [e _ 2 3 _ (by omega)];exact World.cell?_setCell_same _ _ _ ((e _ 2 1 _ (by omega)).trans ((e _ 2 0 _ (by omega)).trans h2))
 · exact World.cell?_setCell_same _ _ _ ((e _ 3 2 _ (by omega)).trans ((e _ 3 1 _ (by omega)).trans ((e _ 3 0 _ (by omega)).trans h3)))
theorem vag (W:World) (g:Nat) (a b c d:Value) (k:Nat) (h:k ≠ g):((((W.setCell ⟨g,0,none⟩ a).setCell ⟨g,1,none⟩ b).setCell ⟨g,2,none⟩ c).setCell ⟨g,3,none⟩ d).heap[k]?=W.heap[k]?:=by
 rw [Below.heap_setCell _ _ _ k h,Below.heap_setCell _ _ _ k h,Below.heap_setCell _ _ _ k h,Below.heap_setCell _ _ _ k h]
theorem uf.nat_ {W:World} {g:Nat} {p:Pl} {A0 A1:Option Addr} {n0 c0 n1 c1:Nat} (h:uf W g p (.slice A0 n0 c0) (.slice A1 n1 c1)) (x y z u:Value) {v:Value} {ds:List Nat} (hv:jb W v ds) :
 jb ((((W.setCell ⟨g,0,none⟩ x).setCell ⟨g,1,none⟩ y).setCell ⟨g,2,none⟩ z).setCell ⟨g,3,none⟩ u) v ds:=by
 obtain ⟨h0,h1,h2,h3⟩:=h;refine (((hv.box h0 rfl _).box (u:=.bool p.neg) ?_ rfl _).box (u:=.slice A0 n0 c0) ?_ rfl _).box (u:=.slice A1 n1 c1) ?_ rfl _
 · rw [World.cell?_setCell_other _ _ _ _ (by simp)]; exact h1
 · rw [World.cell?_setCell_other _ _ _ _ (by simp),World.cell?_setCell_other _ _ _ _ (by simp)]; exact h2
 · rw [World.cell?_setCell_other _ _ _ _ (by simp),World.cell?_setCell_other _ _ _ _ (by simp),World.cell?_setCell_other _ _ _ _ (by simp)]; exact h3
theorem uf.keep {W:World} {g:Nat} {p:Pl} {A0 A1:Option Addr} {n0 c0 n1 c1:Nat} (h:uf W g p (.slice A0 n0 c0) (.slice A1 n1 c1)) (x y z u:Value) {q q':Nat->Prop} {t:Pl} {v:Value} (ht:PlV W q t v) (hq:∀ b,b < W.heap.size->q b->b ≠ g/\q' b) :
 PlV ((((W.setCell ⟨g,0,none⟩ x).setCell ⟨g,1,none⟩ y).setCell ⟨g,2,none⟩ z).setCell ⟨g,3,none⟩ u) q' t v:=
 PlV.turn_ (by simp [World.setCell]) (fun _ _ hv=>h.nat_ x y z u hv) (fun b hlt hb=>⟨(hq b hlt hb).2,vag _ _ _ _ _ _ _ (hq b hlt hb).1⟩) ht
structure gat (w : World) (a b : Pl) (sa Aa sb Ab : Value) (wc : World) : Prop where
 ext:Ext w wc
 size:wc.heap.size=w.heap.size+1+1+1
 box:uf wc w.heap.size a sa Aa
 box':uf wc (w.heap.size+1) b sb Ab
 zero:ql wc (w.heap.size+1+1)
theorem gat.swap {w W:World} {a b:Pl} {sa Aa sb Ab:Value} (h:gat w a b sa Aa sb Ab W) :
 gat w b a sb Ab sa Aa ((((((((W.setCell ⟨w.heap.size,0,none⟩ (.int .i64 b.lv)).setCell ⟨w.heap.size,1,none⟩ (.bool b.neg)).setCell ⟨w.heap.size,2,none⟩ sb).setCell ⟨w.heap.size,3,none⟩ Ab).setCell ⟨w.heap.size+1,0,none⟩ (.int .i64 a.lv)).setCell ⟨w.heap.size+1,1,none⟩ (.bool a.neg)).setCell ⟨w.heap.size+1,2,none⟩ sa).setCell ⟨w.heap.size+1,3,none⟩ Aa):=by
 obtain ⟨h1,h2,h3,h4,h5⟩:=h;obtain ⟨W1,hW1⟩:∃ W1,((((W.setCell ⟨w.heap.size,0,none⟩ (.int .i64 b.lv)).setCell ⟨w.heap.size,1,none⟩ (.bool b.neg)).setCell ⟨w.heap.size,2,none⟩ sb).setCell ⟨w.heap.size,3,none⟩ Ab)=W1:=⟨_,rfl⟩;rw [hW1];have k1:Ext w W1:=by
  rw [<- hW1];exact (((h1.setCell (Nat.le_refl _) _).setCell (Nat.le_refl _) _).setCell (Nat.le_refl _) _).setCell (Nat.le_refl _) _
 have kb:uf W1 w.heap.size b sb Ab:=by rw [<- hW1]; exact h3.set
 have kh:∀ k,k ≠ w.heap.size->W1.heap[k]?=W.heap[k]?:=fun k hk=>by rw [<- hW1]; exact vag _ _ _ _ _ _ k hk
 have kf:∀ a,W1.frozen? a=W.frozen? a:=fun a=>by rw [<- hW1]; simp only [World.frozen?_setCell]
 have ks:W1.heap.size=W.heap.size:=by rw [<- hW1]; simp [World.setCell]
 have kb':uf W1 (w.heap.size+1) b sb Ab:=h4.turn (kh _ (by omega));refine ⟨(((k1.setCell (by show w.heap.size<=w.heap.size+1; omega) _).setCell (by show w.heap.size<=w.heap.size+1; omega) _).setCell (by show w.heap.size<=w.heap.size+1; omega) _).setCell (by show w.heap.size<=w.heap.size+1; omega) _,by simp [World.setCell]; omega,kb.turn (vag _ _ _ _ _ _ _ (by omega)),kb'.set,?_⟩;have hh:((((W1.setCell ⟨w.heap.size+1,0,none⟩ (.int .i64 a.lv)).setCell ⟨w.heap.size+1,1,none⟩ (.bool a.neg)).setCell ⟨w.heap.size+1,2,none⟩ sa).setCell ⟨w.heap.size+1,3,none⟩ Aa).heap[w.heap.size+1+1]?=W.heap[w.heap.size+1+1]?:=(vag _ _ _ _ _ _ _ (by omega)).trans (kh _ (by omega));obtain ⟨⟨z0,z1,z2,z3⟩,zf⟩:=h5;refine ⟨⟨(World.cell?_of_block (a:=⟨w.heap.size+1+1,0,none⟩) hh).trans z0,(World.cell?_of_block (a:=⟨w.heap.size+1+1,1,none⟩) hh).trans z1,(World.cell?_of_block (a:=⟨w.heap.size+1+1,2,none⟩) hh).trans z2,(World.cell?_of_block (a:=⟨w.heap.size+1+1,3,none⟩) hh).trans z3⟩,fun i=>?_⟩;simp only [World.frozen?_setCell];rw [kf];exact zf i
structure ja1 (w0 : World) (E L : Nat) (a b : Pl) (va vb : Value) : Prop where
 ca:a.Can
 cb:b.Can
 len:a.cs.length<=E
 dig:a.ds.length+b.ds.length<=L
 pa:PlV w0 (fun _=>True) a va
 pb:PlV w0 (fun _=>True) b vb
 ord:b.lv<=a.lv
 ne:a.lv=b.lv->a.lv=0
 ih:∀ k (hk:k < a.cs.length) x,PlV w0 (fun _=>True) a.cs[k] x->∀ W',Ext w0 W'->Calls Tryz.prog 58 #[x,vb] W' (qi (fun i=>W'.heap.size<=i) (a.cs[k].mul b) W')
theorem zcp {w0 w : World} {E D F G : Nat} (p q : Pl) (v u : Value) (hp : Fit p E D) (hq : Fit q F G) (hE : E <= 1000000) (hF : F <= 1000000) (hD : D + G <= 35184372088000)
 (h:PlV w0 (fun _=>True) p v) (k:PlV w0 (fun _=>True) q u) (hx:Ext w0 w) (hne:p.lv=q.lv->p.lv=0)
 (ihp:∀ a ∈ p.cs,∀ x,PlV w0 (fun _=>True) a x->∀ W',Ext w0 W'->Calls Tryz.prog 58 #[x,u] W' (qi (fun i=>W'.heap.size<=i) (a.mul q) W'))
 (ihq:∀ a ∈ q.cs,∀ x,PlV w0 (fun _=>True) a x->∀ W',Ext w0 W'->Calls Tryz.prog 58 #[x,v] W' (qi (fun i=>W'.heap.size<=i) (a.mul p) W')) :
 Calls Tryz.prog 58 #[v,u] w (qi (fun i=>w.heap.size<=i) (p.mul q) w):=by
 have hlen:∀ (r:Pl) (E D:Nat),Fit r E D->r.cs.length<=E+1:=fun r E D hr=>by
  obtain ⟨l,n,d,cs⟩:=r
  by_cases hl:0 < l
  · exact hr.len hl
  · have:=hr.can;unfold Pl.Can at this;rcases this with h | h
    · simp [Pl.cs,h.2.1]
    · omega
 have hd1:=Nat.le_trans p.dm_ds hp.dm;have hd2:=Nat.le_trans q.dm_ds hq.dm;have HH:=Lib.hid h;have HK:=Lib.hid k;obtain ⟨A0,n0,c0,A,c,rfl,-,-,-,-⟩:=h.open_;obtain ⟨B0,m0,d0,B,d,rfl,-,-,-,-⟩:=k.open_;have HPQ:Hid (q.lv<=p.lv->ja1 w0 1000001 35184372088000 p q (plV p (.slice A0 n0 c0) (.slice A p.cs.length c)) (plV q (.slice B0 m0 d0) (.slice B q.cs.length d))):=by
  have:q.lv<=p.lv->ja1 w0 1000001 35184372088000 p q (plV p (.slice A0 n0 c0) (.slice A p.cs.length c)) (plV q (.slice B0 m0 d0) (.slice B q.cs.length d)):=fun hl =>
   ⟨hp.can,hq.can,by have:=hlen p E D hp; omega,by omega,HH.out,HK.out,hl,hne,fun k hk x hxv=>ihp _ (List.getElem_mem hk) x hxv⟩
  exact this
 have HQP:Hid (p.lv < q.lv->ja1 w0 1000001 35184372088000 q p (plV q (.slice B0 m0 d0) (.slice B q.cs.length d)) (plV p (.slice A0 n0 c0) (.slice A p.cs.length c))):=by
  have:p.lv < q.lv->ja1 w0 1000001 35184372088000 q p (plV q (.slice B0 m0 d0) (.slice B q.cs.length d)) (plV p (.slice A0 n0 c0) (.slice A p.cs.length c)):=fun hl =>
   ⟨hq.can,hp.can,by have:=hlen q F G hq; omega,by omega,HK.out,HH.out,by omega,fun e=>by omega,fun k hk x hxv=>ihq _ (List.getElem_mem hk) x hxv⟩
  exact this
 have HCM:=Lib.hid (Pl.mul_comm p q);have HX0:=Lib.hid hx;clear h k ihp ihq hne hlen hd1 hd2 hp hq hE hF hD hx HH HK;obtain ⟨W,hW⟩:∃ W,((w.alloc (.cells #[.int .i64 p.lv,.bool p.neg,.slice A0 n0 c0,.slice A p.cs.length c] 35)).alloc (.cells #[.int .i64 q.lv,.bool q.neg,.slice B0 m0 d0,.slice B q.cs.length d] 35)).alloc (.cells #[.int .i64 0,.bool false,.slice none 0 0,.slice none 0 0] 35)=W:=⟨_,rfl⟩;have hcut:gat w p q (.slice A0 n0 c0) (.slice A p.cs.length c) (.slice B0 m0 d0) (.slice B q.cs.length d) W:=by
  rw [<- hW];refine ⟨(((Ext.refl w).alloc _).alloc _).alloc _,by simp,(uf.new w p _ _ _).ext (((Ext.refl _).alloc _).alloc _) (by simp),?_,?_⟩
  · have h1:=uf.new (w.alloc (.cells #[.int .i64 p.lv,.bool p.neg,.slice A0 n0 c0,.slice A p.cs.length c] 35)) q (.slice B0 m0 d0) (.slice B q.cs.length d) 35;have h2:=h1.ext ((Ext.refl _).alloc (.cells #[.int .i64 0,.bool false,.slice none 0 0,.slice none 0 0] 35)) (by simp);simpa using h2
  · have h1:=ql.new ((w.alloc (.cells #[.int .i64 p.lv,.bool p.neg,.slice A0 n0 c0,.slice A p.cs.length c] 35)).alloc (.cells #[.int .i64 q.lv,.bool q.neg,.slice B0 m0 d0,.slice B q.cs.length d] 35)) 35;simpa using h1
 have hf1:∀ i,W.frozen? ⟨w.heap.size,i,none⟩=false:=fun i=>by rw [<- hW]; simp [go_sem]
 have hf2:∀ i,W.frozen? ⟨w.heap.size+1,i,none⟩=false:=fun i=>by rw [<- hW]; simp [go_sem]
 have HCUT:=Lib.hid hcut;obtain ⟨b0,b1,b2,b3⟩:=hcut.box;obtain ⟨e0,e1,e2,e3⟩:=hcut.box';have hWs:=hcut.size;clear hcut;unfold plV;go_enter Tryz.func58,Tryz.ntmps58
 go_upto_if 21 with fail
 go_cut [] from 22 to 23 (fun wc=>Hid ((p.lv < q.lv/\gat w q p (.slice B0 m0 d0) (.slice B q.cs.length d) (.slice A0 n0 c0) (.slice A p.cs.length c) wc)\/(q.lv<=p.lv/\gat w p q (.slice A0 n0 c0) (.slice A p.cs.length c) (.slice B0 m0 d0) (.slice B q.cs.length d) wc)))
 case first =>
  by_cases hlt:p.lv < q.lv
  · have HF:=Lib.hid HCUT.out.swap;have HL:=Lib.hid hlt;clear hW;go_wp2_with fail
    go_meet
    exact Lib.hid (Or.inl ⟨HL.out,HF.out⟩)
  · have hle:q.lv<=p.lv:=by omega
    have HL:=Lib.hid hle;clear hW;go_wp2_with fail
    go_meet
    exact Lib.hid (Or.inr ⟨HL.out,HCUT.out⟩)
 case rest =>
 obtain ⟨a,b,sa1,sa2,sa3,A',ca,sb1,sb2,sb3,B',cb,hh,hm,hc⟩:∃ (a b:Pl) (sa1:Option Addr) (sa2 sa3:Nat) (A':Option Addr) (ca:Nat) (sb1:Option Addr) (sb2 sb3:Nat) (B':Option Addr) (cb:Nat),ja1 w0 1000001 35184372088000 a b (plV a (.slice sa1 sa2 sa3) (.slice A' a.cs.length ca)) (plV b (.slice sb1 sb2 sb3) (.slice B' b.cs.length cb))/\p.mul q=a.mul b/\gat w a b (.slice sa1 sa2 sa3) (.slice A' a.cs.length ca) (.slice sb1 sb2 sb3) (.slice B' b.cs.length cb) wc:=by
  rcases hcut.out with ⟨h1,h2⟩ | ⟨h1,h2⟩
  · exact ⟨q,p,_,_,_,_,_,_,_,_,_,_,HQP.out h1,HCM.out,h2⟩
  · exact ⟨p,q,_,_,_,_,_,_,_,_,_,_,HPQ.out h1,rfl,h2⟩
 clear hcut HPQ HQP HCM HCUT b0 b1 b2 b3 e0 e1 e2 e3 hf1 hf2 hW hWs;have HM:=Lib.hid hm;clear hm;have HC:=Lib.hid hc;have HH:=Lib.hid hh;obtain ⟨b0,b1,b2,b3⟩:=hc.box;obtain ⟨e0,e1,e2,e3⟩:=hc.box';have hcs:=hc.size;have HZA:=Lib.hid (zao a _ (hh.pa.ext (HX0.out.trans hc.ext)));clear hc hh;unfold plV at HZA;go_wp2_with fail;clear b0 b1 b2 b3 e0 e1 e2 e3;refine HZA.out.mono ?_;rintro e w1 ⟨rfl,x1⟩;have HZB:Hid (Calls Tryz.prog 77 #[plV b (.slice sb1 sb2 sb3) (.slice B' b.cs.length cb)] w1 fun e w'=>e=.returned (.bool b.isZ)/\Ext w1 w'):=zao b _ (HH.out.pb.ext ((HX0.out.trans HC.out.ext).trans x1));unfold plV at HZB;have hb1:=HC.out.box.ext x1 (by omega);have hb2:=HC.out.box'.ext x1 (by omega);have hz1:=HC.out.zero.ext x1 (by omega);have hs1:=x1.size;have HB1:=Lib.hid hb1;have HB2:=Lib.hid hb2;have HZ1:=Lib.hid hz1;have X1:=Lib.hid (HC.out.ext.trans x1);obtain ⟨b0,b1,b2,b3⟩:=hb1;obtain ⟨e0,e1,e2,e3⟩:=hb2;obtain ⟨⟨z0,z1,z2,z3⟩,zf⟩:=hz1;clear x1 HZA
 by_cases ha0:a.isZ=true
 · rw [ha0];have HF:Hid (qi (fun i=>w.heap.size<=i) (p.mul q) w (.returned (plV Pl.zero (.slice none 0 0) (.slice none 0 0))) ((((w1.setCell ⟨w.heap.size+1+1,0,none⟩ (.int .i64 Pl.zero.lv)).setCell ⟨w.heap.size+1+1,1,none⟩ (.bool Pl.zero.neg)).setCell ⟨w.heap.size+1+1,2,none⟩ (.slice none 0 0)).setCell ⟨w.heap.size+1+1,3,none⟩ (.slice none 0 0))):=by
    have e:p.mul q=Pl.zero:=by rw [HM.out,(Pl.zero_isZ HH.out.ca).1 ha0,Pl.mul_zero_l]
    rw [e];exact vk (p:=Pl.zero) (q:=fun _=>False) X1.out (by omega) HZ1.out (Pl.zero_v _ _ none 0 (by omega)) (fun b _ h=>h.elim)
   simp only [Pl.zero,Pl.lv,Pl.neg] at HF;clear ha0 HZB;go_wp2_with fail;exact bodyPost_ret (v:=plV Pl.zero (.slice none 0 0) (.slice none 0 0)) (by simp [results,Tryz.results58,go_sem,z0,z1,z2,z3,plV,Pl.zero,Pl.lv,Pl.neg]) rfl HF.out
 have ha0':a.isZ=false:=by simpa using ha0
 rw [ha0'];have HA0:=Lib.hid ha0;clear ha0 ha0';go_wp2_with fail;clear b0 b1 b2 b3 e0 e1 e2 e3 z0 z1 z2 z3 zf;refine HZB.out.mono ?_;rintro e w2 ⟨rfl,x2⟩;have hb1:=HB1.out.ext x2 (by omega);have hb2:=HB2.out.ext x2 (by omega);have hz1:=HZ1.out.ext x2 (by omega);have hs2:=x2.size;have HB3:=Lib.hid hb1;have HB4:=Lib.hid hb2;have HZ2:=Lib.hid hz1;have X2:=Lib.hid (X1.out.trans x2);obtain ⟨b0,b1,b2,b3⟩:=hb1;obtain ⟨e0,e1,e2,e3⟩:=hb2;obtain ⟨⟨z0,z1,z2,z3⟩,zf⟩:=hz1;clear x2 HZB HB1 HB2 HZ1 X1
 by_cases hb0:b.isZ=true
 · rw [hb0];have HF:Hid (qi (fun i=>w.heap.size<=i) (p.mul q) w (.returned (plV Pl.zero (.slice none 0 0) (.slice none 0 0))) ((((w2.setCell ⟨w.heap.size+1+1,0,none⟩ (.int .i64 Pl.zero.lv)).setCell ⟨w.heap.size+1+1,1,none⟩ (.bool Pl.zero.neg)).setCell ⟨w.heap.size+1+1,2,none⟩ (.slice none 0 0)).setCell ⟨w.heap.size+1+1,3,none⟩ (.slice none 0 0))):=by
    have e:p.mul q=Pl.zero:=by rw [HM.out,(Pl.zero_isZ HH.out.cb).1 hb0,Pl.mul_zero_r]
    rw [e];exact vk (p:=Pl.zero) (q:=fun _=>False) X2.out (by omega) HZ2.out (Pl.zero_v _ _ none 0 (by omega)) (fun b _ h=>h.elim)
   simp only [Pl.zero,Pl.lv,Pl.neg] at HF;clear hb0;go_wp2_with fail;exact bodyPost_ret (v:=plV Pl.zero (.slice none 0 0) (.slice none 0 0)) (by simp [results,Tryz.results58,go_sem,z0,z1,z2,z3,plV,Pl.zero,Pl.lv,Pl.neg]) rfl HF.out
 have hb0':b.isZ=false:=by simpa using hb0
 rw [hb0'];have HB0:=Lib.hid hb0;clear hb0 hb0';have halv:=HH.out.ca.lv_nonneg;have hblv:=HH.out.cb.lv_nonneg;have hord:=HH.out.ord;have hne:=HH.out.ne
 by_cases hl:a.lv=0
 · have hbl:b.lv=0:=by omega
   have HAL:=Lib.hid (xav HH.out.ca hl);have HBL:=Lib.hid (xav HH.out.cb hbl);have hpa:=HH.out.pa.ext (HX0.out.trans X2.out);have hpb:=HH.out.pb.ext (HX0.out.trans X2.out);have hia:yh w2 (.agg #[.bool a.neg,.slice sa1 sa2 sa3]) a.z a.ds.length:=by
    obtain ⟨A1,n1,c1,A2,c2,e,hn,-⟩:=hpa.open_;unfold plV at e;simp only [Value.agg.injEq,Array.mk.injEq,List.cons.injEq,and_true,true_and] at e;rw [e.1];exact ⟨_,_,_,rfl,hn,rfl,Nat.le_refl _⟩
   have hib:yh w2 (.agg #[.bool b.neg,.slice sb1 sb2 sb3]) b.z b.ds.length:=by
    obtain ⟨A1,n1,c1,A2,c2,e,hn,-⟩:=hpb.open_;unfold plV at e;simp only [Value.agg.injEq,Array.mk.injEq,List.cons.injEq,and_true,true_and] at e;rw [e.1];exact ⟨_,_,_,rfl,hn,rfl,Nat.le_refl _⟩
   have HMU:=Lib.hid (vae _ _ a.z b.z _ _ w2 hia hib HH.out.dig);have q1:(a.lv == 0)=true:=by simpa using hl
   have hlz:a.lv=0:=hl;have HLA:=Lib.hid hl;clear hpa hpb hia hib hbl hl halv hblv hord hne hlz;go_wp2_with fail;clear b0 b1 b2 b3 e0 e1 e2 e3 z0 z1 z2 z3 zf;refine HMU.out.mono ?_;rintro e w3 ⟨x,rfl,⟨v1,rfl,hv1⟩,x3⟩;obtain ⟨A1,d1,rfl,-⟩:=id hv1;have hz3:=HZ2.out.ext x3 (by omega);have HF:Hid (qi (fun i=>w.heap.size<=i) (p.mul q) w (.returned (plV (Pl.const (a.z * b.z)) (.slice A1 (dg (a.z * b.z).natAbs).length d1) (.slice none 0 0))) ((((w3.setCell ⟨w.heap.size+1+1,0,none⟩ (.int .i64 0)).setCell ⟨w.heap.size+1+1,1,none⟩ (.bool (decide (a.z * b.z < 0)))).setCell ⟨w.heap.size+1+1,2,none⟩ (.slice A1 (dg (a.z * b.z).natAbs).length d1)).setCell ⟨w.heap.size+1+1,3,none⟩ (.slice none 0 0))):=by
    have e:p.mul q=Pl.const (a.z * b.z):=by rw [HM.out,<- Pl.const_mul,<- HAL.out,<- HBL.out]
    rw [e];exact vk (p:=Pl.const (a.z * b.z)) (q:=fun _=>False) (X2.out.trans x3) (by omega) hz3 (PlV.mk (t:=Pl.const (a.z * b.z)) hv1 (Nat.le_refl _) (by simp [Pl.cs,Pl.const]) (by unfold Pl.const Pl.cs jd; trivial)) (fun b _ h=>h.elim)
   obtain ⟨⟨z0,z1,z2,z3⟩,zf⟩:=hz3;clear x3 HMU hv1;generalize a.z * b.z=z at *;go_wp2_with fail;exact bodyPost_ret (v:=plV (Pl.const z) (.slice A1 (dg z.natAbs).length d1) (.slice none 0 0)) (by simp [results,Tryz.results58,go_sem,z0,z1,z2,z3,plV,Pl.const,Pl.lv,Pl.neg]) rfl HF.out
 · have hlt:b.lv < a.lv:=by
    have:a.lv ≠ b.lv:=fun e=>hl (hne e)
    omega
   have HUP:=Lib.hid (Pl.mul_up_ HH.out.ca HH.out.cb hlt (fun e=>HB0.out ((Pl.zero_isZ HH.out.cb).2 e)));have q1:(a.lv == 0)=false:=by simpa using hl
   have hlen:=HH.out.len;obtain ⟨A1,n1,c1,A2,c2,e,-,hl1,hl2,hat⟩:=HH.out.pa.open_;unfold plV at e;simp only [Value.agg.injEq,Array.mk.injEq,List.cons.injEq,and_true,true_and,Value.slice.injEq] at e;obtain ⟨-,rfl,rfl⟩:=e;have HAT:=Lib.hid hat;obtain ⟨V,hmk,hVx,hVs,hrow⟩:=jal (a.cs.length:Int) (by omega) (by omega) w2;rw [Int.toNat_natCast] at hmk hrow;have HROW:=Lib.hid (hrow (fun i=>w2.heap.size<=i));have HVX:=Lib.hid hVx;obtain ⟨f0,f1,f2,f3⟩:=HB3.out.ext hVx (by omega);clear hat hrow hVx hl halv hblv hord hne HA0;go_wp2_with fail;clear hmk b0 b1 b2 b3 e0 e1 e2 e3 f0 f1 f2 f3 z0 z1 z2 z3 zf
   go_loopw [55] (fun iv wr=>∃ k:Nat,k<=a.cs.length/\iv=.int .i64 k/\Hid ((∃ L:List Pl,L.length=a.cs.length/\L.take k=(a.cs.map fun c=>c.mul b).take k/\qal wr (fun i=>w2.heap.size<=i) w2.heap.size L)/\Ext w2 wr)) (fun iv _=>a.cs.length - (intOf iv).toNat)
   case atStart=>exact ⟨0,Nat.zero_le _,rfl,⟨⟨_,List.length_replicate,by simp,HROW.out⟩,HVX.out⟩⟩
   case round =>
    obtain ⟨k,hk,rfl,⟨⟨L,hLl,hLt,hrow⟩,hx⟩⟩:=hrel;have HX:=Lib.hid hx;have HROWk:=Lib.hid hrow;have HLT:=Lib.hid hLt;have hws:=hx.size;obtain ⟨b0,b1,b2,b3⟩:=HB3.out.ext hx (by omega);have hRlt:w2.heap.size < wr.heap.size:=hrow.1;clear hx hrow hLt HVX HROW
    by_cases hlt:k < a.cs.length
    · obtain ⟨ad,C0,j0,g0,C1,j1,g1,rfl,hadb,hnd,hkt⟩:=jd.kid HAT.out k hlt;have hxx:Ext w0 wr:=(HX0.out.trans X2.out).trans HX.out;obtain ⟨a0,a1,a2,a3⟩:=hnd.ext hxx (by rw [ja]; exact hadb);have HC2:=Lib.hid (fun W' (hxW:Ext wr W')=>HH.out.ih k hlt _ hkt W' (hxx.trans hxW));have HSET:Hid ((L.set k (a.cs[k].mul b)).take (k+1)=(a.cs.map fun c=>c.mul b).take (k+1)):=by
       have h1:=kae L (a.cs.map fun c=>c.mul b) k HLT.out (by omega) (by rw [List.length_map]; exact hlt);rw [List.getElem_map] at h1;exact h1
      unfold plV at HC2;obtain ⟨U,hU⟩:∃ U,wr.alloc (.cells #[.int .i64 a.cs[k].lv,.bool a.cs[k].neg,.slice C0 j0 g0,.slice C1 j1 g1] 35)=U:=⟨_,rfl⟩;have hUx:Ext wr U:=by rw [<- hU]; exact (Ext.refl _).alloc _
      have hUs:U.heap.size=wr.heap.size+1:=by rw [<- hU]; simp
      obtain ⟨y0,y1,y2,y3⟩:uf U wr.heap.size a.cs[k] (.slice C0 j0 g0) (.slice C1 j1 g1):=by rw [<- hU]; exact uf.new wr a.cs[k] _ _ _
      obtain ⟨e0,e1,e2,e3⟩:=HB4.out.ext (HX.out.trans hUx) (by omega);have HUX:=Lib.hid hUx;generalize hres:a.cs[k].mul b=res at *;generalize a.cs[k]=ck at *;clear hnd hkt hadb hxx HLT hres hUx;go_wp2_with fail;clear hU y0 y1 y2 y3;refine (HC2.out _ HUX.out).mono ?_;rintro e w3 ⟨v3,rfl,p3,x3⟩;have x3':Ext wr w3:=HUX.out.trans x3;obtain ⟨C0,j0,f0,C1,f1,rfl,-⟩:=id p3.open_;have hr3:=HROWk.out.ext x3';obtain ⟨D0,n2,g0,D1,n3,g1,⟨r0,r1,r2,r3⟩,-⟩:=hr3.2.2 k (by omega);have hfr:=hr3.2.1;have hst:=(hr3.set_ k (by omega) res (p3.mono fun i hi=>by
       have hi':wr.heap.size+1<=i:=by rw [<- hUs]; exact hi
       exact ⟨by omega,by omega⟩)).1
      simp only at r0 r1 r2 r3;have HST:=Lib.hid hst;have X3:=Lib.hid (HX.out.trans x3');unfold plV;clear hr3 hst p3 x3 x3' HC2 HROWk a0 a1 a2 a3 b0 b1 b2 b3 e0 e1 e2 e3 HUX hUs;go_wp2_with fail
      go_roundw
      case rel=>exact ⟨k+1,by omega,by go_num,⟨_,by rw [List.length_set]; exact hLl,HSET.out,HST.out⟩,(((X3.out.setCell (Nat.le_refl _) _).setCell (Nat.le_refl _) _).setCell (Nat.le_refl _) _).setCell (Nat.le_refl _) _⟩
      case measure=>simp [intOf]; omega
    · have hke:k=a.cs.length:=by omega
      have hLe:L=a.cs.map fun c=>c.mul b:=by
       have h:=HLT.out;rw [hke,show a.cs.length=(a.cs.map fun c=>c.mul b).length by rw [List.length_map],List.take_length,List.length_map,<- hLl,List.take_length] at h;exact h
      have hz3:=HZ2.out.ext HX.out (by omega);have hfin:=HROWk.out.fin (Nat.le_refl _);rw [hLe] at hfin;have HF:Hid (qi (fun i=>w.heap.size<=i) (p.mul q) w (.returned (plV (.mk a.lv false [] (a.cs.map fun c=>c.mul b)) (.slice none 0 0) (.slice (some ⟨w2.heap.size,0,none⟩) a.cs.length a.cs.length))) ((((wr.setCell ⟨w.heap.size+1+1,0,none⟩ (.int .i64 a.lv)).setCell ⟨w.heap.size+1+1,1,none⟩ (.bool false)).setCell ⟨w.heap.size+1+1,2,none⟩ (.slice none 0 0)).setCell ⟨w.heap.size+1+1,3,none⟩ (.slice (some ⟨w2.heap.size,0,none⟩) a.cs.length a.cs.length))):=by
       rw [HM.out,HUP.out];have h1:=PlV.mk (t:=.mk a.lv false [] (a.cs.map fun c=>c.mul b)) (c:=a.cs.length) (jb.nil wr) (by simp [Pl.cs]) (by omega) hfin;rw [show (Pl.mk a.lv false [] (a.cs.map fun c=>c.mul b)).cs.length=a.cs.length by simp [Pl.cs]] at h1;exact vk (p:=.mk a.lv false [] (a.cs.map fun c=>c.mul b)) (q':=fun i=>w.heap.size<=i) (X2.out.trans HX.out) (by omega) hz3 h1 (fun b _ hb=>⟨by omega,by omega⟩)
      obtain ⟨⟨z0,z1,z2,z3⟩,zf⟩:=hz3;clear hfin HROWk HLT hLe;go_wp2_with fail;exact bodyPost_ret (v:=plV (.mk a.lv false [] (a.cs.map fun c=>c.mul b)) (.slice none 0 0) (.slice (some ⟨w2.heap.size,0,none⟩) a.cs.length a.cs.length)) (by simp [results,Tryz.results58,go_sem,z0,z1,z2,z3,plV,Pl.lv,Pl.neg]) rfl HF.out
/- Layer 22: recpoly.Const, mul by a constant, scale, Scale, Neg. -/
set_option maxRecDepth 100000
set_option maxHeartbeats 8000000
theorem yh.lt {w:World} {x:Value} {z:Int} {L:Nat} (h:yh w x z L):z.natAbs < B32 ^ L:=by
 obtain ⟨n,s,ds,rfl,hn,hz,hl⟩:=h;rw [hz,jr];exact Nat.lt_of_lt_of_le (qx (jb.digs hn)) (Nat.pow_le_pow_right (by decide) hl)
theorem za2 {w:World} {s:Value} {z:Int} {L:Nat} (h:jb w s (dg z.natAbs)) (hL:(dg z.natAbs).length<=L):yh w (.agg #[.bool (decide (z < 0)),s]) z L:=⟨_,_,_,rfl,h,by rw [je,vai],hL⟩
theorem zb5 (z:Int) (s A:Value):plV (Pl.const z) s A=.agg #[.int .i64 0,.bool (decide (z < 0)),s,A]:=rfl
theorem zb9 {w:World} {s:Value} {z:Int} (q:Nat->Prop) (h:jb w s (dg z.natAbs)):PlV w q (Pl.const z) (plV (Pl.const z) s (.slice none 0 0)):=
 PlV.mk (t:=Pl.const z) (A:=none) (c:=0) h (Nat.le_refl _) (by omega) (by unfold Pl.const Pl.cs jd; trivial)
theorem wbw {w:World} {z:Int} {L:Nat} (v0:Value) (h0:yh w v0 z L) (hL:L<=35184372088832):Calls Tryz.prog 27 #[v0] w (qi (fun b=>w.heap.size<=b) (Pl.const z) w):=by
 have H0:=Lib.hid h0;obtain ⟨n0,s0,e0,rfl,⟨A0,c0,rfl,-,-,-⟩,-,-⟩:=h0;obtain ⟨W,hW⟩:∃ W,(w.alloc (.cells #[.bool n0,.slice A0 e0.length c0] 33)).alloc (.cells #[.int .i64 0,.bool false,.slice none 0 0,.slice none 0 0] 35)=W:=⟨_,rfl⟩;have hWx:Ext w W:=by rw [<- hW]; exact ((Ext.refl w).alloc _).alloc _
 have hWs:W.heap.size=w.heap.size+1+1:=by rw [<- hW]; simp
 have HX0:=Lib.hid hWx;have HS:Hid (∀ W',Ext W W'->(Ext w W'/\W'.cell? ⟨w.heap.size,0,none⟩=some (.bool n0)/\W'.cell? ⟨w.heap.size,1,none⟩=some (.slice A0 e0.length c0))):=by
  have:∀ W',Ext W W'->(Ext w W'/\W'.cell? ⟨w.heap.size,0,none⟩=some (.bool n0)/\W'.cell? ⟨w.heap.size,1,none⟩=some (.slice A0 e0.length c0)):=fun W' hx=>by
   obtain ⟨hc,hf⟩:=hx.cells;refine ⟨hWx.trans hx,?_,?_⟩ <;> (rw [hc _ _ (by omega),<- hW]; simp [go_sem])
  exact this
 have HZ:Hid (ql W (w.heap.size+1)):=by
  have:ql W (w.heap.size+1):=by
   rw [<- hW];refine ⟨⟨?_,?_,?_,?_⟩,fun i=>?_⟩ <;> simp [go_sem]
  exact this
 obtain ⟨-,b0,b1⟩:=HS.out W (Ext.refl W);clear hWx;go_enter Tryz.func27,Tryz.ntmps27;go_wp2_with fail;clear hW b0 b1;refine (gak _ z L _ (H0.out.ext HX0.out) hL).mono ?_;rintro e w1 ⟨z1,rfl,⟨y1,rfl,m1⟩,x1⟩;obtain ⟨C1,k1,rfl,-⟩:=id m1;have YY1:=Lib.hid (x1);have hzn:=HZ.out.ext YY1.out (by omega);have hsn:=(YY1.out:Ext W _).size
 have HF:Hid (qi (fun b=>w.heap.size<=b) (Pl.const z) w (.returned (plV (Pl.const z) (.slice C1 (dg z.natAbs).length k1) (.slice none 0 0))) ((((w1.setCell ⟨w.heap.size+1,0,none⟩ (.int .i64 0)).setCell ⟨w.heap.size+1,1,none⟩ (.bool (decide (z < 0)))).setCell ⟨w.heap.size+1,2,none⟩ (.slice C1 (dg z.natAbs).length k1)).setCell ⟨w.heap.size+1,3,none⟩ (.slice none 0 0))):=
  vk (p:=Pl.const z) (q:=fun _=>False) (HX0.out.trans YY1.out) (by omega) hzn (zb9 _ m1) (fun b _ h=>h.elim)
 obtain ⟨⟨r0,r1,r2,r3⟩,rf⟩:=hzn;clear m1 x1 HS HZ;go_wp2_with fail;exact bodyPost_ret (v:=plV (Pl.const z) (.slice C1 (dg z.natAbs).length k1) (.slice none 0 0)) (by simp [results,Tryz.results27,go_sem,r0,r1,r2,r3,zb5]) rfl HF.out
theorem ycp (w0:World) (z:Int) (u:Value) (E D G:Nat) (hE:E<=1000000) (hD:D+G<=35184372088000) (hz:z.natAbs < B32 ^ G) (k:PlV w0 (fun _=>True) (Pl.const z) u) (n:Nat) :
 ∀ (p:Pl) (v:Value) (w:World),p.sz < n->Fit p E D->PlV w0 (fun _=>True) p v->Ext w0 w->Calls Tryz.prog 58 #[v,u] w (qi (fun i=>w.heap.size<=i) (p.mul (Pl.const z)) w):=by
 induction n with
 | zero=>intro p v w h; omega
 | succ n ih =>
   intro p v w hn hp h hx;refine zcp (F:=0) p (Pl.const z) v u hp (Fit.const hz) hE (by omega) hD h k hx (fun e=>e) (fun a h1 x pa W' hx'=>?_) (fun a h1=>by simp [Pl.const,Pl.cs] at h1);obtain ⟨l,ng,ds,cs⟩:=p;have hl:0 < l:=by
    have:=hp.can;unfold Pl.Can at this;rcases this with h | h
    · simp only [Pl.cs,h.2.1] at h1; cases h1
    · omega
   exact ih a x W' (by have:=Pl.sz_kid h1; omega) (hp.kid hl h1) pa hx'
theorem kcf {w:World} {q q':Nat->Prop} {z:Int} {E D G:Nat} (p:Pl) (v u:Value) (hp:Fit p E D) (hz:z.natAbs < B32 ^ G) (hE:E<=1000000) (hD:D+G<=35184372088000) (h:PlV w q p v) (k:PlV w q' (Pl.const z) u):Calls Tryz.prog 58 #[v,u] w (qi (fun i=>w.heap.size<=i) (p.mul (Pl.const z)) w):=
 ycp w z u E D G hE hD hz (k.mono fun _ _=>trivial) (p.sz+1) p v w (Nat.lt_succ_self _) hp (h.mono fun _ _=>trivial) (Ext.refl w)
theorem yau {w:World} {p:Pl} {z:Int} {L E D:Nat} {q0:Nat->Prop} (v0:Value) (v1:Value) (h0:PlV w q0 p v0) (h1:yh w v1 z L) (hp:Fit p E D) (hE:E<=1000000) (hD:D+L<=35184372088000):Calls Tryz.prog 70 #[v0,v1] w (qi (fun b=>w.heap.size<=b) (p.mul (Pl.const z)) w):=by
 have H0:=Lib.hid h0;obtain ⟨A0,n0,c0,B0,d0,rfl,-,-,-,-⟩:=h0.open_;clear h0;have H1:=Lib.hid h1;obtain ⟨n1,s1,e1,rfl,⟨A1,c1,rfl,-,-,-⟩,-,-⟩:=h1;obtain ⟨W,hW⟩:∃ W,((w.alloc (.cells #[.int .i64 (p).lv,.bool (p).neg,.slice A0 n0 c0,.slice B0 (p).cs.length d0] 35)).alloc (.cells #[.bool n1,.slice A1 e1.length c1] 33)).alloc (.cells #[.int .i64 0,.bool false,.slice none 0 0,.slice none 0 0] 35)=W:=⟨_,rfl⟩;have hWx:Ext w W:=by rw [<- hW]; exact (((Ext.refl w).alloc _).alloc _).alloc _
 have hWs:W.heap.size=w.heap.size+1+1+1:=by rw [<- hW]; simp
 have HX0:=Lib.hid hWx;have HS:Hid (∀ W',Ext W W'->(Ext w W'/\W'.cell? ⟨w.heap.size,0,none⟩=some (.int .i64 (p).lv)/\W'.cell? ⟨w.heap.size,1,none⟩=some (.bool (p).neg)/\W'.cell? ⟨w.heap.size,2,none⟩=some (.slice A0 n0 c0)/\W'.cell? ⟨w.heap.size,3,none⟩=some (.slice B0 (p).cs.length d0)/\W'.cell? ⟨w.heap.size+1,0,none⟩=some (.bool n1)/\W'.cell? ⟨w.heap.size+1,1,none⟩=some (.slice A1 e1.length c1))):=by
  have:∀ W',Ext W W'->(Ext w W'/\W'.cell? ⟨w.heap.size,0,none⟩=some (.int .i64 (p).lv)/\W'.cell? ⟨w.heap.size,1,none⟩=some (.bool (p).neg)/\W'.cell? ⟨w.heap.size,2,none⟩=some (.slice A0 n0 c0)/\W'.cell? ⟨w.heap.size,3,none⟩=some (.slice B0 (p).cs.length d0)/\W'.cell? ⟨w.heap.size+1,0,none⟩=some (.bool n1)/\W'.cell? ⟨w.heap.size+1,1,none⟩=some (.slice A1 e1.length c1)):=fun W' hx=>by
   obtain ⟨hc,hf⟩:=hx.cells;refine ⟨hWx.trans hx,?_,?_,?_,?_,?_,?_⟩ <;> (rw [hc _ _ (by omega),<- hW]; simp [go_sem])
  exact this
 have HZ:Hid (ql W (w.heap.size+1+1)):=by
  have:ql W (w.heap.size+1+1):=by
   rw [<- hW];refine ⟨⟨?_,?_,?_,?_⟩,fun i=>?_⟩ <;> simp [go_sem]
  exact this
 have HS2:Hid (∀ W'' u0 u1 u2 u3,Ext W W''->∀ W',W'=(((W''.setCell ⟨w.heap.size+1+1,0,none⟩ u0).setCell ⟨w.heap.size+1+1,1,none⟩ u1).setCell ⟨w.heap.size+1+1,2,none⟩ u2).setCell ⟨w.heap.size+1+1,3,none⟩ u3->(Ext w W'/\W'.cell? ⟨w.heap.size,0,none⟩=some (.int .i64 (p).lv)/\W'.cell? ⟨w.heap.size,1,none⟩=some (.bool (p).neg)/\W'.cell? ⟨w.heap.size,2,none⟩=some (.slice A0 n0 c0)/\W'.cell? ⟨w.heap.size,3,none⟩=some (.slice B0 (p).cs.length d0)/\W'.cell? ⟨w.heap.size+1,0,none⟩=some (.bool n1)/\W'.cell? ⟨w.heap.size+1,1,none⟩=some (.slice A1 e1.length c1))):=by
  have:∀ W'' u0 u1 u2 u3,Ext W W''->∀ W',W'=(((W''.setCell ⟨w.heap.size+1+1,0,none⟩ u0).setCell ⟨w.heap.size+1+1,1,none⟩ u1).setCell ⟨w.heap.size+1+1,2,none⟩ u2).setCell ⟨w.heap.size+1+1,3,none⟩ u3->(Ext w W'/\W'.cell? ⟨w.heap.size,0,none⟩=some (.int .i64 (p).lv)/\W'.cell? ⟨w.heap.size,1,none⟩=some (.bool (p).neg)/\W'.cell? ⟨w.heap.size,2,none⟩=some (.slice A0 n0 c0)/\W'.cell? ⟨w.heap.size,3,none⟩=some (.slice B0 (p).cs.length d0)/\W'.cell? ⟨w.heap.size+1,0,none⟩=some (.bool n1)/\W'.cell? ⟨w.heap.size+1,1,none⟩=some (.slice A1 e1.length c1)):=fun W'' u0 u1 u2 u3 hx W' hW'=>by
   obtain ⟨s1,k0,k1,k2,k3,k4,k5⟩:=HS.out W'' hx;rw [hW'];refine ⟨(((s1.setCell (by simp; try omega) _).setCell (by simp; try omega) _).setCell (by simp; try omega) _).setCell (by simp; try omega) _,?_,?_,?_,?_,?_,?_⟩ <;> rw [World.cell?_setCell_other _ _ _ _ (by simp; try omega),World.cell?_setCell_other _ _ _ _ (by simp; try omega),World.cell?_setCell_other _ _ _ _ (by simp; try omega),World.cell?_setCell_other _ _ _ _ (by simp; try omega)] <;> assumption
  exact this
 have HFP:=Lib.hid hp;have HZL:=Lib.hid (yh.lt H1.out);clear hp;obtain ⟨-,b0,b1,b2,b3,b4,b5⟩:=HS.out W (Ext.refl W);clear hWx;unfold plV at *;go_enter Tryz.func70,Tryz.ntmps70;go_wp2_with fail;clear hW b0 b1 b2 b3 b4 b5;have yy0:Ext W W.drew:=(Ext.refl W).drew;have Y0:=Lib.hid yy0;clear yy0
 go_region_held3 (fun W' => Ext w W' /\ W'.cell? ⟨w.heap.size, 0, none⟩ = some (.int .i64 (p).lv) /\ W'.cell? ⟨w.heap.size, 1, none⟩ = some (.bool (p).neg) /\ W'.cell? ⟨w.heap.size, 2, none⟩ = some (.slice A0 n0 c0) /\ W'.cell? ⟨w.heap.size, 3, none⟩ = some (.slice B0 (p).cs.length d0) /\ W'.cell? ⟨w.heap.size + 1, 0, none⟩ = some (.bool n1) /\ W'.cell? ⟨w.heap.size + 1, 1, none⟩ = some (.slice A1 e1.length c1))
  (first | with_reducible exact HS.out _ Y0.out | with_reducible exact HS.out _ yy1 | with_reducible exact HS.out _ yy2 | exact HS2.out _ _ _ _ _ yy2 _ rfl)
  (first
    | (go_at_call 27
       refine (wbw _ (H1.out.ext (HX0.out.trans Y0.out)) (by omega)).mono ?_;rintro e w1 ⟨z1,rfl,m1,x1⟩;obtain ⟨C1,i1,j1,D1,k1,rfl,-⟩:=id m1.open_;have yy1:Ext W w1:=Ext.trans Y0.out x1
       unfold plV)
    | (go_at_call 58
       refine (kcf (G:=L) p _ _ HFP.out HZL.out hE hD (H0.out.ext (HX0.out.trans yy1)) m1).mono ?_;rintro e w2 ⟨z2,rfl,m2,x2⟩;obtain ⟨C2,i2,j2,D2,k2,rfl,-⟩:=id m2.open_;have yy2:Ext W w2:=Ext.trans yy1 x2
       replace m1:=m1.ext x2
       obtain ⟨⟨r0,r1,r2,r3⟩,rf⟩:=HZ.out.ext yy2 (by omega)
       unfold plV))
 have hzn:=HZ.out.ext yy2 (by omega);have hsn:=(yy2:Ext W _).size;have hsp:=(yy1:Ext W _).size;have HF:=Lib.hid (vk (q':=fun b=>w.heap.size<=b) (HX0.out.trans yy2) (by omega) hzn m2 (fun b _ hb=>⟨by omega,by omega⟩));clear m2 x2 m1 x1 yy2 yy1 HS2 HS HZ
 try unfold plV
 go_wp2_with fail;exact bodyPost_ret (by simp [results,Tryz.results70,go_sem,r0,r1,r2,r3,plV]) rfl HF.out
/- Equality of integers and of polynomials: cylinderref34.SameInt, cylinderref38.SamePoly, integer.Same, recpoly.same, Same. -/
set_option maxRecDepth 100000
set_option maxHeartbeats 8000000
noncomputable def eqB {α:Type} (a b:α):Bool:=@decide (a=b) (Classical.propDecidable _)
theorem ybu {α:Type} {a b:α}:eqB a b=true ↔ a=b:=by unfold eqB; exact @decide_eq_true_iff _ (Classical.propDecidable _)
theorem xad {α:Type} {a b:α} (h:a ≠ b):eqB a b=false:=by
 cases hb:eqB a b
 · rfl
 · exact absurd (ybu.1 hb) h
theorem qao {α:Type} {a b:α} (h:a=b):eqB a b=true:=ybu.2 h
theorem gay {α:Type} {l r:List α} {k:Nat} (h:l.take k=r.take k) (hl:k < l.length) (hr:k < r.length) (he:l[k]=r[k]):l.take (k+1)=r.take (k+1):=by
 rw [List.take_succ_eq_append_getElem hl,List.take_succ_eq_append_getElem hr,h,he]
theorem va5 {α:Type} {l r:List α} (h:l.length=r.length) (he:l.take l.length=r.take l.length):l=r:=by
 rw [List.take_length] at he;rw [he,h,List.take_length]
theorem qbp {w:World} (n1 n2:Bool) (s1 s2:Value) (ds es:List Nat) (h1:jb w s1 ds) (h2:jb w s2 es):Calls Tryz.prog 94 #[.agg #[.bool n1,s1],.agg #[.bool n2,s2]] w (jab (eqB (n1,ds) (n2,es)) w):=by
 obtain ⟨A,c,rfl,a1,a2,a3⟩:=h1;obtain ⟨B,d,rfl,b1,b2,b3⟩:=h2;have H1:=Lib.hid a3;have H2:=Lib.hid b3;clear a3 b3;obtain ⟨W,hW⟩:∃ W,(w.alloc (.cells #[.bool n1,.slice A ds.length c] 33)).alloc (.cells #[.bool n2,.slice B es.length d] 33)=W:=⟨_,rfl⟩;have hWx:Ext w W:=by rw [<- hW]; exact ((Ext.refl w).alloc _).alloc _
 have q0:W.cell? ⟨w.heap.size,0,none⟩=some (.bool n1):=by rw [<- hW]; simp [go_sem]
 have q1:W.cell? ⟨w.heap.size,1,none⟩=some (.slice A ds.length c):=by rw [<- hW]; simp [go_sem]
 have q2:W.cell? ⟨w.heap.size+1,0,none⟩=some (.bool n2):=by rw [<- hW]; simp [go_sem]
 have q3:W.cell? ⟨w.heap.size+1,1,none⟩=some (.slice B es.length d):=by rw [<- hW]; simp [go_sem]
 have HWX:=Lib.hid hWx;clear hWx;obtain ⟨res,hres⟩:∃ res,eqB (n1,ds) (n2,es)=res:=⟨_,rfl⟩;rw [hres];have HRES:=Lib.hid hres;clear hres;go_enter Tryz.func94,Tryz.ntmps94
 by_cases hn:n1=n2
 case neg =>
  have HF:Hid (res=false):=Lib.hid (HRES.out.symm.trans (xad fun e=>hn (by injection e)));have h3:(n1 != n2)=true:=by simpa using hn
  have h4:((!n1) == n2)=true:=by cases n1 <;> cases n2 <;> simp_all
  go_wp2_with fail;go_ret;exact ⟨by rw [HF.out]; rfl,HWX.out⟩
 subst hn;have hneg:(n1 != n1)=false:=by simp
 have hneg2:((!n1) == n1)=false:=by cases n1 <;> rfl
 by_cases hl:ds.length=es.length
 case neg =>
  have HF:Hid (res=false):=Lib.hid (HRES.out.symm.trans (xad fun e=>hl (by injection e with _ e; rw [e])));go_wp2_with fail;go_ret;exact ⟨by rw [HF.out]; rfl,HWX.out⟩
 have HL:=Lib.hid hl;rw [<- hl] at q3 hW b1;rw [<- hl];clear hl;go_wp2_with fail;clear hW
 go_loopw [23] (fun iv wr=>∃ k n:Nat,k<=ds.length/\iv=.int .i64 k/\wr=W.drewN n/\Hid (ds.take k=es.take k)) (fun iv _=>ds.length - (intOf iv).toNat)
 case atStart=>exact ⟨0,0,Nat.zero_le _,rfl,rfl,Lib.hid (by simp)⟩
 case round =>
  obtain ⟨k,n,hk,rfl,rfl,HT⟩:=hrel
  by_cases hlt:k < ds.length
  · have hlt':k < es.length:=by have:=HL.out; omega
    obtain ⟨ad,rfl,hb,hcell,hd⟩:=(H1.out.ext HWX.out).at_ k hlt;obtain ⟨ad',rfl,hb',hcell',hd'⟩:=(H2.out.ext HWX.out).at_ k hlt'
    by_cases he:ds[k]=es[k]
    · have HT2:=Lib.hid (gay HT.out hlt hlt' he);rw [<- he] at hcell';clear he hd';generalize ds[k]=x at *;go_upto_region 6 with fail
      go_quiet (fail)
      go_wp2_with fail;exact ⟨⟨k+1,n+nq,by omega,by go_num,rfl,HT2⟩,by simp [intOf]; omega⟩
    · have HF:Hid (res=false):=Lib.hid (HRES.out.symm.trans (xad fun e=>he (by injection e with _ e; subst e; rfl)));generalize ds[k]=x at *;generalize es[k]=y at *;go_upto_region 6 with fail
      go_quiet (fail)
      go_wp2_with fail;go_ret;exact ⟨by rw [HF.out]; rfl,(HWX.out.drewN n).drewN nq⟩
  · have HF:Hid (res=true):=Lib.hid (HRES.out.symm.trans (qao (by
     have h1:=HT.out;rw [show k=ds.length by omega] at h1
     rw [va5 HL.out h1])))
    go_wp2_with fail;go_ret;exact ⟨by rw [HF.out]; rfl,HWX.out.drewN n⟩
theorem Pl.ext_ {p q:Pl} (h1:p.lv=q.lv) (h2:p.neg=q.neg) (h3:p.ds=q.ds) (h4:p.cs=q.cs):p=q:=by
 obtain ⟨l,n,d,c⟩:=p;obtain ⟨l',n',d',c'⟩:=q;simp only [Pl.lv,Pl.neg,Pl.ds,Pl.cs] at h1 h2 h3 h4;rw [h1,h2,h3,h4]
def wcy (w0:World) (n:Nat):Prop:=∀ (p q:Pl) (v u:Value) (w:World),p.sz < n->p.sz<=1099511627776->PlV w0 (fun _=>True) p v->PlV w0 (fun _=>True) q u->Ext w0 w->Calls Tryz.prog 44 #[v,u] w (jab (eqB p q) w)
theorem wcx (w0:World) (n:Nat):wcy w0 n:=by
 induction n with
 | zero=>intro p q v u w h; omega
 | succ n ih =>
 intro p q v u w hn hsz h h' hx0;have IH:=Lib.hid ih;have HX0:=Lib.hid hx0;have HSZ:Hid (∀ k (hk:k < p.cs.length),p.cs[k].sz < n/\p.cs[k].sz<=1099511627776):=by
  have:∀ k (hk:k < p.cs.length),p.cs[k].sz < n/\p.cs[k].sz<=1099511627776:=fun k hk=>by have:=Pl.sz_kid (List.getElem_mem hk); omega
  exact this
 have hszl:=p.sz_len;obtain ⟨A0,n0,c0,A,c,rfl,hnat,hl1,hl2,h4⟩:=h.open_;obtain ⟨B0,m0,d0,B,d,rfl,hnat',hl1',hl2',h4'⟩:=h'.open_;have H4:=Lib.hid h4;have H4':=Lib.hid h4';have HN:=Lib.hid hnat;have HN':=Lib.hid hnat';obtain ⟨W,hW⟩:∃ W,(w.alloc (.cells #[.int .i64 p.lv,.bool p.neg,.slice A0 n0 c0,.slice A p.cs.length c] 35)).alloc (.cells #[.int .i64 q.lv,.bool q.neg,.slice B0 m0 d0,.slice B q.cs.length d] 35)=W:=⟨_,rfl⟩;have hWx:Ext w W:=by rw [<- hW]; exact ((Ext.refl w).alloc _).alloc _
 have hWs:W.heap.size=w.heap.size+1+1:=by rw [<- hW]; simp
 have hbx:uf W w.heap.size p (.slice A0 n0 c0) (.slice A p.cs.length c):=by rw [<- hW]; exact (uf.new w p _ _ _).ext ((Ext.refl _).alloc _) (by simp)
 have hby:uf W (w.heap.size+1) q (.slice B0 m0 d0) (.slice B q.cs.length d):=by
  rw [<- hW];have h1:=uf.new (w.alloc (.cells #[.int .i64 p.lv,.bool p.neg,.slice A0 n0 c0,.slice A p.cs.length c] 35)) q (.slice B0 m0 d0) (.slice B q.cs.length d) 35;simpa using h1
 have HWX:=Lib.hid hWx;have HBX:=Lib.hid hbx;have HBY:=Lib.hid hby;obtain ⟨b0,b1,b2,b3⟩:=hbx;obtain ⟨e0,e1,e2,e3⟩:=hby;clear h h' ih h4 h4' hx0 hnat hnat' hWx ;obtain ⟨res,hres⟩:∃ res,eqB p q=res:=⟨_,rfl⟩;rw [hres];have HRES:=Lib.hid hres;clear hres;unfold plV;go_enter Tryz.func44,Tryz.ntmps44
 by_cases hlv:p.lv=q.lv
 case neg =>
  have HF:Hid (res=false):=Lib.hid (HRES.out.symm.trans (xad fun e=>hlv (by rw [e])));have hlv2:(p.lv != q.lv)=true:=by simpa using hlv
  go_wp2_with fail;go_ret;exact ⟨by rw [HF.out]; rfl,HWX.out⟩
 by_cases hl:p.cs.length=q.cs.length
 case neg =>
  have HF:Hid (res=false):=Lib.hid (HRES.out.symm.trans (xad fun e=>hl (by rw [e])));have HL:=Lib.hid hlv;rw [<- hlv] at e0 hW;clear hlv;rw [<- HL.out];go_wp2_with fail;go_ret;exact ⟨by rw [HF.out]; rfl,HWX.out⟩
 have HLV:=Lib.hid hlv;have HL:=Lib.hid hl;rw [<- hlv] at e0 hW;rw [<- hl] at e3 hW hl1' HBY;rw [<- hlv,<- hl];clear hlv hl;have HSI:=Lib.hid (qbp p.neg q.neg _ _ p.ds q.ds (HN.out.ext (HX0.out.trans HWX.out)) (HN'.out.ext (HX0.out.trans HWX.out)));go_wp2_with fail;clear hW b0 b1 b2 b3 e0 e1 e2 e3;refine HSI.out.mono ?_;rintro e w1 ⟨rfl,x1⟩;obtain ⟨b0,b1,b2,b3⟩:=HBX.out.ext x1 (by omega);obtain ⟨e0,e1,e2,e3⟩:=HBY.out.ext x1 (by omega);have X1:=Lib.hid (HWX.out.trans x1);have hws:=x1.size;have HBX1:=Lib.hid (HBX.out.ext x1 (by omega));have HBY1:=Lib.hid (HBY.out.ext x1 (by omega));clear x1 HSI HN HN'
 by_cases hsi:(p.neg,p.ds)=(q.neg,q.ds)
 case neg =>
  have HF:Hid (res=false):=Lib.hid (HRES.out.symm.trans (xad fun e=>hsi (by rw [e])));rw [xad hsi];clear hsi;go_wp2_with fail;go_ret;exact ⟨by rw [HF.out]; rfl,X1.out⟩
 rw [qao hsi];have HND:=Lib.hid hsi;clear hsi;go_wp2_with fail;clear b0 b1 b2 b3 e0 e1 e2 e3
 go_loopw [31] (fun iv wr=>∃ k:Nat,k<=p.cs.length/\iv=.int .i64 k/\Hid (p.cs.take k=q.cs.take k/\Ext w1 wr)) (fun iv _=>p.cs.length - (intOf iv).toNat)
 case atStart=>exact ⟨0,Nat.zero_le _,rfl,⟨by simp,Ext.refl _⟩⟩
 case round =>
  obtain ⟨k,hk,rfl,⟨htk,hx⟩⟩:=hrel;have HX:=Lib.hid hx;have HT:=Lib.hid htk;obtain ⟨b0,b1,b2,b3⟩:=HBX1.out.ext hx (by omega);obtain ⟨e0,e1,e2,e3⟩:=HBY1.out.ext hx (by omega);have hws2:=hx.size;clear hx htk
  by_cases hlt:k < p.cs.length
  · have hlt':k < q.cs.length:=by have:=HL.out; omega
    obtain ⟨ad,C0,j0,f0,C1,j1,f1,rfl,hadb,hnd,hkt⟩:=jd.kid H4.out k hlt;obtain ⟨ad',D0,i0,g0,D1,i1,g1,rfl,hadb',hnd',hkt'⟩:=jd.kid H4'.out k hlt';have hxx:Ext w0 wr:=(HX0.out.trans X1.out).trans HX.out;have HNA:=Lib.hid (hnd.ext hxx (by rw [ja]; exact hadb));have HNB:=Lib.hid (hnd'.ext hxx (by rw [ja]; exact hadb'));have hb1:ad.block < wr.heap.size:=Nat.lt_of_lt_of_le hadb hxx.size;have hb2:ad'.block < wr.heap.size:=Nat.lt_of_lt_of_le hadb' hxx.size;have HKID:=Lib.hid (fun W' (hW':Ext wr W')=>IH.out p.cs[k] q.cs[k] _ _ W' (HSZ.out k hlt).1 (HSZ.out k hlt).2 hkt hkt' (hxx.trans hW'));have HSTEP:Hid (p.cs[k]=q.cs[k]->p.cs.take (k+1)=q.cs.take (k+1)):=Lib.hid (gay HT.out hlt hlt');have HNE:Hid (p.cs[k] ≠ q.cs[k]->res=false):=Lib.hid (fun hne=>HRES.out.symm.trans (xad fun e=>hne (by subst e; rfl)));unfold plV at HKID;generalize p.cs[k]=pk at *;generalize q.cs[k]=qk at *;have HSS:Hid (∀ W2,Ext wr W2->(Ext wr W2/\W2.cell? ⟨w.heap.size,3,none⟩=some (.slice (some ad) p.cs.length c)/\W2.cell? ⟨w.heap.size+1,3,none⟩=some (.slice (some ad') p.cs.length d)/\W2.cell? (Addr.add ad (k * 4))=some (.int .i64 pk.lv)/\W2.cell? ⟨(Addr.add ad (k * 4)).block,(Addr.add ad (k * 4)).off+1,none⟩=some (.bool pk.neg)/\W2.cell? ⟨(Addr.add ad (k * 4)).block,(Addr.add ad (k * 4)).off+2,none⟩=some (.slice C0 j0 f0)/\W2.cell? ⟨(Addr.add ad (k * 4)).block,(Addr.add ad (k * 4)).off+3,none⟩=some (.slice C1 j1 f1)/\W2.cell? (Addr.add ad' (k * 4))=some (.int .i64 qk.lv)/\W2.cell? ⟨(Addr.add ad' (k * 4)).block,(Addr.add ad' (k * 4)).off+1,none⟩=some (.bool qk.neg)/\W2.cell? ⟨(Addr.add ad' (k * 4)).block,(Addr.add ad' (k * 4)).off+2,none⟩=some (.slice D0 i0 g0)/\W2.cell? ⟨(Addr.add ad' (k * 4)).block,(Addr.add ad' (k * 4)).off+3,none⟩=some (.slice D1 i1 g1))):=by
     have:∀ W2,Ext wr W2->(Ext wr W2/\W2.cell? ⟨w.heap.size,3,none⟩=some (.slice (some ad) p.cs.length c)/\W2.cell? ⟨w.heap.size+1,3,none⟩=some (.slice (some ad') p.cs.length d)/\W2.cell? (Addr.add ad (k * 4))=some (.int .i64 pk.lv)/\W2.cell? ⟨(Addr.add ad (k * 4)).block,(Addr.add ad (k * 4)).off+1,none⟩=some (.bool pk.neg)/\W2.cell? ⟨(Addr.add ad (k * 4)).block,(Addr.add ad (k * 4)).off+2,none⟩=some (.slice C0 j0 f0)/\W2.cell? ⟨(Addr.add ad (k * 4)).block,(Addr.add ad (k * 4)).off+3,none⟩=some (.slice C1 j1 f1)/\W2.cell? (Addr.add ad' (k * 4))=some (.int .i64 qk.lv)/\W2.cell? ⟨(Addr.add ad' (k * 4)).block,(Addr.add ad' (k * 4)).off+1,none⟩=some (.bool qk.neg)/\W2.cell? ⟨(Addr.add ad' (k * 4)).block,(Addr.add ad' (k * 4)).off+2,none⟩=some (.slice D0 i0 g0)/\W2.cell? ⟨(Addr.add ad' (k * 4)).block,(Addr.add ad' (k * 4)).off+3,none⟩=some (.slice D1 i1 g1)):=fun W2 hx2=>by
      obtain ⟨a0,a1,a2,a3⟩:=HNA.out.ext hx2 (by rw [ja]; exact hb1);obtain ⟨a0',a1',a2',a3'⟩:=HNB.out.ext hx2 (by rw [ja]; exact hb2);exact ⟨hx2,(hx2.cell (p:=⟨w.heap.size,3,none⟩) (by show w.heap.size < _; omega)).trans b3,(hx2.cell (p:=⟨w.heap.size+1,3,none⟩) (by show w.heap.size+1 < _; omega)).trans e3,a0,a1,a2,a3,a0',a1',a2',a3'⟩
     exact this
    clear hnd hnd' hkt hkt' hxx hadb hadb';have y0:Ext wr wr.drew:=(Ext.refl wr).drew;have Y0:=Lib.hid y0;clear y0;go_upto_region 6 with fail;clear b0 b1 b2 b3 e0 e1 e2 e3
    go_region_held3 (fun W2 => Ext wr W2 /\ W2.cell? ⟨w.heap.size, 3, none⟩ = some (.slice (some ad) p.cs.length c) /\ W2.cell? ⟨w.heap.size + 1, 3, none⟩ = some (.slice (some ad') p.cs.length d) /\ W2.cell? (Addr.add ad (k * 4)) = some (.int .i64 pk.lv) /\ W2.cell? ⟨(Addr.add ad (k * 4)).block, (Addr.add ad (k * 4)).off + 1, none⟩ = some (.bool pk.neg) /\ W2.cell? ⟨(Addr.add ad (k * 4)).block, (Addr.add ad (k * 4)).off + 2, none⟩ = some (.slice C0 j0 f0) /\ W2.cell? ⟨(Addr.add ad (k * 4)).block, (Addr.add ad (k * 4)).off + 3, none⟩ = some (.slice C1 j1 f1) /\ W2.cell? (Addr.add ad' (k * 4)) = some (.int .i64 qk.lv) /\ W2.cell? ⟨(Addr.add ad' (k * 4)).block, (Addr.add ad' (k * 4)).off + 1, none⟩ = some (.bool qk.neg) /\ W2.cell? ⟨(Addr.add ad' (k * 4)).block, (Addr.add ad' (k * 4)).off + 2, none⟩ = some (.slice D0 i0 g0) /\ W2.cell? ⟨(Addr.add ad' (k * 4)).block, (Addr.add ad' (k * 4)).off + 3, none⟩ = some (.slice D1 i1 g1))
     (first | with_reducible exact HSS.out _ Y0.out | with_reducible exact HSS.out _ y1)
     ((go_at_call 44
       refine (HKID.out _ Y0.out).mono ?_;rintro e v1 ⟨rfl,x1⟩
       have y1:Ext wr v1:=Ext.trans Y0.out x1))
    all_goals
     have X2:=Lib.hid (HX.out.trans y1);clear y1 x1 HKID HSS Y0
     by_cases hpq:pk=qk
     · have HT2:=Lib.hid (HSTEP.out hpq);rw [qao hpq];clear hpq;go_wp2_with fail
       go_roundw
       case rel=>exact ⟨k+1,by omega,by go_num,⟨HT2.out,X2.out⟩⟩
       case measure=>simp [intOf]; omega
     · have HF:=Lib.hid (HNE.out hpq);rw [xad hpq];clear hpq;go_wp2_with fail;go_ret;exact ⟨by rw [HF.out]; rfl,X1.out.trans X2.out⟩
  · have HF:Hid (res=true):=Lib.hid (HRES.out.symm.trans (qao (by
     have h1:=HT.out;rw [show k=p.cs.length by omega] at h1;have h2:=va5 HL.out h1;have h3:=HND.out
     exact Pl.ext_ HLV.out (congrArg Prod.fst h3) (congrArg Prod.snd h3) h2)))
    clear b0 b1 b2 b3 e0 e1 e2 e3;go_wp2_with fail;go_ret;exact ⟨by rw [HF.out]; rfl,X1.out.trans HX.out⟩
theorem xb3 {w:World} {q1 q2:Nat->Prop} (p q:Pl) (v u:Value) (hsz:p.sz<=1099511627776) (h:PlV w q1 p v) (k:PlV w q2 q u):Calls Tryz.prog 44 #[v,u] w (jab (eqB p q) w):=
 wcx w (p.sz+1) p q v u w (Nat.lt_succ_self _) hsz (h.mono fun _ _=>trivial) (k.mono fun _ _=>trivial) (Ext.refl w)
/- integer.Same, recpoly.same. -/
/- Layer 22: recpoly.Same; polynomials of a small size. -/
theorem Fit.of_raw {p:Pl} {S M:Nat} (hd:p.dig) (hs:p.sz<=S) (hm:p.dm<=M) (hS:S < B32):Fit p.nf S (M+1):=by
 refine ⟨p.nf_can,Pl.ofS_ex fun x hx=>(Pl.terms_le p Mo.one 0 Mo.one_le x hx).mono (by omega),Nat.lt_of_le_of_lt (Pl.ofS_nr _) (Nat.lt_of_le_of_lt (Pl.terms_nrm p Mo.one M hm hd) ?_)⟩;rw [Nat.pow_succ,Nat.mul_comm];exact Nat.mul_lt_mul_of_pos_left (by omega) (Nat.pow_pos (by decide))
theorem Fit.small {p:Pl} {E D:Nat} (h:Fit p E D) (hE:E<=170):p.sz<=1073741824:=Nat.le_trans h.sz (Nat.le_trans (Nat.pow_le_pow_left (show E+2<=172 by omega) 4) (by decide))
end Go.Proofs.YtcfcjabgkfehlaaGreat
