/- Layer 22: recpoly.mul where the levels differ, or both are 0. -/
import Derived.Test.YtklnlgnnlmdibaaGreatMq14
set_option linter.unusedSimpArgs false
set_option linter.unusedVariables false

set_option maxRecDepth 100000
set_option maxHeartbeats 8000000
namespace Go.Proofs.YtklnlgnnlmdibaaGreat
open Lib (hid)
open Go.RowKit
theorem jb.set {W:World} {g:Nat} {p q:Pl} {s A s' A':Value} (h:jb W g p s A) :
 jb ((((W.setCell ⟨g,0,none⟩ (.int .i64 q.lv)).setCell ⟨g,1,none⟩ (.bool q.neg)).setCell ⟨g,2,none⟩ s').setCell ⟨g,3,none⟩ A') g q s' A':=by
 obtain ⟨h0,h1,h2,h3⟩:=h;have e:∀ (W:World) (i j:Nat) (v:Value),i ≠ j->(W.setCell ⟨g,j,none⟩ v).cell? ⟨g,i,none⟩=W.cell? ⟨g,i,none⟩:=fun W i j v rG=>World.cell?_setCell_other _ _ _ _ (by intro e; injection e; omega)
 refine ⟨?_,?_,?_,?_⟩
 · rw [e _ 0 3 _ (by omega),e _ 0 2 _ (by omega),e _ 0 1 _ (by omega)];exact World.cell?_setCell_same _ _ _ h0
 · rw [e _ 1 3 _ (by omega),e _ 1 2 _ (by omega)];exact World.cell?_setCell_same _ _ _ ((e _ 1 0 _ (by omega)).trans h1)
 · rw [e _ 2 3 _ (by omega)];exact World.cell?_setCell_same _ _ _ ((e _ 2 1 _ (by omega)).trans ((e _ 2 0 _ (by omega)).trans h2))
 · exact World.cell?_setCell_same _ _ _ ((e _ 3 2 _ (by omega)).trans ((e _ 3 1 _ (by omega)).trans ((e _ 3 0 _ (by omega)).trans h3)))
theorem zac (W:World) (g:Nat) (a b c d:Value) (k:Nat) (h:k ≠ g):((((W.setCell ⟨g,0,none⟩ a).setCell ⟨g,1,none⟩ b).setCell ⟨g,2,none⟩ c).setCell ⟨g,3,none⟩ d).heap[k]?=W.heap[k]?:=by
 rw [Below.heap_setCell _ _ _ k h,Below.heap_setCell _ _ _ k h,Below.heap_setCell _ _ _ k h,Below.heap_setCell _ _ _ k h]
theorem jb.nat_ {W:World} {g:Nat} {p:Pl} {A0 A1:Option Addr} {n0 c0 n1 c1:Nat} (h:jb W g p (.slice A0 n0 c0) (.slice A1 n1 c1)) (x y z u:Value) {v:Value} {ds:List Nat} (hv:jd W v ds) :
 jd ((((W.setCell ⟨g,0,none⟩ x).setCell ⟨g,1,none⟩ y).setCell ⟨g,2,none⟩ z).setCell ⟨g,3,none⟩ u) v ds:=by
 obtain ⟨h0,h1,h2,h3⟩:=h;refine (((hv.box h0 rfl _).box (u:=.bool p.neg) ?_ rfl _).box (u:=.slice A0 n0 c0) ?_ rfl _).box (u:=.slice A1 n1 c1) ?_ rfl _
 · rw [World.cell?_setCell_other _ _ _ _ (by simp)]; exact h1
 · rw [World.cell?_setCell_other _ _ _ _ (by simp),World.cell?_setCell_other _ _ _ _ (by simp)]; exact h2
 · rw [World.cell?_setCell_other _ _ _ _ (by simp),World.cell?_setCell_other _ _ _ _ (by simp),World.cell?_setCell_other _ _ _ _ (by simp)]; exact h3
theorem jb.keep {W:World} {g:Nat} {p:Pl} {A0 A1:Option Addr} {n0 c0 n1 c1:Nat} (h:jb W g p (.slice A0 n0 c0) (.slice A1 n1 c1)) (x y z u:Value) {q q':Nat->Prop} {t:Pl} {v:Value} (ht:PlV W q t v) (hq:∀ b,b < W.heap.size->q b->b ≠ g/\q' b) :
 PlV ((((W.setCell ⟨g,0,none⟩ x).setCell ⟨g,1,none⟩ y).setCell ⟨g,2,none⟩ z).setCell ⟨g,3,none⟩ u) q' t v:=
 PlV.turn_ (by simp [World.setCell]) (fun _ _ hv=>h.nat_ x y z u hv) (fun b af hb=>⟨(hq b af hb).2,zac _ _ _ _ _ _ _ (hq b af hb).1⟩) ht
structure jap (w : World) (a b : Pl) (sa Aa sb Ab : Value) (wc : World) : Prop where
 ext:Ext w wc
 size:wc.heap.size=w.heap.size+1+1+1
 box:jb wc w.heap.size a sa Aa
 box':jb wc (w.heap.size+1) b sb Ab
 zero:jf wc (w.heap.size+1+1)
theorem jap.swap {w W:World} {a b:Pl} {sa Aa sb Ab:Value} (h:jap w a b sa Aa sb Ab W) :
 jap w b a sb Ab sa Aa ((((((((W.setCell ⟨w.heap.size,0,none⟩ (.int .i64 b.lv)).setCell ⟨w.heap.size,1,none⟩ (.bool b.neg)).setCell ⟨w.heap.size,2,none⟩ sb).setCell ⟨w.heap.size,3,none⟩ Ab).setCell ⟨w.heap.size+1,0,none⟩ (.int .i64 a.lv)).setCell ⟨w.heap.size+1,1,none⟩ (.bool a.neg)).setCell ⟨w.heap.size+1,2,none⟩ sa).setCell ⟨w.heap.size+1,3,none⟩ Aa):=by
 obtain ⟨h1,h2,h3,h4,h5⟩:=h;obtain ⟨W1,aT⟩:=n_m (((((W.setCell ⟨w.heap.size,0,none⟩ (.int .i64 b.lv)).setCell ⟨w.heap.size,1,none⟩ (.bool b.neg)).setCell ⟨w.heap.size,2,none⟩ sb).setCell ⟨w.heap.size,3,none⟩ Ab));rw [aT];have k1:Ext w W1:=by
  rw [<- aT];exact (((h1.setCell (Nat.le_refl _) _).setCell (Nat.le_refl _) _).setCell (Nat.le_refl _) _).setCell (Nat.le_refl _) _
 have kb:jb W1 w.heap.size b sb Ab:=by rw [<- aT]; exact h3.set
 have kh:∀ k,k ≠ w.heap.size->W1.heap[k]?=W.heap[k]?:=fun k hk=>by rw [<- aT]; exact zac _ _ _ _ _ _ k hk
 have kf:∀ a,W1.frozen? a=W.frozen? a:=fun a=>by rw [<- aT]; simp only [World.frozen?_setCell]
 have ks:W1.heap.size=W.heap.size:=by rw [<- aT]; simp [World.setCell]
 have kb':jb W1 (w.heap.size+1) b sb Ab:=h4.turn (kh _ (by omega));refine ⟨(((k1.setCell (by show w.heap.size<=w.heap.size+1; omega) _).setCell (by show w.heap.size<=w.heap.size+1; omega) _).setCell (by show w.heap.size<=w.heap.size+1; omega) _).setCell (by show w.heap.size<=w.heap.size+1; omega) _,by simp [World.setCell]; omega,kb.turn (zac _ _ _ _ _ _ _ (by omega)),kb'.set,?_⟩;have hh:((((W1.setCell ⟨w.heap.size+1,0,none⟩ (.int .i64 a.lv)).setCell ⟨w.heap.size+1,1,none⟩ (.bool a.neg)).setCell ⟨w.heap.size+1,2,none⟩ sa).setCell ⟨w.heap.size+1,3,none⟩ Aa).heap[w.heap.size+1+1]?=W.heap[w.heap.size+1+1]?:=(zac _ _ _ _ _ _ _ (by omega)).trans (kh _ (by omega));obtain ⟨⟨z0,z1,z2,z3⟩,zf⟩:=h5;refine ⟨⟨(World.cell?_of_block (a:=⟨w.heap.size+1+1,0,none⟩) hh).trans z0,(World.cell?_of_block (a:=⟨w.heap.size+1+1,1,none⟩) hh).trans z1,(World.cell?_of_block (a:=⟨w.heap.size+1+1,2,none⟩) hh).trans z2,(World.cell?_of_block (a:=⟨w.heap.size+1+1,3,none⟩) hh).trans z3⟩,fun i=>?_⟩;simp only [World.frozen?_setCell];rw [kf];exact zf i
structure za5 (w0 : World) (E L : Nat) (a b : Pl) (va vb : Value) : Prop where
 ca:a.Can
 cb:b.Can
 len:a.cs.length<=E
 dig:a.ds.length+b.ds.length<=L
 pa:PlV w0 (fun _=>True) a va
 pb:PlV w0 (fun _=>True) b vb
 ord:b.lv<=a.lv
 ne:a.lv=b.lv->a.lv=0
 ih:∀ k (hk:k < a.cs.length) x,PlV w0 (fun _=>True) a.cs[k] x->∀ W',Ext w0 W'->Calls Tryz.prog 47 #[x,vb] W' (uf (fun i=>W'.heap.size<=i) (a.cs[k].mul b) W')
theorem xbz {w0 w : World} {E D F G : Nat} (p q : Pl) (v u : Value) (hp : Fit p E D) (hq : Fit q F G) (hE : E <= 1000000) (hF : F <= 1000000) (hD : D + G <= 35184372088000)
 (h:PlV w0 (fun _=>True) p v) (k:PlV w0 (fun _=>True) q u) (hx:Ext w0 w) (ak:p.lv=q.lv->p.lv=0)
 (ihp:∀ a ∈ p.cs,∀ x,PlV w0 (fun _=>True) a x->∀ W',Ext w0 W'->Calls Tryz.prog 47 #[x,u] W' (uf (fun i=>W'.heap.size<=i) (a.mul q) W'))
 (ihq:∀ a ∈ q.cs,∀ x,PlV w0 (fun _=>True) a x->∀ W',Ext w0 W'->Calls Tryz.prog 47 #[x,v] W' (uf (fun i=>W'.heap.size<=i) (a.mul p) W')) :
 Calls Tryz.prog 47 #[v,u] w (uf (fun i=>w.heap.size<=i) (p.mul q) w):=by
 have hlen:∀ (r:Pl) (E D:Nat),Fit r E D->r.cs.length<=E+1:=fun r E D hr=>by
  obtain ⟨l,n,d,cs⟩:=r
  by_cases hl:0 < l
  · exact hr.len hl
  · have:=hr.can;unfold Pl.Can at this;rcases this with h | h
    · simp [Pl.cs,h.2.1]
    · omega
 have eG:=Nat.le_trans p.dm_ds hp.dm;have uH:=Nat.le_trans q.dm_ds hq.dm;have HH:=hid h;have HK:=hid k;obtain ⟨A0,n0,c0,A,c,rfl,-,-,-,-⟩:=h.open_;obtain ⟨B0,m0,d0,B,d,rfl,-,-,-,-⟩:=k.open_;have HPQ:Hid (q.lv<=p.lv->za5 w0 1000001 35184372088000 p q (plV p (.slice A0 n0 c0) (.slice A p.cs.length c)) (plV q (.slice B0 m0 d0) (.slice B q.cs.length d))):=by
  have:q.lv<=p.lv->za5 w0 1000001 35184372088000 p q (plV p (.slice A0 n0 c0) (.slice A p.cs.length c)) (plV q (.slice B0 m0 d0) (.slice B q.cs.length d)):=fun hl =>
   ⟨hp.can,hq.can,by have:=hlen p E D hp; omega,by omega,HH.out,HK.out,hl,ak,fun k hk x rX=>ihp _ (List.getElem_mem hk) x rX⟩
  exact this
 have HQP:Hid (p.lv < q.lv->za5 w0 1000001 35184372088000 q p (plV q (.slice B0 m0 d0) (.slice B q.cs.length d)) (plV p (.slice A0 n0 c0) (.slice A p.cs.length c))):=by
  have:p.lv < q.lv->za5 w0 1000001 35184372088000 q p (plV q (.slice B0 m0 d0) (.slice B q.cs.length d)) (plV p (.slice A0 n0 c0) (.slice A p.cs.length c)):=fun hl =>
   ⟨hq.can,hp.can,by have:=hlen q F G hq; omega,by omega,HK.out,HH.out,by omega,fun e=>by omega,fun k hk x rX=>ihq _ (List.getElem_mem hk) x rX⟩
  exact this
 have Qk:=hid (Pl.mul_comm p q);have ax:=hid hx;clear h k ihp ihq ak hlen eG uH hp hq hE hF hD hx HH HK;obtain ⟨W,hW⟩:=n_m (((w.alloc (.cells #[.int .i64 p.lv,.bool p.neg,.slice A0 n0 c0,.slice A p.cs.length c] 35)).alloc (.cells #[.int .i64 q.lv,.bool q.neg,.slice B0 m0 d0,.slice B q.cs.length d] 35)).alloc (.cells #[.int .i64 0,.bool false,.slice none 0 0,.slice none 0 0] 35));have hcut:jap w p q (.slice A0 n0 c0) (.slice A p.cs.length c) (.slice B0 m0 d0) (.slice B q.cs.length d) W:=by
  rw [<- hW];refine ⟨(((Ext.refl w).alloc _).alloc _).alloc _,by simp,(jb.new w p _ _ _).ext (((Ext.refl _).alloc _).alloc _) (by simp),?_,?_⟩
  · have h1:=jb.new (w.alloc (.cells #[.int .i64 p.lv,.bool p.neg,.slice A0 n0 c0,.slice A p.cs.length c] 35)) q (.slice B0 m0 d0) (.slice B q.cs.length d) 35;have h2:=h1.ext ((Ext.refl _).alloc (.cells #[.int .i64 0,.bool false,.slice none 0 0,.slice none 0 0] 35)) (by simp);simpa using h2
  · have h1:=jf.new ((w.alloc (.cells #[.int .i64 p.lv,.bool p.neg,.slice A0 n0 c0,.slice A p.cs.length c] 35)).alloc (.cells #[.int .i64 q.lv,.bool q.neg,.slice B0 m0 d0,.slice B q.cs.length d] 35)) 35;simpa using h1
 have jM:∀ i,W.frozen? ⟨w.heap.size,i,none⟩=false:=fun i=>by rw [<- hW]; simp [go_sem]
 have lK:∀ i,W.frozen? ⟨w.heap.size+1,i,none⟩=false:=fun i=>by rw [<- hW]; simp [go_sem]
 have N8:=hid hcut;obtain ⟨b0,b1,b2,b3⟩:=hcut.box;obtain ⟨e0,e1,e2,e3⟩:=hcut.box';have dE:=hcut.size;clear hcut;unfold plV;go_enter Tryz.func47,Tryz.ntmps47
 go_upto_if 21 with fail
 go_cut [] from 22 to 23 (fun wc=>Hid ((p.lv < q.lv/\jap w q p (.slice B0 m0 d0) (.slice B q.cs.length d) (.slice A0 n0 c0) (.slice A p.cs.length c) wc)\/(q.lv<=p.lv/\jap w p q (.slice A0 n0 c0) (.slice A p.cs.length c) (.slice B0 m0 d0) (.slice B q.cs.length d) wc)))
 case first =>
  by_cases af:p.lv < q.lv
  · have HF:=hid N8.out.swap;have HL:=hid af;clear hW;go_wp2_with fail
    go_meet
    exact hid (Or.inl ⟨HL.out,HF.out⟩)
  · have hle:q.lv<=p.lv:=by omega
    have HL:=hid hle;clear hW;go_wp2_with fail
    go_meet
    exact hid (Or.inr ⟨HL.out,N8.out⟩)
 case rest =>
 obtain ⟨a,b,sa1,Xr,Xq,A',ca,sb1,Qu,Qr,B',cb,hh,hm,hc⟩:∃ (a b:Pl) (sa1:Option Addr) (Xr Xq:Nat) (A':Option Addr) (ca:Nat) (sb1:Option Addr) (Qu Qr:Nat) (B':Option Addr) (cb:Nat),za5 w0 1000001 35184372088000 a b (plV a (.slice sa1 Xr Xq) (.slice A' a.cs.length ca)) (plV b (.slice sb1 Qu Qr) (.slice B' b.cs.length cb))/\p.mul q=a.mul b/\jap w a b (.slice sa1 Xr Xq) (.slice A' a.cs.length ca) (.slice sb1 Qu Qr) (.slice B' b.cs.length cb) wc:=by
  rcases hcut.out with ⟨h1,h2⟩ | ⟨h1,h2⟩
  · exact ⟨q,p,_,_,_,_,_,_,_,_,_,_,HQP.out h1,Qk.out,h2⟩
  · exact ⟨p,q,_,_,_,_,_,_,_,_,_,_,HPQ.out h1,rfl,h2⟩
 clear hcut HPQ HQP Qk N8 b0 b1 b2 b3 e0 e1 e2 e3 jM lK hW dE;have HM:=hid hm;clear hm;have HC:=hid hc;have HH:=hid hh;obtain ⟨b0,b1,b2,b3⟩:=hc.box;obtain ⟨e0,e1,e2,e3⟩:=hc.box';have gK:=hc.size;have Jn:=hid (zae a _ (hh.pa.ext (ax.out.trans hc.ext)));clear hc hh;unfold plV at Jn;go_wp2_with fail;clear b0 b1 b2 b3 e0 e1 e2 e3;refine Jn.out.mono ?_;rintro e w1 ⟨rfl,x1⟩;have Gw:Hid (Calls Tryz.prog 66 #[plV b (.slice sb1 Qu Qr) (.slice B' b.cs.length cb)] w1 fun e w'=>e=.returned (.bool b.isZ)/\Ext w1 w'):=zae b _ (HH.out.pb.ext ((ax.out.trans HC.out.ext).trans x1));unfold plV at Gw;have aX:=HC.out.box.ext x1 (by omega);have dA:=HC.out.box'.ext x1 (by omega);have kZ:=HC.out.zero.ext x1 (by omega);have bU:=x1.size;have dG:=hid aX;have yN:=hid dA;have eY:=hid kZ;have X1:=hid (HC.out.ext.trans x1);obtain ⟨b0,b1,b2,b3⟩:=aX;obtain ⟨e0,e1,e2,e3⟩:=dA;obtain ⟨⟨z0,z1,z2,z3⟩,zf⟩:=kZ;clear x1 Jn
 by_cases O9:a.isZ=true
 · rw [O9];have HF:Hid (uf (fun i=>w.heap.size<=i) (p.mul q) w (.returned (plV Pl.zero (.slice none 0 0) (.slice none 0 0))) ((((w1.setCell ⟨w.heap.size+1+1,0,none⟩ (.int .i64 Pl.zero.lv)).setCell ⟨w.heap.size+1+1,1,none⟩ (.bool Pl.zero.neg)).setCell ⟨w.heap.size+1+1,2,none⟩ (.slice none 0 0)).setCell ⟨w.heap.size+1+1,3,none⟩ (.slice none 0 0))):=by
    have e:p.mul q=Pl.zero:=by rw [HM.out,(Pl.zero_isZ HH.out.ca).1 O9,Pl.mul_zero_l]
    rw [e];exact qf (p:=Pl.zero) (q:=fun _=>False) X1.out (by omega) eY.out (Pl.zero_v _ _ none 0 (by omega)) (fun b _ h=>h.elim)
   simp only [Pl.zero,Pl.lv,Pl.neg] at HF;clear O9 Gw;go_wp2_with fail;exact bodyPost_ret (v:=plV Pl.zero (.slice none 0 0) (.slice none 0 0)) (by simp [results,Tryz.results47,go_sem,z0,z1,z2,z3,plV,Pl.zero,Pl.lv,Pl.neg]) rfl HF.out
 have UW:a.isZ=false:=by simpa using O9
 rw [UW];have HA0:=hid O9;clear O9 UW;go_wp2_with fail;clear b0 b1 b2 b3 e0 e1 e2 e3 z0 z1 z2 z3 zf;refine Gw.out.mono ?_;rintro e w2 ⟨rfl,x2⟩;have aX:=dG.out.ext x2 (by omega);have dA:=yN.out.ext x2 (by omega);have kZ:=eY.out.ext x2 (by omega);have jF:=x2.size;have JI:=hid aX;have JH:=hid dA;have ou:=hid kZ;have X2:=hid (X1.out.trans x2);obtain ⟨b0,b1,b2,b3⟩:=aX;obtain ⟨e0,e1,e2,e3⟩:=dA;obtain ⟨⟨z0,z1,z2,z3⟩,zf⟩:=kZ;clear x2 Gw dG yN eY X1
 by_cases aV:b.isZ=true
 · rw [aV];have HF:Hid (uf (fun i=>w.heap.size<=i) (p.mul q) w (.returned (plV Pl.zero (.slice none 0 0) (.slice none 0 0))) ((((w2.setCell ⟨w.heap.size+1+1,0,none⟩ (.int .i64 Pl.zero.lv)).setCell ⟨w.heap.size+1+1,1,none⟩ (.bool Pl.zero.neg)).setCell ⟨w.heap.size+1+1,2,none⟩ (.slice none 0 0)).setCell ⟨w.heap.size+1+1,3,none⟩ (.slice none 0 0))):=by
    have e:p.mul q=Pl.zero:=by rw [HM.out,(Pl.zero_isZ HH.out.cb).1 aV,Pl.mul_zero_r]
    rw [e];exact qf (p:=Pl.zero) (q:=fun _=>False) X2.out (by omega) ou.out (Pl.zero_v _ _ none 0 (by omega)) (fun b _ h=>h.elim)
   simp only [Pl.zero,Pl.lv,Pl.neg] at HF;clear aV;go_wp2_with fail;exact bodyPost_ret (v:=plV Pl.zero (.slice none 0 0) (.slice none 0 0)) (by simp [results,Tryz.results47,go_sem,z0,z1,z2,z3,plV,Pl.zero,Pl.lv,Pl.neg]) rfl HF.out
 have UM:b.isZ=false:=by simpa using aV
 rw [UM];have dC:=hid aV;clear aV UM;have UT:=HH.out.ca.lv_nonneg;have UB:=HH.out.cb.lv_nonneg;have RG:=HH.out.ord;have ak:=HH.out.ne
 by_cases hl:a.lv=0
 · have xQ:b.lv=0:=by omega
   have Xl:=hid (xaf HH.out.ca hl);have HBL:=hid (xaf HH.out.cb xQ);have lU:=HH.out.pa.ext (ax.out.trans X2.out);have qA:=HH.out.pb.ext (ax.out.trans X2.out);have hia:um w2 (.agg #[.bool a.neg,.slice sa1 Xr Xq]) a.z a.ds.length:=by
    obtain ⟨A1,n1,c1,A2,c2,e,hn,-⟩:=lU.open_;unfold plV at e;simp only [Value.agg.injEq,Array.mk.injEq,List.cons.injEq,and_true,true_and] at e;rw [e.1];exact ⟨_,_,_,rfl,hn,rfl,Nat.le_refl _⟩
   have xJ:um w2 (.agg #[.bool b.neg,.slice sb1 Qu Qr]) b.z b.ds.length:=by
    obtain ⟨A1,n1,c1,A2,c2,e,hn,-⟩:=qA.open_;unfold plV at e;simp only [Value.agg.injEq,Array.mk.injEq,List.cons.injEq,and_true,true_and] at e;rw [e.1];exact ⟨_,_,_,rfl,hn,rfl,Nat.le_refl _⟩
   have Zr:=hid (vct _ _ a.z b.z _ _ w2 hia xJ HH.out.dig);have q1:(a.lv == 0)=true:=by simpa using hl
   have hlz:a.lv=0:=hl;have WG:=hid hl;clear lU qA hia xJ xQ hl UT UB RG ak hlz;go_wp2_with fail;clear b0 b1 b2 b3 e0 e1 e2 e3 z0 z1 z2 z3 zf;refine Zr.out.mono ?_;rintro e w3 ⟨x,rfl,⟨v1,rfl,aY⟩,x3⟩;obtain ⟨A1,d1,rfl,-⟩:=id aY;have QD:=ou.out.ext x3 (by omega);have HF:Hid (uf (fun i=>w.heap.size<=i) (p.mul q) w (.returned (plV (Pl.const (a.z * b.z)) (.slice A1 (dg (a.z * b.z).natAbs).length d1) (.slice none 0 0))) ((((w3.setCell ⟨w.heap.size+1+1,0,none⟩ (.int .i64 0)).setCell ⟨w.heap.size+1+1,1,none⟩ (.bool (decide (a.z * b.z < 0)))).setCell ⟨w.heap.size+1+1,2,none⟩ (.slice A1 (dg (a.z * b.z).natAbs).length d1)).setCell ⟨w.heap.size+1+1,3,none⟩ (.slice none 0 0))):=by
    have e:p.mul q=Pl.const (a.z * b.z):=by rw [HM.out,<- Pl.const_mul,<- Xl.out,<- HBL.out]
    rw [e];exact qf (p:=Pl.const (a.z * b.z)) (q:=fun _=>False) (X2.out.trans x3) (by omega) QD (PlV.mk (t:=Pl.const (a.z * b.z)) aY (Nat.le_refl _) (by simp [Pl.cs,Pl.const]) (by unfold Pl.const Pl.cs jc; trivial)) (fun b _ h=>h.elim)
   obtain ⟨⟨z0,z1,z2,z3⟩,zf⟩:=QD;clear x3 Zr aY;generalize a.z * b.z=z at *;go_wp2_with fail;exact bodyPost_ret (v:=plV (Pl.const z) (.slice A1 (dg z.natAbs).length d1) (.slice none 0 0)) (by simp [results,Tryz.results47,go_sem,z0,z1,z2,z3,plV,Pl.const,Pl.lv,Pl.neg]) rfl HF.out
 · have af:b.lv < a.lv:=by
    have:a.lv ≠ b.lv:=fun e=>hl (ak e)
    omega
   have HUP:=hid (Pl.mul_up_ HH.out.ca HH.out.cb af (fun e=>dC.out ((Pl.zero_isZ HH.out.cb).2 e)));have q1:(a.lv == 0)=false:=by simpa using hl
   have hlen:=HH.out.len;obtain ⟨A1,n1,c1,A2,c2,e,-,dY,eF,aO⟩:=HH.out.pa.open_;unfold plV at e;simp only [Value.agg.injEq,Array.mk.injEq,List.cons.injEq,and_true,true_and,Value.slice.injEq] at e;obtain ⟨-,rfl,rfl⟩:=e;have jQ:=hid aO;obtain ⟨V,cu,eH,xW,ae⟩:=uw (a.cs.length:Int) (by omega) (by omega) w2;rw [Int.toNat_natCast] at cu ae;have dF:=hid (ae (fun i=>w2.heap.size<=i));have lL:=hid eH;obtain ⟨f0,f1,f2,f3⟩:=JI.out.ext eH (by omega);clear aO ae eH hl UT UB RG ak HA0;go_wp2_with fail;clear cu b0 b1 b2 b3 e0 e1 e2 e3 f0 f1 f2 f3 z0 z1 z2 z3 zf
   go_loopw [55] (fun iv wr=>∃ k:Nat,k<=a.cs.length/\iv=.int .i64 k/\Hid ((∃ L:List Pl,L.length=a.cs.length/\L.take k=(a.cs.map fun c=>c.mul b).take k/\xh wr (fun i=>w2.heap.size<=i) w2.heap.size L)/\Ext w2 wr)) (fun iv _=>a.cs.length - (intOf iv).toNat)
   case atStart=>exact ⟨0,Nat.zero_le _,rfl,⟨⟨_,List.length_replicate,by simp,dF.out⟩,lL.out⟩⟩
   case round =>
    obtain ⟨k,hk,rfl,⟨⟨L,mr,tK,ae⟩,hx⟩⟩:=hrel;have HX:=hid hx;have aA:=hid ae;have kE:=hid tK;have oK:=hx.size;obtain ⟨b0,b1,b2,b3⟩:=JI.out.ext hx (by omega);have gZ:w2.heap.size < wr.heap.size:=ae.1;clear hx ae tK lL dF
    by_cases af:k < a.cs.length
    · obtain ⟨ad,C0,j0,g0,C1,j1,g1,rfl,ah,bY,aW⟩:=jc.kid jQ.out k af;have bW:Ext w0 wr:=(ax.out.trans X2.out).trans HX.out;obtain ⟨a0,a1,a2,a3⟩:=bY.ext bW (by rw [ja]; exact ah);have Xb:=hid (fun W' (qN:Ext wr W')=>HH.out.ih k af _ aW W' (bW.trans qN));have dO:Hid ((L.set k (a.cs[k].mul b)).take (k+1)=(a.cs.map fun c=>c.mul b).take (k+1)):=by
       have h1:=kad L (a.cs.map fun c=>c.mul b) k kE.out (by omega) (by rw [List.length_map]; exact af);rw [List.getElem_map] at h1;exact h1
      unfold plV at Xb;obtain ⟨U,hU⟩:=n_m (wr.alloc (.cells #[.int .i64 a.cs[k].lv,.bool a.cs[k].neg,.slice C0 j0 g0,.slice C1 j1 g1] 35));have kV:Ext wr U:=by rw [<- hU]; exact (Ext.refl _).alloc _
      have Yt:U.heap.size=wr.heap.size+1:=by rw [<- hU]; simp
      obtain ⟨y0,y1,y2,y3⟩:jb U wr.heap.size a.cs[k] (.slice C0 j0 g0) (.slice C1 j1 g1):=by rw [<- hU]; exact jb.new wr a.cs[k] _ _ _
      obtain ⟨e0,e1,e2,e3⟩:=JH.out.ext (HX.out.trans kV) (by omega);have Nc:=hid kV;generalize mW:a.cs[k].mul b=res at *;generalize a.cs[k]=ck at *;clear bY aW ah bW kE mW kV;go_wp2_with fail;clear hU y0 y1 y2 y3;refine (Xb.out _ Nc.out).mono ?_;rintro e w3 ⟨v3,rfl,p3,x3⟩;have ZY:Ext wr w3:=Nc.out.trans x3;obtain ⟨C0,j0,f0,C1,f1,rfl,-⟩:=id p3.open_;have yQ:=aA.out.ext ZY;obtain ⟨D0,n2,g0,D1,n3,g1,⟨r0,r1,r2,r3⟩,-⟩:=yQ.2.2 k (by omega);have bF:=yQ.2.1;have dR:=(yQ.set_ k (by omega) res (p3.mono fun i hi=>by
       have iJ:wr.heap.size+1<=i:=by rw [<- Yt]; exact hi
       exact ⟨by omega,by omega⟩)).1
      simp only at r0 r1 r2 r3;have dN:=hid dR;have X3:=hid (HX.out.trans ZY);unfold plV;clear yQ dR p3 x3 ZY Xb aA a0 a1 a2 a3 b0 b1 b2 b3 e0 e1 e2 e3 Nc Yt;go_wp2_with fail
      go_roundw
      case rel=>exact ⟨k+1,by omega,by go_num,⟨_,by rw [List.length_set]; exact mr,dO.out,dN.out⟩,(((X3.out.setCell (Nat.le_refl _) _).setCell (Nat.le_refl _) _).setCell (Nat.le_refl _) _).setCell (Nat.le_refl _) _⟩
      case measure=>simp [intOf]; omega
    · have bH:k=a.cs.length:=by omega
      have pM:L=a.cs.map fun c=>c.mul b:=by
       have h:=kE.out;rw [bH,show a.cs.length=(a.cs.map fun c=>c.mul b).length by rw [List.length_map],List.take_length,List.length_map,<- mr,List.take_length] at h;exact h
      have QD:=ou.out.ext HX.out (by omega);have aS:=aA.out.fin (Nat.le_refl _);rw [pM] at aS;have HF:Hid (uf (fun i=>w.heap.size<=i) (p.mul q) w (.returned (plV (.mk a.lv false [] (a.cs.map fun c=>c.mul b)) (.slice none 0 0) (.slice (some ⟨w2.heap.size,0,none⟩) a.cs.length a.cs.length))) ((((wr.setCell ⟨w.heap.size+1+1,0,none⟩ (.int .i64 a.lv)).setCell ⟨w.heap.size+1+1,1,none⟩ (.bool false)).setCell ⟨w.heap.size+1+1,2,none⟩ (.slice none 0 0)).setCell ⟨w.heap.size+1+1,3,none⟩ (.slice (some ⟨w2.heap.size,0,none⟩) a.cs.length a.cs.length))):=by
       rw [HM.out,HUP.out];have h1:=PlV.mk (t:=.mk a.lv false [] (a.cs.map fun c=>c.mul b)) (c:=a.cs.length) (jd.nil wr) (by simp [Pl.cs]) (by omega) aS;rw [show (Pl.mk a.lv false [] (a.cs.map fun c=>c.mul b)).cs.length=a.cs.length by simp [Pl.cs]] at h1;exact qf (p:=.mk a.lv false [] (a.cs.map fun c=>c.mul b)) (q':=fun i=>w.heap.size<=i) (X2.out.trans HX.out) (by omega) QD h1 (fun b _ hb=>⟨by omega,by omega⟩)
      obtain ⟨⟨z0,z1,z2,z3⟩,zf⟩:=QD;clear aS aA kE pM;go_wp2_with fail;exact bodyPost_ret (v:=plV (.mk a.lv false [] (a.cs.map fun c=>c.mul b)) (.slice none 0 0) (.slice (some ⟨w2.heap.size,0,none⟩) a.cs.length a.cs.length)) (by simp [results,Tryz.results47,go_sem,z0,z1,z2,z3,plV,Pl.lv,Pl.neg]) rfl HF.out
end Go.Proofs.YtklnlgnnlmdibaaGreat
