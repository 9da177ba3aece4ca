/- Layer 23: mainvar.Derivative. -/
import Derived.Test.YtcepajijiabkmaaGreatMp30
set_option linter.unusedSimpArgs false
set_option linter.unusedVariables false
set_option maxRecDepth 100000
set_option maxHeartbeats 8000000
namespace Go.Proofs.YtcepajijiabkmaaGreat
open Lib (hid)
open Go.RowKit
def DrL (raw:List Pl) (k:Nat) (L:List Pl):Prop:=L.length=raw.length/\∀ j (h:j < L.length),L[j]=if j < k then (raw.getD (j+1) Pl.zero).mul (Pl.const ((j:Int)+1)) else raw.getD j Pl.zero
theorem DrL.step {raw L:List Pl} {k:Nat} (h:DrL raw k L) (hk:k+1 < raw.length):DrL raw (k+1) (L.set k ((raw.getD (k+1) Pl.zero).mul (Pl.const ((k:Int)+1)))):=by
 refine ⟨by rw [pH]; exact h.1,fun j hj=>?_⟩;rw [pH] at hj
 by_cases lJ:j=k
 · subst lJ;rw [rR,if_pos (tx _)]
 · rw [sX (Ne.symm lJ),h.2 j hj]
   by_cases h2:j < k
   · rw [if_pos h2,if_pos (by omega)]
   · rw [if_neg h2,if_neg (by omega)]
theorem jf.qbH {W W':World} {g:Nat} (h:jf W g) (hb:W'.heap[g]?=W.heap[g]?) (hf:∀ a,W'.frozen? a=W.frozen? a):jf W' g:=by
 obtain ⟨⟨h0,h1,h2,h3⟩,h4⟩:=h;have k:∀ i,W'.cell? ⟨g,i,none⟩=W.cell? ⟨g,i,none⟩:=fun i=>pB (a:=⟨g,i,none⟩) hb
 exact ⟨⟨(k 0).trans h0,(k 1).trans h1,(k 2).trans h2,(k 3).trans h3⟩,fun i=>(hf _).trans (h4 i)⟩
theorem DrL.fin {raw L:List Pl} {m:Nat} (h:DrL raw m L) (hm:raw.length=m+1):L.take m=zaj 1 raw.tail:=by
 refine sR (by rw [pA,wai,u6,h.1]; omega) fun j h1 h2=>?_
 rw [pA,h.1] at h1;rw [wai,u6] at h2;rw [tz,h.2 j (by rw [h.1]; omega),if_pos (by omega),ka3 1 raw.tail j (by rw [u6]; omega),List.getElem_tail,pr,po (by omega),Int.add_comm]
 rfl
theorem ucw {w:World} {q:Nat->Prop} {p:Pl} {l:Int} {E D:Nat} (v:Value) (hl:1<=l) (ag:l<=4) (hp:Fit p E D) (OY:E<=62) (hD:D<=1099511627774) (h:PlV w q p v):Calls Tryz.prog 113 #[v,.int .i64 l] w (uf (fun b=>w.heap.size<=b) (jac l p) w):=by
 have HP:=hid h;have rM:=hid hp;obtain ⟨A0,n0,c0,A,c,rfl,-⟩:=h.open_;obtain ⟨W,hW⟩:=n_m ((w.alloc (.cells #[.int .i64 p.lv,.bool p.neg,.slice A0 n0 c0,.slice A p.cs.length c] 33)).alloc (.cells #[.int .i64 0,.bool false,.slice none 0 0,.slice none 0 0] 33));have ai:Ext w W:=by rw [<- hW]; exact ((Ext.refl w).alloc _).alloc _
 have dG:W.heap.size=w.heap.size+1+1:=by rw [<- hW]; simp
 have hz:jf W (w.heap.size+1):=by
  have:=jf.new (w.alloc (.cells #[.int .i64 p.lv,.bool p.neg,.slice A0 n0 c0,.slice A p.cs.length c] 33)) 33;rw [hW] at this;simpa using this
 have bV:jb W w.heap.size p (.slice A0 n0 c0) (.slice A p.cs.length c):=by rw [<- hW]; exact (jb.new w p _ _ _).ext ((Ext.refl _).alloc _) (by simp)
 obtain ⟨b0,b1,b2,b3⟩:=bV;have ig:=hid (uaj _ hl ag hp (by omega) (by omega) (HP.out.ext ai));have aG:=hid ai;have HZ:=hid hz;unfold plV at ig;unfold plV;obtain ⟨X,hX⟩:=n_m (jac l p);rw [hX];have oO:=hid hX;clear h hp ai hz hX;go_enter Tryz.func113,Tryz.ntmps113;go_wp2_with fail;refine (zao l _).mono ?_;rintro e w0 ⟨rfl,rfl⟩;rw [show (decide (1<=l) && decide (l<=4))=true by simp [hl,ag]];go_wp2_with fail;clear hW b0 b1 b2 b3;refine ig.out.mono ?_;rintro e w1 ⟨v1,rfl,⟨A1,k1,rfl,yY,hk2,hR⟩,x1⟩;have aQ:=HZ.out.ext x1 (by omega);have bW:=x1.size
 by_cases ax:p.xi l=[]
 · have hlen:(p.xi l).length=0:=by rw [ax]; rfl
   have wJ:jac l p=Pl.zero:=by
    unfold jac;rw [if_pos ⟨hl,ag⟩,ax];exact Pl.qz (qae _ _) Pl.qS fun ρ=>by rw [zad hl ag,Pl.qu]; rfl
   rw [hlen];have HF:=hid (uf.congr (oO.out.symm.trans wJ) <| qf (q:=fun _=>False) (q':=fun b=>w.heap.size<=b) (aG.out.trans x1) (r6 _) aQ (Pl.xt w1 _ none 0 (by omega)) (fun b _ hb=>hb.elim));obtain ⟨⟨z0,z1,z2,z3⟩,zf⟩:=aQ;clear ax hlen wJ x1 ig hR;go_wp2_with fail;exact bodyPost_ret (v:=plV Pl.zero (.slice none 0 0) (.slice none 0 0)) (by simp [results,Tryz.results113,go_sem,z0,z1,z2,z3,plV,Pl.zero,Pl.lv,Pl.neg,Pl.cs]) rfl HF.out
 · obtain ⟨R,rfl,mg,ae⟩:=hR ax;obtain ⟨m,hm⟩:∃ m,(p.xi l).length=m+1:=⟨(p.xi l).length - 1,by have:=rA.2 ax; omega⟩;have Xl:=uu (l:=l) rM.out.can rM.out.ex;have ou:=hid (Pl.zP (l:=l) rM.out);have Jl:=hid (kaa hl ag rM.out.can);have Ny:Hid (jac l p=joinL l (zaj 1 (p.xi l).tail)):=hid (by unfold jac; rw [if_pos ⟨hl,ag⟩]);have HDF:=hid (uav (l:=l) rM.out (by have:B32=4294967296:=rfl; omega));generalize p.xi l=raw at *;have Qr:IntKind.i64.wrap (((m:Int)+1) - 1)=(m:Int):=by rw [rk]; omega
   have hm0:(((m:Int)+1) == 0)=false:=by simp; omega
   have Oq:(m:Int)<=(k1:Int):=by omega
   have X1:=hid (aG.out.trans x1);have eX:=hid aQ;have rW:w.heap.size+1 < w1.heap.size:=by omega
   have Px:Hid (∃ L,DrL raw 0 L/\xh w1 (fun b=>w.heap.size+1 < b) R L):=hid ⟨raw,⟨rfl,fun j hj=>by rw [if_neg (by omega),pr,po hj]; rfl⟩,ae.mono fun b hb=>by omega⟩;have HM:=hid hm;have hmb:m<=E:=by omega
   rw [hm];clear ax hm ae hR ig x1 aQ;go_wp2_with fail;have Jk:Hid (Ext w w1/\∃ L,DrL raw 0 L/\xh w1 (fun b=>w.heap.size+1 < b) R L):=hid ⟨X1.out,Px.out⟩;clear Px
   go_loopw [6] (fun iv wr=>∃ j k:Nat,k+1=j/\k<=m/\iv=.int .i64 j/\Hid (jf wr (w.heap.size+1)/\Ext w wr)/\Hid (∃ L,DrL raw k L/\xh wr (fun b=>w.heap.size+1 < b) R L)) (fun iv _=>m+1 - (intOf iv).toNat)
   case atStart=>exact ⟨1,0,rfl,pS _,rfl,hid ⟨eX.out,X1.out⟩,hid Jk.out.2⟩
   case round =>
    obtain ⟨j,k,lJ,hk,rfl,HX,HJ⟩:=hrel
    by_cases af:j < m+1
    · obtain ⟨L,hL,ae⟩:=HJ.out;have pI:L.length=m+1:=hL.1.trans HM.out;have hjL:j < L.length:=by omega
      obtain ⟨D0,dY,ed,D1,lh,dZ,⟨r0,r1,r2,r3⟩,uY⟩:=ae.2.2 j hjL;obtain ⟨C0,oL,oN,C1,uH,oM,⟨s0,s1,s2,s3⟩,-⟩:=ae.2.2 k (by omega);have lZ:L[j]=raw.getD (k+1) Pl.zero:=by rw [hL.2 j hjL,if_neg (by omega),lJ]
      have aF:Fit L[j] E D:=by
       rw [lZ,pr,po (by have:=HM.out; omega)];exact ou.out _ (pt _)
      obtain ⟨x,hx⟩:=n_m (L[j]);rw [hx] at r0 r1 uY aF lZ;have Ox:k < L.length:=by omega
      have Ee:=ae.1;have bG:=ae.2.1;have vN:∀ W',Ext wr W'->(W'.cell? ⟨R,j * 4,none⟩=some (.int .i64 x.lv)/\W'.cell? ⟨R,j * 4+1,none⟩=some (.bool x.neg)/\W'.cell? ⟨R,j * 4+2,none⟩=some (.slice D0 dY ed)/\W'.cell? ⟨R,j * 4+3,none⟩=some (.slice D1 lh dZ)):=fun W' h=>⟨(h.cell (p:=⟨R,j * 4,none⟩) Ee).trans r0,(h.cell (p:=⟨R,j * 4+1,none⟩) Ee).trans r1,(h.cell (p:=⟨R,j * 4+2,none⟩) Ee).trans r2,(h.cell (p:=⟨R,j * 4+3,none⟩) Ee).trans r3⟩
      have NH:=hid vN;have dS:Hid (∀ W',Ext wr W'->W'.cell? ⟨R,k * 4,none⟩=some (.int .i64 L[k].lv)/\W'.cell? ⟨R,k * 4+1,none⟩=some (.bool L[k].neg)/\W'.cell? ⟨R,k * 4+2,none⟩=some (.slice C0 oL oN)/\W'.cell? ⟨R,k * 4+3,none⟩=some (.slice C1 uH oM)):=hid fun W' h=>⟨(h.cell (p:=⟨R,k * 4,none⟩) Ee).trans s0,(h.cell (p:=⟨R,k * 4+1,none⟩) Ee).trans s1,(h.cell (p:=⟨R,k * 4+2,none⟩) Ee).trans s2,(h.cell (p:=⟨R,k * 4+3,none⟩) Ee).trans s3⟩
      have tX:Hid (∀ W' D2 i2 j2 D3 i3 j3,Ext wr W'->PlV W' (fun b=>wr.heap.size<=b) (x.mul (Pl.const j)) (plV (x.mul (Pl.const j)) (.slice D2 i2 j2) (.slice D3 i3 j3))->∀ V7,V7=((((W'.setCell ⟨R,k * 4,none⟩ (.int .i64 (x.mul (Pl.const j)).lv)).setCell ⟨R,k * 4+1,none⟩ (.bool (x.mul (Pl.const j)).neg)).setCell ⟨R,k * 4+2,none⟩ (.slice D2 i2 j2)).setCell ⟨R,k * 4+3,none⟩ (.slice D3 i3 j3)) ->
       (w.heap.size+1 < V7.heap.size/\jf V7 (w.heap.size+1)/\Ext w V7/\∃ L,DrL raw (k+1) L/\xh V7 (fun b=>w.heap.size+1 < b) R L)/\(V7.cell? ⟨R,j * 4,none⟩=some (.int .i64 x.lv)/\V7.cell? ⟨R,j * 4+1,none⟩=some (.bool x.neg)/\V7.cell? ⟨R,j * 4+2,none⟩=some (.slice D0 dY ed)/\V7.cell? ⟨R,j * 4+3,none⟩=some (.slice D1 lh dZ))):=hid (by
       intro W' D2 i2 j2 D3 i3 j3 qI hp V7 mf;obtain ⟨a0,a1,a2,a3⟩:=dS.out W' qI;have lX:=qa3 a0 a1 a2 a3 rfl rfl rfl rfl (.int .i64 (x.mul (Pl.const j)).lv) (.bool (x.mul (Pl.const j)).neg) (.slice D2 i2 j2) (.slice D3 i3 j3);obtain ⟨aU,-⟩:=(ae.ext qI).xD k Ox (x.mul (Pl.const j)) (hp.mono fun b hb=>⟨by omega,by omega⟩);have wK:=qI.size;have WT:w.heap.size<=R:=by omega
       have aby:Ext w V7:=by rw [mf]; exact ((((HX.out.2.trans qI).setCell WT _).setCell WT _).setCell WT _).setCell WT _
       have lH:=HX.out.1.ext qI (by omega);simp only [<- mf] at lX aU;obtain ⟨-,g2,g3,g4,g5,-⟩:=lX;obtain ⟨e0,e1,e2,e3⟩:=vN W' qI;refine ⟨⟨by omega,jf.qbH lH (g3 _ (by omega)) g4,aby,L.set k (x.mul (Pl.const j)),?_,aU⟩,(g2 _ (by omega)).trans e0,(g2 _ (by omega)).trans e1,(g2 _ (by omega)).trans e2,(g2 _ (by omega)).trans e3⟩;rw [lZ,show (j:Int)=(k:Int)+1 by omega]
       exact hL.step (by have:=HM.out; omega))
      have f0:=bG (k * 4);have f1:=bG (k * 4+1);have f2:=bG (k * 4+2);have f3:=bG (k * 4+3);have Pv:=hid Ee;have Dv:=hid (uY.mono (q:=fun b=>w.heap.size+1 < b) fun b hb=>hb.1);have iM:=hid aF;have hjm:(j:Int) < (m:Int)+1:=by omega
      have Ht:(k:Int) < (m:Int)+1:=by omega
      have hwj:IntKind.i64.wrap ((j:Int) - 1)=(k:Int):=by rw [rk]; omega
      have aC:Ext wr wr.drew:=(Ext.refl wr).drew;have ay:=hid aC;generalize L[k]=y at *;clear ae hL lZ aF uY vN bG Ee hx s0 s1 s2 s3 aC;go_upto_region 9 with fail;refine wp_region_held_drew (S:=fun W'=>(W'.cell? ⟨R,j * 4,none⟩=some (.int .i64 x.lv)/\W'.cell? ⟨R,j * 4+1,none⟩=some (.bool x.neg)/\W'.cell? ⟨R,j * 4+2,none⟩=some (.slice D0 dY ed)/\W'.cell? ⟨R,j * 4+3,none⟩=some (.slice D1 lh dZ))) (by kernel_rfl) (NH.out _ ay.out) (fun hHeld=>?_);refine tk 0 ?_;refine tk 1 ?_;refine tk 2 ?_;refine tk 3 ?_;refine tk 4 ?_;refine tk 5 ?_;refine tk 6 ?_ (hy:=Or.inl ⟨by rfl,by intro w' aP; obtain ⟨k1,k2,k3,k4⟩:=aP; go_simp; (try (with_reducible rfl))⟩);refine tk 7 ?_;refine r_1 8 fun K hK=>?_
      go_simp
      go_at_call 11
      refine (of_int (j:Int) _ (by omega) (by omega)).mono ?_;rintro e w2 ⟨z1,rfl,⟨y1,rfl,m1⟩,x2⟩;obtain ⟨yC,k1',rfl,-⟩:=id m1;have z2:Ext wr w2:=ay.out.trans x2;refine k_t hK (NH.out _ z2) fun hHeld=>?_
      clear hK K;refine r_1 9 fun K hK=>?_
      go_simp
      go_at_call 16
      refine (vbh (L:=1) (E:=E) (D:=D) _ _ (Dv.out.ext z2) (yau m1 (yf (by have:B32 ^ 1=4294967296:=rfl; omega))) (fun W' hx=>by rw [Pl.q7 iM.out.can]; exact ut _ (Dv.out.ext (z2.trans hx)) iM.out.can) (by rw [Pl.q7 iM.out.can]; exact iM.out) (by omega) (by omega)).mono ?_;rw [Pl.q7 iM.out.can];rintro e w3 ⟨v3,rfl,m3,x3⟩;obtain ⟨D2,i2,j2,D3,k3,rfl,-⟩:=id m3.open_;have z3:Ext wr w3:=z2.trans x3;refine k_t hK (NH.out _ z3) fun hHeld=>?_
      clear hK K;refine tk 10 ?_;have YP:=hid (tX.out _ _ _ _ _ _ _ z3 (m3.mono fun b hb=>py z2.size hb));obtain ⟨s0,s1,s2,s3⟩:=dS.out _ z3;have f0:=(z3.frozen (p:=⟨R,k * 4,none⟩) Pv.out).trans f0;have f1:=(z3.frozen (p:=⟨R,k * 4+1,none⟩) Pv.out).trans f1;have f2:=(z3.frozen (p:=⟨R,k * 4+2,none⟩) Pv.out).trans f2;have f3:=(z3.frozen (p:=⟨R,k * 4+3,none⟩) Pv.out).trans f3;clear tX m1 m3 x2 x3;generalize x.mul (Pl.const (j:Int))=xx at *;refine r_1 11 fun K hK=>?_
      unfold plV;go_simp;refine (?g9:∀ V7,((w.heap.size+1 < V7.heap.size/\jf V7 (w.heap.size+1)/\Ext w V7/\∃ L,DrL raw (k+1) L/\xh V7 (fun b=>w.heap.size+1 < b) R L)/\(V7.cell? ⟨R,j * 4,none⟩=some (.int .i64 x.lv)/\V7.cell? ⟨R,j * 4+1,none⟩=some (.bool x.neg)/\V7.cell? ⟨R,j * 4+2,none⟩=some (.slice D0 dY ed)/\V7.cell? ⟨R,j * 4+3,none⟩=some (.slice D1 lh dZ)))->K _ V7) _ (YP.out _ rfl);intro V7 mf;obtain ⟨⟨c1,c2,c3,c4⟩,c7⟩:=mf;refine k_t hK c7 fun hHeld=>?_
      clear hK K s0 s1 s2 s3 f0 f1 f2 f3 c7;refine w_d ?_;have Dn:Hid (jf V7 (w.heap.size+1)/\Ext w V7):=hid ⟨c2,c3⟩;have YJ:=hid c4;clear hHeld c1 c2 c3 c4;have aaz:k+1<=m:=by omega
      go_wp2_with fail
      go_roundw
      case rel=>exact ⟨j+1,k+1,by omega,aaz,by go_num,Dn,YJ⟩
      case measure=>simp only [intOf]; omega
    · have Ht:k=m:=by omega
      obtain ⟨L,hL,ae⟩:=HJ.out;rw [Ht] at hL;have OT:=hL.fin HM.out;have pI:L.length=m+1:=hL.1.trans HM.out;have kD:∀ c ∈ L.take m,Fit c E (D+1):=fun c hc=>by
       rw [OT] at hc;obtain ⟨d,hd,i,hi,rfl⟩:=xbf hc;rw [u6] at hi;have:=(ou.out d (kau hd)).mul (Fit.const (E:=0) (D:=1) (z:=1+(i:Int)) (by have:B32 ^ 1=4294967296:=rfl; omega));exact this.mono (by omega) (by omega)
      have GI:(L.take m).length=m:=by rw [pA]; omega
      have Bh:=hid (wal (l:=l) (c:=k1) hl ag ((ae.take m).fin (by omega)) (by omega) hk2 (xau kD (by rw [pA]; omega) OY) (by have:=qap kD; omega) (by
       rw [OT,<- Ny.out]
       exact HDF.out.copy_ (by omega)))
      rw [GI] at Bh;rw [OT,<- Ny.out,oO.out] at Bh;have hjm:¬ (j:Int) < (m:Int)+1:=by omega
      have X2:=hid HX.out.2;have nY:=hid HX.out.1;have BJ:w.heap.size+1 < wr.heap.size:=by have:=ae.1; omega
      clear hL ae OT pI kD GI HJ HX Jk HDF Ny HM;go_wp2_with fail;refine Bh.out.mono ?_;rintro e w2 ⟨v2,rfl,m2,x2⟩;obtain ⟨D0,dY,ed,D1,dZ,rfl,-⟩:=id m2.open_;have aQ:=nY.out.ext x2 BJ;have HF:=hid (qf (q':=fun b=>w.heap.size<=b) (X2.out.trans x2) (r6 _) aQ m2 (fun b _ hb=>⟨by omega,by omega⟩));obtain ⟨⟨z0,z1,z2,z3⟩,zf⟩:=aQ;clear m2 x2 Bh;unfold plV;go_wp2_with fail;exact bodyPost_ret (v:=plV X (.slice D0 dY ed) (.slice D1 X.cs.length dZ)) (by simp [results,Tryz.results113,go_sem,z0,z1,z2,z3,plV]) rfl HF.out
structure Frr (w : World) (R : Nat) (wr : World) : Prop where
 size:w.heap.size<=wr.heap.size
 nat:∀ v ds,jc w v ds->jc wr v ds
 block:∀ b,b < w.heap.size->b ≠ R->wr.heap[b]?=w.heap[b]?
theorem Frr.refl (w:World) (R:Nat):Frr w R w:=⟨pj _,fun _ _ h=>h,fun _ _ _=>rfl⟩
theorem Frr.ext {w wr W:World} {R:Nat} (h:Frr w R wr) (hx:Ext wr W):Frr w R W:=⟨py h.size hx.size,fun _ _ k=>(h.nat _ _ k).ext hx,fun b hb hR=>(hx.below.block b (pw hb h.size)).trans (h.block b hb hR)⟩
theorem Frr.trans {w wr W:World} {R:Nat} (h:Frr w R wr) (k:Frr wr R W):Frr w R W:=⟨py h.size k.size,fun _ _ x=>k.nat _ _ (h.nat _ _ x),fun b hb hR=>(k.block b (pw hb h.size) hR).trans (h.block b hb hR)⟩
theorem Frr.qbK {w wr W:World} {R Q:Nat} (h:Frr w R wr) (k:Frr wr Q W) (hQ:w.heap.size<=Q):Frr w R W:=⟨py h.size k.size,fun _ _ x=>k.nat _ _ (h.nat _ _ x),fun b hb hR=>(k.block b (pw hb h.size) (by omega)).trans (h.block b hb hR)⟩
theorem Frr.cell {w wr:World} {R:Nat} (h:Frr w R wr) {b j:Nat} (hb:b < w.heap.size) (hR:b ≠ R):wr.cell? ⟨b,j,none⟩=w.cell? ⟨b,j,none⟩:=pB (a:=⟨b,j,none⟩) (h.block b hb hR)
theorem Frr.pl {w wr:World} {R:Nat} {q:Nat->Prop} {p:Pl} {v:Value} (h:Frr w R wr) (hp:PlV w q p v) (hq:∀ b,q b->b ≠ R):PlV wr q p v:=PlV.zd h.size h.nat (fun b hb eP=>⟨eP,h.block b hb (hq b eP)⟩) hp
theorem Frr.row {w wr:World} {R S:Nat} {q:Nat->Prop} {L:List Pl} (h:Frr w R wr) (hr:xh w q S L) (hS:S ≠ R) (hq:∀ b,q b->b ≠ R):xh wr q S L:=hr.xl h.size h.nat (h.block _ hr.1 hS) fun b hb eP _=>⟨eP,h.block b hb (hq b eP)⟩
theorem Frr.put {w0 ws V V7 : World} {R j : Nat} {q : Nat -> Prop} {L : List Pl} {x : Pl} {A0 A1 : Option Addr} {n0 c0 n1 c1 : Nat} (hx : Ext w0 V) (hf : Frr ws R V) (ae : xh V q R L) (hw : w0.heap.size <= R) (hj : j < L.length) (hp : PlV V (fun b => q b /\ b ≠ R) x (plV x (.slice A0 n0 c0) (.slice A1 n1 c1)))
 (hV:V7=(((V.setCell ⟨R,j * 4,none⟩ (.int .i64 x.lv)).setCell ⟨R,j * 4+1,none⟩ (.bool x.neg)).setCell ⟨R,j * 4+2,none⟩ (.slice A0 n0 c0)).setCell ⟨R,j * 4+3,none⟩ (.slice A1 n1 c1)) :
 Ext w0 V7/\Frr V R V7/\Frr ws R V7/\xh V7 q R (L.set j x):=by
 obtain ⟨h1,h2⟩:=ae.xD j hj x hp;rw [<- hV] at h1 h2;have h3:Frr V R V7:=⟨by rw [hV]; simp [World.setCell],h2,fun b _ hb=>by rw [hV,Below.heap_setCell _ _ _ b hb,Below.heap_setCell _ _ _ b hb,Below.heap_setCell _ _ _ b hb,Below.heap_setCell _ _ _ b hb]⟩;exact ⟨by rw [hV]; exact (((hx.setCell hw _).setCell hw _).setCell hw _).setCell hw _,h3,hf.trans h3,h1⟩
def ElC (W:World) (R j:Nat) (x:Pl) (A0:Option Addr) (n0 c0:Nat) (A1:Option Addr) (n1 c1:Nat):Prop:=W.cell? ⟨R,j * 4,none⟩=some (.int .i64 x.lv)/\W.cell? ⟨R,j * 4+1,none⟩=some (.bool x.neg)/\W.cell? ⟨R,j * 4+2,none⟩=some (.slice A0 n0 c0)/\W.cell? ⟨R,j * 4+3,none⟩=some (.slice A1 n1 c1)
theorem ElC.ext {W W':World} {R j:Nat} {x:Pl} {A0 A1:Option Addr} {n0 c0 n1 c1:Nat} (h:ElC W R j x A0 n0 c0 A1 n1 c1) (hR:R < W.heap.size) (hx:Ext W W'):ElC W' R j x A0 n0 c0 A1 n1 c1:=⟨(hx.cell (p:=⟨R,_,none⟩) hR).trans h.1,(hx.cell (p:=⟨R,_,none⟩) hR).trans h.2.1,(hx.cell (p:=⟨R,_,none⟩) hR).trans h.2.2.1,(hx.cell (p:=⟨R,_,none⟩) hR).trans h.2.2.2⟩
theorem ElC.far {W W':World} {R S j:Nat} {x:Pl} {A0 A1:Option Addr} {n0 c0 n1 c1:Nat} (h:ElC W R j x A0 n0 c0 A1 n1 c1) (hR:R < W.heap.size) (hf:Frr W S W') (hS:R ≠ S):ElC W' R j x A0 n0 c0 A1 n1 c1:=⟨(hf.cell hR hS).trans h.1,(hf.cell hR hS).trans h.2.1,(hf.cell hR hS).trans h.2.2.1,(hf.cell hR hS).trans h.2.2.2⟩
theorem xh.el {W:World} {q:Nat->Prop} {R:Nat} {L:List Pl} (h:xh W q R L) (j:Nat) (hj:j < L.length):∃ A0 n0 c0 A1 n1 c1,ElC W R j L[j] A0 n0 c0 A1 n1 c1/\PlV W (fun b=>q b/\b ≠ R) L[j] (plV L[j] (.slice A0 n0 c0) (.slice A1 n1 c1)):=h.2.2 j hj
def yak (W:World) (Q m:Nat):Prop:=Q < W.heap.size/\(∀ j,W.frozen? ⟨Q,j,none⟩=false)/\∀ j,j < m * 4->∃ u,W.cell? ⟨Q,j,none⟩=some u/\jo u=false
theorem yak.ext {W W':World} {Q m:Nat} (h:yak W Q m) (hx:Ext W W'):yak W' Q m:=⟨pw h.1 hx.size,fun j=>(hx.frozen (p:=⟨Q,j,none⟩) h.1).trans (h.2.1 j),fun j hj=>by
 obtain ⟨u,h1,h2⟩:=h.2.2 j hj
 exact ⟨u,(hx.cell (p:=⟨Q,j,none⟩) h.1).trans h1,h2⟩⟩
theorem yak.far {W W':World} {Q R m:Nat} (h:yak W Q m) (hx:Frr W R W') (hQ:Q ≠ R):yak W' Q m:=⟨pw h.1 hx.size,fun j=>(sL (a:=⟨Q,j,none⟩) (hx.block Q h.1 hQ)).trans (h.2.1 j),fun j hj=>by
 obtain ⟨u,h1,h2⟩:=h.2.2 j hj
 exact ⟨u,(hx.cell h.1 hQ).trans h1,h2⟩⟩
theorem yak.of {W:World} {q:Nat->Prop} {Q:Nat} {L:List Pl} (h:xh W q Q L):yak W Q L.length:=by
 refine ⟨h.1,h.2.1,fun j hj=>?_⟩;obtain ⟨A0,n0,c0,A1,n1,c1,⟨e0,e1,e2,e3⟩,-⟩:=h.el (j / 4) (by omega);have hd:=Nat.div_add_mod j 4;have hm:=te j (show 0 < 4 by omega);rcases (show j=j / 4 * 4\/j=j / 4 * 4+1\/j=j / 4 * 4+2\/j=j / 4 * 4+3 by omega) with e | e | e | e
 · rw [e]; exact ⟨_,e0,rfl⟩
 · rw [e]; exact ⟨_,e1,rfl⟩
 · rw [e]; exact ⟨_,e2,rfl⟩
 · rw [e]; exact ⟨_,e3,rfl⟩
theorem yak.put {W V7 : World} {Q m k : Nat} (h : yak W Q m) (hk : k < m) (lv : Int) (ng : Bool) (A0 A1 : Option Addr) (n0 c0 n1 c1 : Nat)
 (hV:V7=(((W.setCell ⟨Q,k * 4,none⟩ (.int .i64 lv)).setCell ⟨Q,k * 4+1,none⟩ (.bool ng)).setCell ⟨Q,k * 4+2,none⟩ (.slice A0 n0 c0)).setCell ⟨Q,k * 4+3,none⟩ (.slice A1 n1 c1)) :
 (∃ u0 u1 u2 u3,W.cell? ⟨Q,k * 4,none⟩=some u0/\W.cell? ⟨Q,k * 4+1,none⟩=some u1/\W.cell? ⟨Q,k * 4+2,none⟩=some u2/\W.cell? ⟨Q,k * 4+3,none⟩=some u3)/\yak V7 Q m/\Frr W Q V7:=by
 obtain ⟨h1,h2,h3⟩:=h;obtain ⟨u0,c0',d0⟩:=h3 (k * 4) (by omega);obtain ⟨u1,c1',d1⟩:=h3 (k * 4+1) (by omega);obtain ⟨u2,c2',d2⟩:=h3 (k * 4+2) (by omega);obtain ⟨u3,c3',d3⟩:=h3 (k * 4+3) (by omega);have lX:=qa3 c0' c1' c2' c3' d0 d1 d2 d3 (.int .i64 lv) (.bool ng) (.slice A0 n0 c0) (.slice A1 n1 c1);simp only [<- hV] at lX;obtain ⟨⟨f0,f1,f2,f3⟩,g2,g3,g4,g5,g6⟩:=lX;refine ⟨⟨_,_,_,_,c0',c1',c2',c3'⟩,⟨by omega,fun j=>(g4 _).trans (h2 j),fun j hj=>?_⟩,by omega,g6,fun b _ hb=>g3 b hb⟩
 by_cases lJ:j < k * 4\/k * 4+3 < j
 · rw [g2 j lJ]; exact h3 j hj
 · rcases (show j=k * 4\/j=k * 4+1\/j=k * 4+2\/j=k * 4+3 by omega) with rfl | rfl | rfl | rfl
   · exact ⟨_,f0,rfl⟩
   · exact ⟨_,f1,rfl⟩
   · exact ⟨_,f2,rfl⟩
   · exact ⟨_,f3,rfl⟩
theorem qad {E D:Nat} {L:List Pl} (h:∀ c ∈ L,Fit c E D) (j:Nat):Fit (L.getD j Pl.zero) E D:=jad Fit.zero h j
theorem ub4 {E D F G:Nat} {g rest:List Pl} (hg:∀ c ∈ g,Fit c F G) (hr:∀ c ∈ rest,Fit c E D) (k:Nat):∀ c ∈ qy g k rest,Fit c (E+F) (D+G+2):=by
 intro c hc;obtain ⟨j,-,rfl⟩:=pZ.1 hc;have h1:=(qad hr j).mul (qad hg (g.length - 1))
 split
 · exact (h1.sub ((qad hr (g.length - 1+k)).mul (qad hg (j - k)))).mono (by omega) (by omega)
 · exact h1.mono (by omega) (by omega)
def RdL (G:List Pl) (k:Nat) (L:List Pl) (n j:Nat) (L':List Pl):Prop:=L'.length=n+k/\∀ i (h:i < L'.length),L'[i]=if i < j then (qy G k L).getD i Pl.zero else L.getD i Pl.zero
theorem RdL.start {G L:List Pl} {k n:Nat} (h:n+k<=L.length):RdL G k L n 0 (L.take (n+k)):=⟨by rw [pA]; omega,fun i hi=>by
 rw [pA] at hi
 rw [if_neg (by omega),tz,pr,po (by omega)]; rfl⟩
theorem RdL.fin {G L L':List Pl} {k n:Nat} (h:RdL G k L n (n+k) L') (hG:G.length=n+1):L'=qy G k L:=by
 refine sR (by rw [h.1,xay]; omega) fun i h1 h2=>?_
 rw [h.2 i h1,if_pos (by rw [<- h.1]; exact h1),pr,po h2]; rfl
theorem RdL.step {G L L':List Pl} {k n j:Nat} (h:RdL G k L n j L') (hj:j < n+k) {x:Pl} (hx:x=(qy G k L).getD j Pl.zero):RdL G k L n (j+1) (L'.set j x):=by
 refine ⟨by rw [pH]; exact h.1,fun i hi=>?_⟩;rw [pH] at hi
 by_cases oI:i=j
 · subst oI;rw [rR,if_pos (tx _)]; exact hx
 · rw [sX (Ne.symm oI),h.2 i hi]
   by_cases h2:i < j
   · rw [if_pos h2,if_pos (by omega)]
   · rw [if_neg h2,if_neg (by omega)]
theorem jba {G L:List Pl} {k n j:Nat} (hG:G.length=n+1) (hj:j < n+k):(qy G k L).getD j Pl.zero=if k<=j then ((L.getD j Pl.zero).mul (G.getD n Pl.zero)).sub ((L.getD (n+k) Pl.zero).mul (G.getD (j - k) Pl.zero)) else (L.getD j Pl.zero).mul (G.getD n Pl.zero):=by
 have hl:=xay G k L;rw [pr,po (by omega)];unfold qy;simp only [hG,ur,Pf,rK,tF]
end Go.Proofs.YtcepajijiabkmaaGreat
