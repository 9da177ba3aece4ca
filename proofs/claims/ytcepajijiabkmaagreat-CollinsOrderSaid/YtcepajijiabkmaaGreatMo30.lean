/- Layer 23: mainvar.Derivative. -/
import Derived.Test.YtcepajijiabkmaaGreatMo29
import Derived.Test.YtcepajijiabkmaaGreatMo23
set_option linter.all false
set_option maxRecDepth 100000
set_option maxHeartbeats 8000000
namespace Go.Proofs.YtcepajijiabkmaaGreat
open Lib (hid)
open Go.RowKit
def DrL (raw:List Pl) (k:Nat) (L:List Pl):Prop:=L.length=raw.length/\∀ j (h:j < L.length),L[j]=if j < k then (raw.getD (j+1) Pl.zero).mul (Pl.const ((j:Int)+1)) else raw.getD j Pl.zero
theorem DrL.step {raw L:List Pl} {k:Nat} (h:DrL raw k L) (hk:k+1 < raw.length):DrL raw (k+1) (L.set k ((raw.getD (k+1) Pl.zero).mul (Pl.const ((k:Int)+1)))):=by
 refine ⟨by rw [pL]; exact h.1,fun j hj=>?_⟩;rw [pL] at hj
 by_cases lK:j=k
 · subst lK;rw [r6,if_pos (tx _)]
 · rw [sY (Ne.symm lK),h.2 j hj]
   by_cases h2:j < k
   · rw [if_pos h2,if_pos (by omega)]
   · rw [if_neg h2,if_neg (by omega)]
theorem jf.qbI {W W':World} {g:Nat} (h:jf W g) (hb:W'.heap[g]?=W.heap[g]?) (hf:∀ a,W'.frozen? a=W.frozen? a):jf W' g:=by
 obtain ⟨⟨h0,h1,h2,h3⟩,h4⟩:=h;have k:∀ i,W'.cell? ⟨g,i,none⟩=W.cell? ⟨g,i,none⟩:=fun i=>pB (a:=⟨g,i,none⟩) hb
 exact ⟨⟨(k 0).trans h0,(k 1).trans h1,(k 2).trans h2,(k 3).trans h3⟩,fun i=>(hf _).trans (h4 i)⟩
theorem DrL.fin {raw L:List Pl} {m:Nat} (h:DrL raw m L) (hm:raw.length=m+1):L.take m=jae 1 raw.tail:=by
 refine sT (by rw [pA,xai,ud,h.1]; omega) fun j h1 h2=>?_
 rw [pA,h.1] at h1;rw [xai,ud] at h2;rw [tD,h.2 j (by rw [h.1]; omega),if_pos (by omega),qa5 1 raw.tail j (by rw [ud]; omega),List.getElem_tail,po,pr (by omega),Int.add_comm]
 rfl
theorem gc3 {w:World} {q:Nat->Prop} {p:Pl} {l:Int} {E D:Nat} (v:Value) (hl:1<=l) (ag:l<=4) (hp:Fit p E D) (O1:E<=62) (hD:D<=1099511627774) (h:PlV w q p v):Calls Tryz.prog 113 #[v,.int .i64 l] w (uf (fun b=>w.heap.size<=b) (yab l p) w):=by
 have HP:=hid h;have rJ:=hid hp;obtain ⟨A0,n0,c0,A,c,rfl,-⟩:=h.open_;obtain ⟨W,hW⟩:=n_m ((w.alloc (.cells #[.int .i64 p.lv,.bool p.neg,.slice A0 n0 c0,.slice A p.cs.length c] 33)).alloc (.cells #[.int .i64 0,.bool false,.slice none 0 0,.slice none 0 0] 33));have ai:Ext w W:=by rw [<- hW]; exact ((Ext.refl w).alloc _).alloc _
 have dG:W.heap.size=w.heap.size+1+1:=by rw [<- hW]; simp
 have hz:jf W (w.heap.size+1):=by
  have:=jf.new (w.alloc (.cells #[.int .i64 p.lv,.bool p.neg,.slice A0 n0 c0,.slice A p.cs.length c] 33)) 33;rw [hW] at this;simpa using this
 have bV:jb W w.heap.size p (.slice A0 n0 c0) (.slice A p.cs.length c):=by rw [<- hW]; exact (jb.new w p _ _ _).ext ((Ext.refl _).alloc _) (by simp)
 obtain ⟨b0,b1,b2,b3⟩:=bV;have iy:=hid (gak _ hl ag hp (by omega) (by omega) (HP.out.ext ai));have aG:=hid ai;have HZ:=hid hz;unfold plV at iy;unfold plV;obtain ⟨X,hX⟩:=n_m (yab l p);rw [hX];have oP:=hid hX;clear h hp ai hz hX;go_enter Tryz.func113,Tryz.ntmps113;go_wp2_with fail;refine (yap l _).mono ?_;rintro e w0 ⟨rfl,rfl⟩;rw [show (decide (1<=l) && decide (l<=4))=true by simp [hl,ag]];go_wp2_with fail;clear hW b0 b1 b2 b3;refine iy.out.mono ?_;rintro e w1 ⟨v1,rfl,⟨A1,k1,rfl,yQ,hk2,hR⟩,x1⟩;have aS:=HZ.out.ext x1 (by omega);have bW:=x1.size
 by_cases au:p.xf l=[]
 · have hlen:(p.xf l).length=0:=by rw [au]; rfl
   have wH:yab l p=Pl.zero:=by
    unfold yab;rw [if_pos ⟨hl,ag⟩,au];exact Pl.qv (zad _ _) Pl.qT fun ρ=>by rw [uz hl ag,Pl.qt]; rfl
   rw [hlen];have HF:=hid (uf.congr (oP.out.symm.trans wH) <| qf (q:=fun _=>False) (q':=fun b=>w.heap.size<=b) (aG.out.trans x1) (se _) aS (Pl.xt w1 _ none 0 (by omega)) (fun b _ hb=>hb.elim));obtain ⟨⟨z0,z1,z2,z3⟩,zf⟩:=aS;clear au hlen wH x1 iy hR;go_wp2_with fail;exact bodyPost_ret (v:=plV Pl.zero (.slice none 0 0) (.slice none 0 0)) (by simp [results,Tryz.results113,go_sem,z0,z1,z2,z3,plV,Pl.zero,Pl.lv,Pl.neg,Pl.cs]) rfl HF.out
 · obtain ⟨R,rfl,mi,ae⟩:=hR au;obtain ⟨m,hm⟩:∃ m,(p.xf l).length=m+1:=⟨(p.xf l).length - 1,by have:=rA.2 au; omega⟩;have Xm:=jw (l:=l) rJ.out.can rJ.out.ex;have oG:=hid (Pl.zP (l:=l) rJ.out);have Js:=hid (qx hl ag rJ.out.can);have NH:Hid (yab l p=joinL l (jae 1 (p.xf l).tail)):=hid (by unfold yab; rw [if_pos ⟨hl,ag⟩]);have HDF:=hid (yax (l:=l) rJ.out (by have:B32=4294967296:=rfl; omega));generalize p.xf l=raw at *;have Qu:IntKind.i64.wrap (((m:Int)+1) - 1)=(m:Int):=by rw [rj]; omega
   have hm0:(((m:Int)+1) == 0)=false:=by simp; omega
   have Ox:(m:Int)<=(k1:Int):=by omega
   have X1:=hid (aG.out.trans x1);have eY:=hid aS;have rV:w.heap.size+1 < w1.heap.size:=by omega
   have Pz:Hid (∃ L,DrL raw 0 L/\jh w1 (fun b=>w.heap.size+1 < b) R L):=hid ⟨raw,⟨rfl,fun j hj=>by rw [if_neg (by omega),po,pr hj]; rfl⟩,ae.mono fun b hb=>by omega⟩;have HM:=hid hm;have hmb:m<=E:=by omega
   rw [hm];clear au hm ae hR iy x1 aS;go_wp2_with fail;have Jr:Hid (Ext w w1/\∃ L,DrL raw 0 L/\jh w1 (fun b=>w.heap.size+1 < b) R L):=hid ⟨X1.out,Pz.out⟩;clear Pz
   go_loopw [6] (fun iv wr=>∃ j k:Nat,k+1=j/\k<=m/\iv=.int .i64 j/\Hid (jf wr (w.heap.size+1)/\Ext w wr)/\Hid (∃ L,DrL raw k L/\jh wr (fun b=>w.heap.size+1 < b) R L)) (fun iv _=>m+1 - (intOf iv).toNat)
   case atStart=>exact ⟨1,0,rfl,pZ _,rfl,hid ⟨eY.out,X1.out⟩,hid Jr.out.2⟩
   case round =>
    obtain ⟨j,k,lK,hk,rfl,HX,HJ⟩:=hrel
    by_cases af:j < m+1
    · obtain ⟨L,hL,ae⟩:=HJ.out;have pJ:L.length=m+1:=hL.1.trans HM.out;have hjL:j < L.length:=by omega
      obtain ⟨D0,dX,dZ,D1,lg,dY,⟨r0,r1,r2,r3⟩,uX⟩:=ae.2.2 j hjL;obtain ⟨C0,oM,oO,C1,uG,oN,⟨s0,s1,s2,s3⟩,-⟩:=ae.2.2 k (by omega);have mf:L[j]=raw.getD (k+1) Pl.zero:=by rw [hL.2 j hjL,if_neg (by omega),lK]
      have aF:Fit L[j] E D:=by
       rw [mf,po,pr (by have:=HM.out; omega)];exact oG.out _ (pt _)
      obtain ⟨x,hx⟩:=n_m (L[j]);rw [hx] at r0 r1 uX aF mf;have OC:k < L.length:=by omega
      have Em:=ae.1;have bG:=ae.2.1;have vK:∀ W',Ext wr W'->(W'.cell? ⟨R,j * 4,none⟩=some (.int .i64 x.lv)/\W'.cell? ⟨R,j * 4+1,none⟩=some (.bool x.neg)/\W'.cell? ⟨R,j * 4+2,none⟩=some (.slice D0 dX dZ)/\W'.cell? ⟨R,j * 4+3,none⟩=some (.slice D1 lg dY)):=fun W' h=>⟨(h.cell (p:=⟨R,j * 4,none⟩) Em).trans r0,(h.cell (p:=⟨R,j * 4+1,none⟩) Em).trans r1,(h.cell (p:=⟨R,j * 4+2,none⟩) Em).trans r2,(h.cell (p:=⟨R,j * 4+3,none⟩) Em).trans r3⟩
      have NM:=hid vK;have dS:Hid (∀ W',Ext wr W'->W'.cell? ⟨R,k * 4,none⟩=some (.int .i64 L[k].lv)/\W'.cell? ⟨R,k * 4+1,none⟩=some (.bool L[k].neg)/\W'.cell? ⟨R,k * 4+2,none⟩=some (.slice C0 oM oO)/\W'.cell? ⟨R,k * 4+3,none⟩=some (.slice C1 uG oN)):=hid fun W' h=>⟨(h.cell (p:=⟨R,k * 4,none⟩) Em).trans s0,(h.cell (p:=⟨R,k * 4+1,none⟩) Em).trans s1,(h.cell (p:=⟨R,k * 4+2,none⟩) Em).trans s2,(h.cell (p:=⟨R,k * 4+3,none⟩) Em).trans s3⟩
      have tY:Hid (∀ W' D2 i2 j2 D3 i3 j3,Ext wr W'->PlV W' (fun b=>wr.heap.size<=b) (x.mul (Pl.const j)) (plV (x.mul (Pl.const j)) (.slice D2 i2 j2) (.slice D3 i3 j3))->∀ V7,V7=((((W'.setCell ⟨R,k * 4,none⟩ (.int .i64 (x.mul (Pl.const j)).lv)).setCell ⟨R,k * 4+1,none⟩ (.bool (x.mul (Pl.const j)).neg)).setCell ⟨R,k * 4+2,none⟩ (.slice D2 i2 j2)).setCell ⟨R,k * 4+3,none⟩ (.slice D3 i3 j3)) ->
       (w.heap.size+1 < V7.heap.size/\jf V7 (w.heap.size+1)/\Ext w V7/\∃ L,DrL raw (k+1) L/\jh V7 (fun b=>w.heap.size+1 < b) R L)/\(V7.cell? ⟨R,j * 4,none⟩=some (.int .i64 x.lv)/\V7.cell? ⟨R,j * 4+1,none⟩=some (.bool x.neg)/\V7.cell? ⟨R,j * 4+2,none⟩=some (.slice D0 dX dZ)/\V7.cell? ⟨R,j * 4+3,none⟩=some (.slice D1 lg dY))):=hid (by
       intro W' D2 i2 j2 D3 i3 j3 qJ hp V7 mg;obtain ⟨a0,a1,a2,a3⟩:=dS.out W' qJ;have lY:=ya5 a0 a1 a2 a3 rfl rfl rfl rfl (.int .i64 (x.mul (Pl.const j)).lv) (.bool (x.mul (Pl.const j)).neg) (.slice D2 i2 j2) (.slice D3 i3 j3);obtain ⟨aV,-⟩:=(ae.ext qJ).xD k OC (x.mul (Pl.const j)) (hp.mono fun b hb=>⟨by omega,by omega⟩);have wI:=qJ.size;have WS:w.heap.size<=R:=by omega
       have abB:Ext w V7:=by rw [mg]; exact ((((HX.out.2.trans qJ).setCell WS _).setCell WS _).setCell WS _).setCell WS _
       have lI:=HX.out.1.ext qJ (by omega);simp only [<- mg] at lY aV;obtain ⟨-,g2,g3,g4,g5,-⟩:=lY;obtain ⟨e0,e1,e2,e3⟩:=vK W' qJ;refine ⟨⟨by omega,jf.qbI lI (g3 _ (by omega)) g4,abB,L.set k (x.mul (Pl.const j)),?_,aV⟩,(g2 _ (by omega)).trans e0,(g2 _ (by omega)).trans e1,(g2 _ (by omega)).trans e2,(g2 _ (by omega)).trans e3⟩;rw [mf,show (j:Int)=(k:Int)+1 by omega]
       exact hL.step (by have:=HM.out; omega))
      have f0:=bG (k * 4);have f1:=bG (k * 4+1);have f2:=bG (k * 4+2);have f3:=bG (k * 4+3);have Py:=hid Em;have Dw:=hid (uX.mono (q:=fun b=>w.heap.size+1 < b) fun b hb=>hb.1);have iw:=hid aF;have hjm:(j:Int) < (m:Int)+1:=by omega
      have H8:(k:Int) < (m:Int)+1:=by omega
      have hwj:IntKind.i64.wrap ((j:Int) - 1)=(k:Int):=by rw [rj]; omega
      have aC:Ext wr wr.drew:=(Ext.refl wr).drew;have ay:=hid aC;generalize L[k]=y at *;clear ae hL mf aF uX vK bG Em hx s0 s1 s2 s3 aC;go_upto_region 9 with fail;refine wp_region_held_drew (S:=fun W'=>(W'.cell? ⟨R,j * 4,none⟩=some (.int .i64 x.lv)/\W'.cell? ⟨R,j * 4+1,none⟩=some (.bool x.neg)/\W'.cell? ⟨R,j * 4+2,none⟩=some (.slice D0 dX dZ)/\W'.cell? ⟨R,j * 4+3,none⟩=some (.slice D1 lg dY))) (by kernel_rfl) (NM.out _ ay.out) (fun hHeld=>?_);refine tk 0 ?_;refine tk 1 ?_;refine tk 2 ?_;refine tk 3 ?_;refine tk 4 ?_;refine tk 5 ?_;refine tk 6 ?_ (hy:=Or.inl ⟨by rfl,by intro w' aO; obtain ⟨k1,k2,k3,k4⟩:=aO; go_simp; (try (with_reducible rfl))⟩);refine tk 7 ?_;refine r_1 8 fun K hK=>?_
      go_simp
      go_at_call 11
      refine (of_int (j:Int) _ (by omega) (by omega)).mono ?_;rintro e w2 ⟨z1,rfl,⟨y1,rfl,m1⟩,x2⟩;obtain ⟨xX,k1',rfl,-⟩:=id m1;have z2:Ext wr w2:=ay.out.trans x2;refine k_t hK (NM.out _ z2) fun hHeld=>?_
      clear hK K;refine r_1 9 fun K hK=>?_
      go_simp
      go_at_call 16
      refine (za4 (L:=1) (E:=E) (D:=D) _ _ (Dw.out.ext z2) (wak m1 (yf (by have:B32 ^ 1=4294967296:=rfl; omega))) (fun W' hx=>by rw [Pl.q7 iw.out.can]; exact ut _ (Dw.out.ext (z2.trans hx)) iw.out.can) (by rw [Pl.q7 iw.out.can]; exact iw.out) (by omega) (by omega)).mono ?_;rw [Pl.q7 iw.out.can];rintro e w3 ⟨v3,rfl,m3,x3⟩;obtain ⟨D2,i2,j2,D3,k3,rfl,-⟩:=id m3.open_;have z3:Ext wr w3:=z2.trans x3;refine k_t hK (NM.out _ z3) fun hHeld=>?_
      clear hK K;refine tk 10 ?_;have YT:=hid (tY.out _ _ _ _ _ _ _ z3 (m3.mono fun b hb=>py z2.size hb));obtain ⟨s0,s1,s2,s3⟩:=dS.out _ z3;have f0:=(z3.frozen (p:=⟨R,k * 4,none⟩) Py.out).trans f0;have f1:=(z3.frozen (p:=⟨R,k * 4+1,none⟩) Py.out).trans f1;have f2:=(z3.frozen (p:=⟨R,k * 4+2,none⟩) Py.out).trans f2;have f3:=(z3.frozen (p:=⟨R,k * 4+3,none⟩) Py.out).trans f3;clear tY m1 m3 x2 x3;generalize x.mul (Pl.const (j:Int))=xx at *;refine r_1 11 fun K hK=>?_
      unfold plV;go_simp;refine (?g9:∀ V7,((w.heap.size+1 < V7.heap.size/\jf V7 (w.heap.size+1)/\Ext w V7/\∃ L,DrL raw (k+1) L/\jh V7 (fun b=>w.heap.size+1 < b) R L)/\(V7.cell? ⟨R,j * 4,none⟩=some (.int .i64 x.lv)/\V7.cell? ⟨R,j * 4+1,none⟩=some (.bool x.neg)/\V7.cell? ⟨R,j * 4+2,none⟩=some (.slice D0 dX dZ)/\V7.cell? ⟨R,j * 4+3,none⟩=some (.slice D1 lg dY)))->K _ V7) _ (YT.out _ rfl);intro V7 mg;obtain ⟨⟨c1,c2,c3,c4⟩,c7⟩:=mg;refine k_t hK c7 fun hHeld=>?_
      clear hK K s0 s1 s2 s3 f0 f1 f2 f3 c7;refine w_d ?_;have Dl:Hid (jf V7 (w.heap.size+1)/\Ext w V7):=hid ⟨c2,c3⟩;have YN:=hid c4;clear hHeld c1 c2 c3 c4;have aaF:k+1<=m:=by omega
      go_wp2_with fail
      go_roundw
      case rel=>exact ⟨j+1,k+1,by omega,aaF,by go_num,Dl,YN⟩
      case measure=>simp only [intOf]; omega
    · have H8:k=m:=by omega
      obtain ⟨L,hL,ae⟩:=HJ.out;rw [H8] at hL;have OW:=hL.fin HM.out;have pJ:L.length=m+1:=hL.1.trans HM.out;have jX:∀ c ∈ L.take m,Fit c E (D+1):=fun c hc=>by
       rw [OW] at hc;obtain ⟨d,hd,i,hi,rfl⟩:=wbh hc;rw [ud] at hi;have:=(oG.out d (vah hd)).mul (Fit.const (E:=0) (D:=1) (z:=1+(i:Int)) (by have:B32 ^ 1=4294967296:=rfl; omega));exact this.mono (by omega) (by omega)
      have GX:(L.take m).length=m:=by rw [pA]; omega
      have Be:=hid (zan (l:=l) (c:=k1) hl ag ((ae.take m).fin (by omega)) (by omega) hk2 (kav jX (by rw [pA]; omega) O1) (by have:=uaq jX; omega) (by
       rw [OW,<- NH.out]
       exact HDF.out.copy_ (by omega)))
      rw [GX] at Be;rw [OW,<- NH.out,oP.out] at Be;have hjm:¬ (j:Int) < (m:Int)+1:=by omega
      have X2:=hid HX.out.2;have og:=hid HX.out.1;have BI:w.heap.size+1 < wr.heap.size:=by have:=ae.1; omega
      clear hL ae OW pJ jX GX HJ HX Jr HDF NH HM;go_wp2_with fail;refine Be.out.mono ?_;rintro e w2 ⟨v2,rfl,m2,x2⟩;obtain ⟨D0,dX,dZ,D1,dY,rfl,-⟩:=id m2.open_;have aS:=og.out.ext x2 BI;have HF:=hid (qf (q':=fun b=>w.heap.size<=b) (X2.out.trans x2) (se _) aS m2 (fun b _ hb=>⟨by omega,by omega⟩));obtain ⟨⟨z0,z1,z2,z3⟩,zf⟩:=aS;clear m2 x2 Be;unfold plV;go_wp2_with fail;exact bodyPost_ret (v:=plV X (.slice D0 dX dZ) (.slice D1 X.cs.length dY)) (by simp [results,Tryz.results113,go_sem,z0,z1,z2,z3,plV]) rfl HF.out
structure Frr (w : World) (R : Nat) (wr : World) : Prop where
 size:w.heap.size<=wr.heap.size
 nat:∀ v ds,jc w v ds->jc wr v ds
 block:∀ b,b < w.heap.size->b ≠ R->wr.heap[b]?=w.heap[b]?
theorem Frr.refl (w:World) (R:Nat):Frr w R w:=⟨pj _,fun _ _ h=>h,fun _ _ _=>rfl⟩
theorem Frr.ext {w wr W:World} {R:Nat} (h:Frr w R wr) (hx:Ext wr W):Frr w R W:=⟨py h.size hx.size,fun _ _ k=>(h.nat _ _ k).ext hx,fun b hb hR=>(hx.below.block b (px hb h.size)).trans (h.block b hb hR)⟩
theorem Frr.trans {w wr W:World} {R:Nat} (h:Frr w R wr) (k:Frr wr R W):Frr w R W:=⟨py h.size k.size,fun _ _ x=>k.nat _ _ (h.nat _ _ x),fun b hb hR=>(k.block b (px hb h.size) hR).trans (h.block b hb hR)⟩
theorem Frr.qbK {w wr W:World} {R Q:Nat} (h:Frr w R wr) (k:Frr wr Q W) (hQ:w.heap.size<=Q):Frr w R W:=⟨py h.size k.size,fun _ _ x=>k.nat _ _ (h.nat _ _ x),fun b hb hR=>(k.block b (px hb h.size) (by omega)).trans (h.block b hb hR)⟩
theorem Frr.cell {w wr:World} {R:Nat} (h:Frr w R wr) {b j:Nat} (hb:b < w.heap.size) (hR:b ≠ R):wr.cell? ⟨b,j,none⟩=w.cell? ⟨b,j,none⟩:=pB (a:=⟨b,j,none⟩) (h.block b hb hR)
theorem Frr.pl {w wr:World} {R:Nat} {q:Nat->Prop} {p:Pl} {v:Value} (h:Frr w R wr) (hp:PlV w q p v) (hq:∀ b,q b->b ≠ R):PlV wr q p v:=PlV.zd h.size h.nat (fun b hb eP=>⟨eP,h.block b hb (hq b eP)⟩) hp
theorem Frr.row {w wr:World} {R S:Nat} {q:Nat->Prop} {L:List Pl} (h:Frr w R wr) (hr:jh w q S L) (hS:S ≠ R) (hq:∀ b,q b->b ≠ R):jh wr q S L:=hr.xl h.size h.nat (h.block _ hr.1 hS) fun b hb eP _=>⟨eP,h.block b hb (hq b eP)⟩
theorem Frr.put {w0 ws V V7 : World} {R j : Nat} {q : Nat -> Prop} {L : List Pl} {x : Pl} {A0 A1 : Option Addr} {n0 c0 n1 c1 : Nat} (hx : Ext w0 V) (hf : Frr ws R V) (ae : jh V q R L) (hw : w0.heap.size <= R) (hj : j < L.length) (hp : PlV V (fun b => q b /\ b ≠ R) x (plV x (.slice A0 n0 c0) (.slice A1 n1 c1)))
 (hV:V7=(((V.setCell ⟨R,j * 4,none⟩ (.int .i64 x.lv)).setCell ⟨R,j * 4+1,none⟩ (.bool x.neg)).setCell ⟨R,j * 4+2,none⟩ (.slice A0 n0 c0)).setCell ⟨R,j * 4+3,none⟩ (.slice A1 n1 c1)) :
 Ext w0 V7/\Frr V R V7/\Frr ws R V7/\jh V7 q R (L.set j x):=by
 obtain ⟨h1,h2⟩:=ae.xD j hj x hp;rw [<- hV] at h1 h2;have h3:Frr V R V7:=⟨by rw [hV]; simp [World.setCell],h2,fun b _ hb=>by rw [hV,Below.heap_setCell _ _ _ b hb,Below.heap_setCell _ _ _ b hb,Below.heap_setCell _ _ _ b hb,Below.heap_setCell _ _ _ b hb]⟩;exact ⟨by rw [hV]; exact (((hx.setCell hw _).setCell hw _).setCell hw _).setCell hw _,h3,hf.trans h3,h1⟩
def ElC (W:World) (R j:Nat) (x:Pl) (A0:Option Addr) (n0 c0:Nat) (A1:Option Addr) (n1 c1:Nat):Prop:=W.cell? ⟨R,j * 4,none⟩=some (.int .i64 x.lv)/\W.cell? ⟨R,j * 4+1,none⟩=some (.bool x.neg)/\W.cell? ⟨R,j * 4+2,none⟩=some (.slice A0 n0 c0)/\W.cell? ⟨R,j * 4+3,none⟩=some (.slice A1 n1 c1)
theorem ElC.ext {W W':World} {R j:Nat} {x:Pl} {A0 A1:Option Addr} {n0 c0 n1 c1:Nat} (h:ElC W R j x A0 n0 c0 A1 n1 c1) (hR:R < W.heap.size) (hx:Ext W W'):ElC W' R j x A0 n0 c0 A1 n1 c1:=⟨(hx.cell (p:=⟨R,_,none⟩) hR).trans h.1,(hx.cell (p:=⟨R,_,none⟩) hR).trans h.2.1,(hx.cell (p:=⟨R,_,none⟩) hR).trans h.2.2.1,(hx.cell (p:=⟨R,_,none⟩) hR).trans h.2.2.2⟩
theorem ElC.far {W W':World} {R S j:Nat} {x:Pl} {A0 A1:Option Addr} {n0 c0 n1 c1:Nat} (h:ElC W R j x A0 n0 c0 A1 n1 c1) (hR:R < W.heap.size) (hf:Frr W S W') (hS:R ≠ S):ElC W' R j x A0 n0 c0 A1 n1 c1:=⟨(hf.cell hR hS).trans h.1,(hf.cell hR hS).trans h.2.1,(hf.cell hR hS).trans h.2.2.1,(hf.cell hR hS).trans h.2.2.2⟩
theorem jh.el {W:World} {q:Nat->Prop} {R:Nat} {L:List Pl} (h:jh W q R L) (j:Nat) (hj:j < L.length):∃ A0 n0 c0 A1 n1 c1,ElC W R j L[j] A0 n0 c0 A1 n1 c1/\PlV W (fun b=>q b/\b ≠ R) L[j] (plV L[j] (.slice A0 n0 c0) (.slice A1 n1 c1)):=h.2.2 j hj
def qal (W:World) (Q m:Nat):Prop:=Q < W.heap.size/\(∀ j,W.frozen? ⟨Q,j,none⟩=false)/\∀ j,j < m * 4->∃ u,W.cell? ⟨Q,j,none⟩=some u/\uo u=false
theorem qal.ext {W W':World} {Q m:Nat} (h:qal W Q m) (hx:Ext W W'):qal W' Q m:=⟨px h.1 hx.size,fun j=>(hx.frozen (p:=⟨Q,j,none⟩) h.1).trans (h.2.1 j),fun j hj=>by
 obtain ⟨u,h1,h2⟩:=h.2.2 j hj
 exact ⟨u,(hx.cell (p:=⟨Q,j,none⟩) h.1).trans h1,h2⟩⟩
theorem qal.far {W W':World} {Q R m:Nat} (h:qal W Q m) (hx:Frr W R W') (hQ:Q ≠ R):qal W' Q m:=⟨px h.1 hx.size,fun j=>(sP (a:=⟨Q,j,none⟩) (hx.block Q h.1 hQ)).trans (h.2.1 j),fun j hj=>by
 obtain ⟨u,h1,h2⟩:=h.2.2 j hj
 exact ⟨u,(hx.cell h.1 hQ).trans h1,h2⟩⟩
theorem qal.of {W:World} {q:Nat->Prop} {Q:Nat} {L:List Pl} (h:jh W q Q L):qal W Q L.length:=by
 refine ⟨h.1,h.2.1,fun j hj=>?_⟩;obtain ⟨A0,n0,c0,A1,n1,c1,⟨e0,e1,e2,e3⟩,-⟩:=h.el (j / 4) (by omega);have hd:=Wz j 4;have hm:=tg j (show 0 < 4 by omega);rcases (show j=j / 4 * 4\/j=j / 4 * 4+1\/j=j / 4 * 4+2\/j=j / 4 * 4+3 by omega) with e | e | e | e
 · rw [e]; exact ⟨_,e0,rfl⟩
 · rw [e]; exact ⟨_,e1,rfl⟩
 · rw [e]; exact ⟨_,e2,rfl⟩
 · rw [e]; exact ⟨_,e3,rfl⟩
theorem qal.put {W V7 : World} {Q m k : Nat} (h : qal W Q m) (hk : k < m) (lv : Int) (ng : Bool) (A0 A1 : Option Addr) (n0 c0 n1 c1 : Nat)
 (hV:V7=(((W.setCell ⟨Q,k * 4,none⟩ (.int .i64 lv)).setCell ⟨Q,k * 4+1,none⟩ (.bool ng)).setCell ⟨Q,k * 4+2,none⟩ (.slice A0 n0 c0)).setCell ⟨Q,k * 4+3,none⟩ (.slice A1 n1 c1)) :
 (∃ u0 u1 u2 u3,W.cell? ⟨Q,k * 4,none⟩=some u0/\W.cell? ⟨Q,k * 4+1,none⟩=some u1/\W.cell? ⟨Q,k * 4+2,none⟩=some u2/\W.cell? ⟨Q,k * 4+3,none⟩=some u3)/\qal V7 Q m/\Frr W Q V7:=by
 obtain ⟨h1,h2,h3⟩:=h;obtain ⟨u0,c0',d0⟩:=h3 (k * 4) (by omega);obtain ⟨u1,c1',d1⟩:=h3 (k * 4+1) (by omega);obtain ⟨u2,c2',d2⟩:=h3 (k * 4+2) (by omega);obtain ⟨u3,c3',d3⟩:=h3 (k * 4+3) (by omega);have lY:=ya5 c0' c1' c2' c3' d0 d1 d2 d3 (.int .i64 lv) (.bool ng) (.slice A0 n0 c0) (.slice A1 n1 c1);simp only [<- hV] at lY;obtain ⟨⟨f0,f1,f2,f3⟩,g2,g3,g4,g5,g6⟩:=lY;refine ⟨⟨_,_,_,_,c0',c1',c2',c3'⟩,⟨by omega,fun j=>(g4 _).trans (h2 j),fun j hj=>?_⟩,by omega,g6,fun b _ hb=>g3 b hb⟩
 by_cases lK:j < k * 4\/k * 4+3 < j
 · rw [g2 j lK]; exact h3 j hj
 · rcases (show j=k * 4\/j=k * 4+1\/j=k * 4+2\/j=k * 4+3 by omega) with rfl | rfl | rfl | rfl
   · exact ⟨_,f0,rfl⟩
   · exact ⟨_,f1,rfl⟩
   · exact ⟨_,f2,rfl⟩
   · exact ⟨_,f3,rfl⟩
theorem wad {E D:Nat} {L:List Pl} (h:∀ c ∈ L,Fit c E D) (j:Nat):Fit (L.getD j Pl.zero) E D:=yae Fit.zero h j
theorem vb8 {E D F G:Nat} {g rest:List Pl} (hg:∀ c ∈ g,Fit c F G) (hr:∀ c ∈ rest,Fit c E D) (k:Nat):∀ c ∈ qy g k rest,Fit c (E+F) (D+G+2):=by
 intro c hc;obtain ⟨j,-,rfl⟩:=pS.1 hc;have h1:=(wad hr j).mul (wad hg (g.length - 1))
 split
 · exact (h1.sub ((wad hr (g.length - 1+k)).mul (wad hg (j - k)))).mono (by omega) (by omega)
 · exact h1.mono (by omega) (by omega)
def RdL (G:List Pl) (k:Nat) (L:List Pl) (n j:Nat) (L':List Pl):Prop:=L'.length=n+k/\∀ i (h:i < L'.length),L'[i]=if i < j then (qy G k L).getD i Pl.zero else L.getD i Pl.zero
theorem RdL.start {G L:List Pl} {k n:Nat} (h:n+k<=L.length):RdL G k L n 0 (L.take (n+k)):=⟨by rw [pA]; omega,fun i hi=>by
 rw [pA] at hi
 rw [if_neg (by omega),tD,po,pr (by omega)]; rfl⟩
theorem RdL.fin {G L L':List Pl} {k n:Nat} (h:RdL G k L n (n+k) L') (hG:G.length=n+1):L'=qy G k L:=by
 refine sT (by rw [h.1,waz]; omega) fun i h1 h2=>?_
 rw [h.2 i h1,if_pos (by rw [<- h.1]; exact h1),po,pr h2]; rfl
theorem RdL.step {G L L':List Pl} {k n j:Nat} (h:RdL G k L n j L') (hj:j < n+k) {x:Pl} (hx:x=(qy G k L).getD j Pl.zero):RdL G k L n (j+1) (L'.set j x):=by
 refine ⟨by rw [pL]; exact h.1,fun i hi=>?_⟩;rw [pL] at hi
 by_cases oK:i=j
 · subst oK;rw [r6,if_pos (tx _)]; exact hx
 · rw [sY (Ne.symm oK),h.2 i hi]
   by_cases h2:i < j
   · rw [if_pos h2,if_pos (by omega)]
   · rw [if_neg h2,if_neg (by omega)]
theorem vbc {G L:List Pl} {k n j:Nat} (hG:G.length=n+1) (hj:j < n+k):(qy G k L).getD j Pl.zero=if k<=j then ((L.getD j Pl.zero).mul (G.getD n Pl.zero)).sub ((L.getD (n+k) Pl.zero).mul (G.getD (j - k) Pl.zero)) else (L.getD j Pl.zero).mul (G.getD n Pl.zero):=by
 have hl:=waz G k L;rw [po,pr (by omega)];unfold qy;simp only [hG,uR,Pr,rN,tI]
structure RdS (w0 w : World) (R Q : Nat) (F G : List Pl) (n K EM DM Eg Dg : Nat) (r : Nat) (wr : World) (L : List Pl) : Prop where
 ext:Ext w0 wr
 far:Frr w R wr
 slack:qal wr Q K
 row:jh wr (fun b=>w0.heap.size<=b/\b ≠ Q) R L
 len:L.length=n+r
 eq:zt G r L=zt G K F
 fit:∃ E D,(∀ c ∈ L,Fit c E D)/\E+r * Eg<=EM/\D+r * (Dg+2)<=DM
theorem xci {w0 w : World} {F G : List Pl} {R Rg cf cg n K EM DM E D Eg Dg : Nat} (aC : Ext w0 w) (hR : w0.heap.size <= R) (au : Rg ≠ R) (hF : jh w (fun b => w0.heap.size <= b) R F) (hG : jh w (fun b => b ≠ R) Rg G) (XW : G.length = n + 1) (UN : F.length = n + K) (hK : 1 <= K) (eu : F.length <= cf) (Ua : cf <= 9223372036854775807) (OO : G.length <= cg) (abf : cg <= 9223372036854775807) (hlen : n + K <= 1000000)
 (TI:∀ c ∈ F,Fit c E D) (Ir:∀ c ∈ G,Fit c Eg Dg) (hE:E+K * Eg<=EM) (hD:D+K * (Dg+2)<=DM) (hEM:EM<=400) (hDM:DM<=8796093000000) :
 Calls Tryz.prog 165 #[.slice (some ⟨R,0,none⟩) F.length cf,.slice (some ⟨Rg,0,none⟩) G.length cg] w fun e w'=>∃ v0 c',e=.returned (.tuple #[v0,.slice (some ⟨R,0,none⟩) (zt G K F).length c'])/\(zt G K F).length<=c'/\c'<=9223372036854775807/\jh w' (fun b=>w0.heap.size<=b) R (zt G K F)/\Ext w0 w':=by
 have ay:=hid aC;have HF:=hid (hF.xl (q':=fun b=>w0.heap.size<=b/\b ≠ w.heap.size) (pj _) (fun _ _ h=>h) rfl (fun b hb hq _=>⟨⟨hq,by omega⟩,rfl⟩));have HG:=hid hG;have qH:=hid XW;have Gs:=hid UN;have HFF:=hid TI;have PN:=hid Ir;have gZ:=hF.1;obtain ⟨V,dA,eQ,xB,ae⟩:=xy (K:Int) (by omega) (by omega) w;rw [sX] at dA ae;have gV:=ae (fun _=>True);have Pq:=hid (qal.of gV);rw [ra] at Pq;have H0:Hid (RdS w0 w R w.heap.size F G n K EM DM Eg Dg K V F):=hid ⟨aC.trans eQ,(Frr.refl w R).ext eQ,Pq.out,HF.out.ext eQ,UN,rfl,E,D,TI,hE,hD⟩;have uN:IntKind.i64.wrap (((n:Int)+1) - 1)=(n:Int):=by rw [rj]; omega
 have yD:IntKind.i64.wrap (((n:Int)+(K:Int)) - (n:Int))=(K:Int):=by rw [rj]; omega
 have hK0:(0:Int)<=(K:Int):=by omega
 rw [XW] at OO;rw [UN] at eu;rw [XW,UN];clear aC hF hG XW UN TI Ir hE hD ae gV eQ Pq HF;go_enter Tryz.func165,Tryz.ntmps165;go_wp2_with fail
 go_loopw [0,23] (fun av iv wr=>∃ i r N:Nat,i+r=K/\N=n+r/\iv=.int .i64 i/\av=.slice (some ⟨R,0,none⟩) N cf/\Hid (∃ L,RdS w0 w R w.heap.size F G n K EM DM Eg Dg r wr L)) (fun _ iv _=>K - (intOf iv).toNat)
 case atStart=>exact ⟨0,K,n+K,by omega,rfl,rfl,by go_num,hid ⟨_,H0.out⟩⟩
 case round =>
  obtain ⟨i,r,N,hir,hN,rfl,rfl,HR⟩:=hrel
  by_cases af:i < K
  · obtain ⟨L,hS⟩:=HR.out;obtain ⟨k,hk⟩:∃ k,k+1=r:=⟨r - 1,by omega⟩;obtain ⟨M,hM⟩:∃ M,M=n+k:=⟨_,rfl⟩;obtain ⟨K1,hK1⟩:∃ K1,K1+1=K:=⟨K - 1,by omega⟩;have pJ:L.length=M+1:=by rw [hS.len]; omega
    obtain ⟨C0,oM,oO,C1,uG,oN,⟨r0,r1,r2,r3⟩,hpc⟩:=hS.row.el M (by omega);have OO:L.getD (n+k) Pl.zero=L[M]:=by rw [po,<- hM,pr (by omega)]; rfl
    obtain ⟨c,hc⟩:=n_m (L[M]);rw [hc] at r0 r1 hpc OO;obtain ⟨V1,jH⟩:=n_m (wr.alloc (.cells #[.int .i64 c.lv,.bool c.neg,.slice C0 oM oO,.slice C1 uG oN] 33));have hx1:Ext wr V1:=by rw [<- jH]; exact (Ext.refl wr).alloc _
    have bV:jb V1 wr.heap.size c (.slice C0 oM oO) (.slice C1 uG oN):=by rw [<- jH]; exact jb.new wr c _ _ _
    have bW:V1.heap.size=wr.heap.size+1:=by rw [<- jH]; simp
    obtain ⟨V2,rD⟩:=n_m (((((V1.setCell ⟨w.heap.size,k * 4,none⟩ (.int .i64 c.lv)).setCell ⟨w.heap.size,k * 4+1,none⟩ (.bool c.neg)).setCell ⟨w.heap.size,k * 4+2,none⟩ (.slice C0 oM oO)).setCell ⟨w.heap.size,k * 4+3,none⟩ (.slice C1 uG oN)));obtain ⟨⟨u0,u1,u2,u3,q0,q1,q2,q3⟩,QJ,jW⟩:=(hS.slack.ext hx1).put (by omega:k < K) c.lv c.neg C0 C1 oM oO uG oN rD.symm;have pW:=((hS.slack.ext hx1).2.1);have f0:=pW (k * 4);have f1:=pW (k * 4+1);have f2:=pW (k * 4+2);have f3:=pW (k * 4+3);obtain ⟨b0,b1,b2,b3⟩:=id bV;have jI:=hS.slack.1;have GN:=ay.out.size;have HE2:Hid (Ext w0 V2):=hid (by rw [<- rD]; exact (((((hS.ext.trans hx1)).setCell GN _).setCell GN _).setCell GN _).setCell GN _);have Eu:=hid (jW.row (hS.row.ext hx1) (by omega) (fun b hb=>hb.2));have YQ:=hid (((hS.far.ext hx1).qbK jW (pj _)).row HG.out au (fun b hb=>hb));have Jz:=hid (jW.pl (hpc.ext hx1) (fun b hb=>hb.1.2));have HF2:=hid ((hS.far.ext hx1).qbK jW (pj _));have xW:Hid (jb V2 wr.heap.size c (.slice C0 oM oO) (.slice C1 uG oN)):=hid ⟨(jW.cell (by omega) (by omega)).trans b0,(jW.cell (by omega) (by omega)).trans b1,(jW.cell (by omega) (by omega)).trans b2,(jW.cell (by omega) (by omega)).trans b3⟩;have Gg:=hid QJ;have jF:V2.heap.size=wr.heap.size+1:=by rw [<- rD,<- bW]; simp [World.setCell]
    have HS:=hid hS;have HCG:=hid OO;have hwa:IntKind.i64.wrap ((K:Int) - 1)=(K1:Int):=by rw [rj]; omega
    have hwb:IntKind.i64.wrap ((K1:Int) - (i:Int))=(k:Int):=by rw [rj]; omega
    have hwc:IntKind.i64.wrap ((n:Int)+(k:Int))=(M:Int):=by rw [rj]; omega
    have hMN:(M:Int) < (N:Int):=by omega
    have hMc:(M:Int)<=(cf:Int):=by omega
    have hkK:(k:Int) < (K:Int):=by omega
    have hiK:(i:Int) < (K:Int):=by omega
    have Ry:wr.heap.size ≠ w.heap.size:=by omega
    have Jo:=hid (And.intro hM (And.intro hN (And.intro hk hK1)));clear hS hpc OO hc hx1 bV QJ jW pW HR H0 hM hN hk hK1 pJ;go_wp2_with fail;clear jH rD dA r0 r1 r2 r3 q0 q1 q2 q3 f0 f1 f2 f3 b0 b1 b2 b3;obtain ⟨wd,rfl⟩:∃ wd,wd=wr:=⟨wr,rfl⟩;have kH:Hid ((Ext w0 V2/\Frr V2 R V2)/\∃ L',RdL G k L n 0 L'/\jh V2 (fun b=>w0.heap.size<=b/\b ≠ w.heap.size) R L'):=hid ⟨⟨HE2.out,Frr.refl _ _⟩,_,RdL.start (by rw [HS.out.len]; have:=Jo.out; omega),Eu.out.take _⟩
    go_loopw [47] (fun jv wi=>∃ j,j<=M/\jv=.int .i64 j/\Hid ((Ext w0 wi/\Frr V2 R wi)/\∃ L',RdL G k L n j L'/\jh wi (fun b=>w0.heap.size<=b/\b ≠ w.heap.size) R L')) (fun jv _=>M - (intOf jv).toNat)
    case atStart=>exact ⟨0,pZ _,rfl,kH⟩
    case round =>
     obtain ⟨j,hj,rfl,HI⟩:=hrel
     by_cases hjM:j < M
     · obtain ⟨⟨Xp,KH⟩,L',IG,ae⟩:=HI.out;have lK:j < n+k:=by have:=Jo.out; omega
       have XQ:j < L'.length:=by rw [IG.1]; exact lK
       obtain ⟨A0,an0,ac0,A1,an1,ac1,CP,pz⟩:=ae.el j XQ;have LJ:L'[j]=L.getD j Pl.zero:=by rw [IG.2 j XQ,if_neg (Nat.lt_irrefl _)]
       have Ip:=KH.row YQ.out au (fun b hb=>hb);obtain ⟨B0,bn0,bc0,B1,bn1,bc1,Lh,pq⟩:=Ip.el n (by rw [qH.out]; omega);have lL:G[n]'(by rw [qH.out]; omega)=G.getD n Pl.zero:=by rw [po,pr (by rw [qH.out]; omega)]; rfl
       obtain ⟨Ei,Di,aF,XZ,X8⟩:=HS.out.fit;have JZ:r=k+1:=by have:=Jo.out; omega
       rw [JZ,Re] at XZ X8;have OJ:Fit L'[j] Ei Di:=by rw [LJ]; exact wad aF j
       have uC:Fit (G[n]'(by rw [qH.out]; omega)) Eg Dg:=by rw [lL]; exact wad PN.out n
       have Iq:Fit c Ei Di:=by rw [<- HCG.out]; exact wad aF _
       obtain ⟨a,ha⟩:=n_m (L'[j]);obtain ⟨g,hg⟩:=n_m (G[n]'(by rw [qH.out]; omega));rw [ha] at LJ OJ CP pz;rw [hg] at lL uC Lh pq;have hRi:=ae.1;have hVi:=KH.size;have UC:=Ip.1;have Ae:=hid (fun (W':World) (hx:Ext wr W')=>CP.ext hRi hx);have Wn:=hid (fun (W':World) (hx:Ext wr W')=>Lh.ext UC hx);have zX:=hid pz;have Gm:=hid pq;have Gt:=hid OJ;have NC:=hid uC;have YS:=hid Iq;have aQ:=hid ae;have Jj:=hid IG;have HIE:=hid Xp;have HIF:=hid KH;have WH:=hid LJ;have HGl:=hid lL;have HLJ:=hid XQ;have ajk:(j:Int) < (M:Int):=by omega
       have nH:(n:Int) < (n:Int)+1:=by omega
       have Y0:Hid (Ext wr wr.drew):=hid (Ext.refl wr).drew;have hEb:Ei+Eg<=400:=by omega
       have hDb:Di+Dg+2<=8796093000000:=by omega
       have VE:=hid hRi;have lh:=hid ae.2.1;clear Xp KH IG ae CP pz LJ Ip Lh pq lL aF OJ uC Iq ha hg XZ X8 XQ lK JZ HI kH hRi
       have kC:Hid (∀ V y D0 dX dZ D1 lg dY,Ext wr V->PlV V (fun b=>wr.heap.size<=b) y (plV y (.slice D0 dX dZ) (.slice D1 lg dY))->∀ V7,V7=(((V.setCell ⟨R,j * 4,none⟩ (.int .i64 y.lv)).setCell ⟨R,j * 4+1,none⟩ (.bool y.neg)).setCell ⟨R,j * 4+2,none⟩ (.slice D0 dX dZ)).setCell ⟨R,j * 4+3,none⟩ (.slice D1 lg dY) ->
        ((Ext w0 V7/\Frr V2 R V7)/\jh V7 (fun b=>w0.heap.size<=b/\b ≠ w.heap.size) R (L'.set j y))/\ElC V7 Rg n g B0 bn0 bc0 B1 bn1 bc1):=hid (by
        intro V y D0 dX dZ D1 lg dY dN hp V7 mg;obtain ⟨p1,p2,p3,p4⟩:=Frr.put (HIE.out.trans dN) (HIF.out.ext dN) (aQ.out.ext dN) hR HLJ.out (hp.mono fun b hb=>⟨⟨by omega,by omega⟩,by omega⟩) mg
        exact ⟨⟨⟨p1,p3⟩,p4⟩,(Wn.out V dN).far (px UC dN.size) p2 au⟩)
       go_upto_region 14 with fail;refine wp_region_held_drew (S:=fun W'=>ElC W' Rg n g B0 bn0 bc0 B1 bn1 bc1) (by kernel_rfl) (Wn.out _ Y0.out) (fun hHeld=>?_);refine tk 0 ?_;refine tk 1 ?_;refine tk 2 ?_;refine tk 3 ?_;refine tk 4 ?_;refine tk 6 ?_;refine tk 7 ?_;refine tk 8 ?_;refine tk 9 ?_ (hy:=Or.inl ⟨by rfl,by intro w' aO; obtain ⟨k1,k2,k3,k4⟩:=aO; go_simp; (try (with_reducible rfl))⟩);obtain ⟨e0,e1,e2,e3⟩:=Ae.out _ Y0.out;refine r_1 5 fun K hK=>?_
       go_simp;refine k_t hK (Wn.out _ Y0.out) fun hHeld=>?_
       clear hK K;refine r_1 10 fun K hK=>?_
       go_simp
       go_at_call 15
       refine (kam _ _ (zX.out.ext Y0.out) (Gm.out.ext Y0.out) Gt.out NC.out (by omega) (by omega)).mono ?_;rintro e w2 ⟨v2,rfl,m2,x2⟩;obtain ⟨D0,dX,dZ,D1,dY,rfl,-⟩:=id m2.open_;have z2:Ext wr w2:=Y0.out.trans x2;refine k_t hK (Wn.out _ z2) fun hHeld=>?_
       clear hK K e0 e1 e2 e3;refine tk 11 ?_;have YT:=hid (kC.out _ _ _ _ _ _ _ _ z2 (m2.mono fun b hb=>py Y0.out.size hb));obtain ⟨s0,s1,s2,s3⟩:=Ae.out _ z2;have f0:=(z2.frozen (p:=⟨R,j * 4,none⟩) VE.out).trans (lh.out _);have f1:=(z2.frozen (p:=⟨R,j * 4+1,none⟩) VE.out).trans (lh.out _);have f2:=(z2.frozen (p:=⟨R,j * 4+2,none⟩) VE.out).trans (lh.out _);have f3:=(z2.frozen (p:=⟨R,j * 4+3,none⟩) VE.out).trans (lh.out _);have HY:Hid (Fit (a.mul g) (Ei+Eg) (Di+Dg)):=hid (Gt.out.mul NC.out);have HYV:Hid (a.mul g=(L.getD j Pl.zero).mul (G.getD n Pl.zero)):=hid (by rw [WH.out,HGl.out]);clear kC m2 x2;generalize a.mul g=y at *;refine r_1 12 fun K hK=>?_
       unfold plV;go_simp;refine (?g9:∀ V7,(((Ext w0 V7/\Frr V2 R V7)/\jh V7 (fun b=>w0.heap.size<=b/\b ≠ w.heap.size) R (L'.set j y))/\ElC V7 Rg n g B0 bn0 bc0 B1 bn1 bc1)->K _ V7) _ (YT.out _ rfl);intro V7 mg;obtain ⟨h7,c7⟩:=mg;refine k_t hK c7 fun hHeld=>?_
       have H7:=hid h7;clear hK K s0 s1 s2 s3 f0 f1 f2 f3 c7 h7 z2;refine w_d ?_;clear hHeld Ae Wn zX Gm aQ HIE HIF lh VE YT Y0;have hjb:j < n+k:=by have:=Jo.out; omega
       by_cases OB:k<=j
       · obtain ⟨d,hd⟩:∃ d,d=j - k:=⟨_,rfl⟩;have wW:d < n+1:=by omega
         have wL:=H7.out.2;obtain ⟨E0,en0,zT,E1,U3,rE,hey,Hg⟩:=wL.el j (by rw [pL]; exact HLJ.out);simp only [r6] at hey Hg;have Ip:=H7.out.1.2.row YQ.out au (fun b hb=>hb);obtain ⟨B2,U7,bc2,B3,U6,bc3,Lh,pq⟩:=Ip.el d (by rw [qH.out]; omega);have lL:G[d]'(by rw [qH.out]; omega)=G.getD d Pl.zero:=by rw [po,pr (by rw [qH.out]; omega)]; rfl
         have KY:Fit (G[d]'(by rw [qH.out]; omega)) Eg Dg:=by rw [lL]; exact wad PN.out d
         obtain ⟨g2,dR⟩:=n_m (G[d]'(by rw [qH.out]; omega));rw [dR] at lL KY Lh pq;have bZ:Hid ((qy G k L).getD j Pl.zero=y.sub (c.mul g2)):=hid (by rw [vbc qH.out hjb,if_pos OB,HYV.out,HCG.out,lL,hd]);have pM:=hid wL.1;have mG:=hid wL.2.1;have abQ:=Ip.1;have ajS:=H7.out.1.2.size;have PO:=hid (fun (W':World) (hx:Ext V7 W')=>hey.ext pM.out hx);have Gj:=hid Hg;have Gl:=hid pq;have Gq:=hid KY;have Dz:=hid (H7.out.1.2.pl Jz.out (fun b hb=>hb.2));have HB7:Hid (jb V7 wd.heap.size c (.slice C0 oM oO) (.slice C1 uG oN)):=by
          obtain ⟨b0,b1,b2,b3⟩:=xW.out;have hf:=H7.out.1.2;exact hid ⟨(hf.cell (by omega) (by omega)).trans b0,(hf.cell (by omega) (by omega)).trans b1,(hf.cell (by omega) (by omega)).trans b2,(hf.cell (by omega) (by omega)).trans b3⟩
         have iH:Hid (∀ W',Ext V7 W'->(ElC W' Rg d g2 B2 U7 bc2 B3 U6 bc3/\jb W' wd.heap.size c (.slice C0 oM oO) (.slice C1 uG oN))):=hid fun W' hx=>⟨Lh.ext abQ hx,HB7.out.ext hx (by omega)⟩
         have xP:Hid (∀ V y' D0 dX dZ D1 lg dY,Ext V7 V->PlV V (fun b=>V7.heap.size<=b) y' (plV y' (.slice D0 dX dZ) (.slice D1 lg dY))->∀ V8,V8=(((V.setCell ⟨R,j * 4,none⟩ (.int .i64 y'.lv)).setCell ⟨R,j * 4+1,none⟩ (.bool y'.neg)).setCell ⟨R,j * 4+2,none⟩ (.slice D0 dX dZ)).setCell ⟨R,j * 4+3,none⟩ (.slice D1 lg dY) ->
          ((Ext w0 V8/\Frr V2 R V8)/\jh V8 (fun b=>w0.heap.size<=b/\b ≠ w.heap.size) R ((L'.set j y).set j y'))/\(ElC V8 Rg d g2 B2 U7 bc2 B3 U6 bc3/\jb V8 wd.heap.size c (.slice C0 oM oO) (.slice C1 uG oN))):=hid (by
          intro V y' D0 dX dZ D1 lg dY dN hp V8 qU;obtain ⟨p1,p2,p3,p4⟩:=Frr.put (H7.out.1.1.trans dN) (H7.out.1.2.ext dN) (H7.out.2.ext dN) hR (by rw [pL]; exact HLJ.out) (hp.mono fun b hb=>⟨⟨by omega,by omega⟩,by have:=pM.out; omega⟩) qU;obtain ⟨s1,s2⟩:=iH.out V dN;have xB:=dN.size;obtain ⟨b0,b1,b2,b3⟩:=s2
          exact ⟨⟨⟨p1,p3⟩,p4⟩,s1.far (by omega) p2 au,(p2.cell (by omega) (by omega)).trans b0,(p2.cell (by omega) (by omega)).trans b1,(p2.cell (by omega) (by omega)).trans b2,(p2.cell (by omega) (by omega)).trans b3⟩)
         have ajf:(k:Int)<=(j:Int):=by omega
         have hwd:IntKind.i64.wrap ((j:Int) - (k:Int))=(d:Int):=by rw [rj]; omega
         have ajC:(d:Int) < (n:Int)+1:=by omega
         have Y7:Hid (Ext V7 V7.drew):=hid (Ext.refl V7).drew;clear hd wL hey Hg Ip Lh pq lL KY dR;go_upto_region 16 with fail;refine wp_region_held_drew (S:=fun W'=>ElC W' Rg d g2 B2 U7 bc2 B3 U6 bc3/\jb W' wd.heap.size c (.slice C0 oM oO) (.slice C1 uG oN)) (by kernel_rfl) (iH.out _ Y7.out) (fun hHeld=>?_);refine tk 0 ?_;refine tk 1 ?_;refine tk 2 ?_;refine tk 3 ?_;refine tk 4 ?_;refine tk 6 ?_ (hy:=Or.inl ⟨by rfl,by intro w' aO; obtain ⟨⟨k1,k2,k3,k4⟩,k5,k6,k7,k8⟩:=aO; go_simp; (try (with_reducible rfl))⟩);refine tk 7 ?_;refine tk 8 ?_;refine tk 9 ?_;refine tk 10 ?_;refine tk 11 ?_;refine tk 12 ?_ (hy:=Or.inl ⟨by rfl,by intro w' aO; obtain ⟨⟨k1,k2,k3,k4⟩,k5,k6,k7,k8⟩:=aO; go_simp; (try (with_reducible rfl))⟩);refine r_2 5 13 (fun K hK=>?ordA) fun K hK=>?ordB
         case ordA =>
          obtain ⟨e0,e1,e2,e3⟩:=PO.out _ Y7.out;go_simp;refine k_t hK (iH.out _ Y7.out) fun hHeld=>?_
          clear hK K e0 e1 e2 e3;refine r_1 13 fun K hK=>?_
          go_simp
          go_at_call 15
          refine (kam _ _ (Dz.out.ext Y7.out) (Gl.out.ext Y7.out) YS.out Gq.out (by omega) (by omega)).mono ?_;rintro e w3 ⟨v3,rfl,m3,x3⟩;obtain ⟨D2,dn2,dc2,D3,dc3,rfl,-⟩:=id m3.open_;have z3:Ext V7 w3:=Y7.out.trans x3;refine k_t hK (iH.out _ z3) fun hHeld=>?_
          clear hK K;refine r_1 14 fun K hK=>?_
          try unfold plV
          go_simp
          go_at_call 14
          refine (gar _ _ (Gj.out.ext z3) m3 HY.out (YS.out.mul Gq.out) (by omega) (by omega)).mono ?_;rintro e w4 ⟨v4,rfl,m4,x4⟩;obtain ⟨D4,dn4,dc4,D5,dc5,rfl,-⟩:=id m4.open_;have z4:Ext V7 w4:=z3.trans x4;refine k_t hK (iH.out _ z4) fun hHeld=>?_
          clear hK K;refine tk 15 ?_;have Ad:=hid (xP.out _ _ _ _ _ _ _ _ z4 (m4.mono fun b hb=>py z3.size hb));obtain ⟨s0,s1,s2,s3⟩:=PO.out _ z4;have f0:=(z4.frozen (p:=⟨R,j * 4,none⟩) pM.out).trans (mG.out _);have f1:=(z4.frozen (p:=⟨R,j * 4+1,none⟩) pM.out).trans (mG.out _);have f2:=(z4.frozen (p:=⟨R,j * 4+2,none⟩) pM.out).trans (mG.out _);have f3:=(z4.frozen (p:=⟨R,j * 4+3,none⟩) pM.out).trans (mG.out _);have xK:Hid (y.add (c.mul g2).yd=(qy G k L).getD j Pl.zero):=hid (by rw [bZ.out]; rfl);clear xP m4 x4 m3 x3 z3;generalize y.add (c.mul g2).yd=yy at *;refine r_1 16 fun K hK=>?_
          unfold plV;go_simp;refine (?gA:∀ V8,(((Ext w0 V8/\Frr V2 R V8)/\jh V8 (fun b=>w0.heap.size<=b/\b ≠ w.heap.size) R ((L'.set j y).set j yy))/\(ElC V8 Rg d g2 B2 U7 bc2 B3 U6 bc3/\jb V8 wd.heap.size c (.slice C0 oM oO) (.slice C1 uG oN)))->K _ V8) _ (Ad.out _ rfl);intro V8 qU;obtain ⟨h8,c8⟩:=qU;refine k_t hK c8 fun hHeld=>?_
          have Np:Hid ((Ext w0 V8/\Frr V2 R V8)/\∃ L',RdL G k L n (j+1) L'/\jh V8 (fun b=>w0.heap.size<=b/\b ≠ w.heap.size) R L'):=hid ⟨h8.1,_,by rw [paC]; exact Jj.out.step (by have:=Jo.out; omega) xK.out,h8.2⟩;clear hK K s0 s1 s2 s3 f0 f1 f2 f3 c8 h8 z4;refine w_d ?_;clear hHeld Gj Dz Gl iH PO Ad Y7;go_wp2_with fail
          go_roundw
          case rel=>exact ⟨j+1,by omega,by go_num,Np⟩
          case measure=>simp only [intOf]; omega
         case ordB =>
          go_simp
          go_at_call 15
          refine (kam _ _ (Dz.out.ext Y7.out) (Gl.out.ext Y7.out) YS.out Gq.out (by omega) (by omega)).mono ?_;rintro e w3 ⟨v3,rfl,m3,x3⟩;obtain ⟨D2,dn2,dc2,D3,dc3,rfl,-⟩:=id m3.open_;have z3:Ext V7 w3:=Y7.out.trans x3;refine k_t hK (iH.out _ z3) fun hHeld=>?_
          clear hK K;refine r_1 5 fun K hK=>?_
          obtain ⟨e0,e1,e2,e3⟩:=PO.out _ z3;go_simp;refine k_t hK (iH.out _ z3) fun hHeld=>?_
          clear hK K e0 e1 e2 e3;refine r_1 14 fun K hK=>?_
          try unfold plV
          go_simp
          go_at_call 14
          refine (gar _ _ (Gj.out.ext z3) m3 HY.out (YS.out.mul Gq.out) (by omega) (by omega)).mono ?_;rintro e w4 ⟨v4,rfl,m4,x4⟩;obtain ⟨D4,dn4,dc4,D5,dc5,rfl,-⟩:=id m4.open_;have z4:Ext V7 w4:=z3.trans x4;refine k_t hK (iH.out _ z4) fun hHeld=>?_
          clear hK K;refine tk 15 ?_;have Ad:=hid (xP.out _ _ _ _ _ _ _ _ z4 (m4.mono fun b hb=>py z3.size hb));obtain ⟨s0,s1,s2,s3⟩:=PO.out _ z4;have f0:=(z4.frozen (p:=⟨R,j * 4,none⟩) pM.out).trans (mG.out _);have f1:=(z4.frozen (p:=⟨R,j * 4+1,none⟩) pM.out).trans (mG.out _);have f2:=(z4.frozen (p:=⟨R,j * 4+2,none⟩) pM.out).trans (mG.out _);have f3:=(z4.frozen (p:=⟨R,j * 4+3,none⟩) pM.out).trans (mG.out _);have xK:Hid (y.add (c.mul g2).yd=(qy G k L).getD j Pl.zero):=hid (by rw [bZ.out]; rfl);clear xP m4 x4 m3 x3 z3;generalize y.add (c.mul g2).yd=yy at *;refine r_1 16 fun K hK=>?_
          unfold plV;go_simp;refine (?gB:∀ V8,(((Ext w0 V8/\Frr V2 R V8)/\jh V8 (fun b=>w0.heap.size<=b/\b ≠ w.heap.size) R ((L'.set j y).set j yy))/\(ElC V8 Rg d g2 B2 U7 bc2 B3 U6 bc3/\jb V8 wd.heap.size c (.slice C0 oM oO) (.slice C1 uG oN)))->K _ V8) _ (Ad.out _ rfl);intro V8 qU;obtain ⟨h8,c8⟩:=qU;refine k_t hK c8 fun hHeld=>?_
          have Np:Hid ((Ext w0 V8/\Frr V2 R V8)/\∃ L',RdL G k L n (j+1) L'/\jh V8 (fun b=>w0.heap.size<=b/\b ≠ w.heap.size) R L'):=hid ⟨h8.1,_,by rw [paC]; exact Jj.out.step (by have:=Jo.out; omega) xK.out,h8.2⟩;clear hK K s0 s1 s2 s3 f0 f1 f2 f3 c8 h8 z4;refine w_d ?_;clear hHeld Gj Dz Gl iH PO Ad Y7;go_wp2_with fail
          go_roundw
          case rel=>exact ⟨j+1,by omega,by go_num,Np⟩
          case measure=>simp only [intOf]; omega
       · have ajd:¬ (k:Int)<=(j:Int):=by omega
         have aje:(j:Int) < (k:Int):=by omega
         have HN7:Hid ((Ext w0 V7/\Frr V2 R V7)/\∃ L',RdL G k L n (j+1) L'/\jh V7 (fun b=>w0.heap.size<=b/\b ≠ w.heap.size) R L'):=hid ⟨H7.out.1,_,Jj.out.step hjb (by rw [vbc qH.out hjb,if_neg OB]; exact HYV.out),H7.out.2⟩;go_wp2_with fail
         go_roundw
         case rel=>exact ⟨j+1,by omega,by go_num,HN7⟩
         case measure=>simp only [intOf]; omega
     · have hje:j=M:=by omega
       have OD:¬ (j:Int) < (M:Int):=by omega
       have HN:Hid (∃ L,RdS w0 w R w.heap.size F G n K EM DM Eg Dg k wr L):=hid (by
        obtain ⟨⟨Xp,KH⟩,L',IG,ae⟩:=HI.out;have hm:=Jo.out;rw [hje,hm.1] at IG;have hL':=IG.fin qH.out;obtain ⟨Ei,Di,aF,XZ,X8⟩:=HS.out.fit;have JZ:r=k+1:=by omega
        rw [JZ,Re] at XZ X8;refine ⟨L',Xp,HF2.out.trans KH,Gg.out.far KH (by omega),ae,IG.1,?_,Ei+Eg,Di+Dg+2,?_,by omega,by omega⟩
        · rw [hL',<- HS.out.eq,JZ,zt]
        · rw [hL']; exact vb8 PN.out aF k)
       have nI:i+1+k=K/\M=n+k:=by have:=Jo.out; omega
       clear HI;go_wp2_with fail
       go_roundw
       case rel=>exact ⟨i+1,k,M,nI.1,nI.2,by go_num,rfl,HN⟩
       case measure=>simp only [intOf]; omega
  · have hr0:r=0:=by omega
    have nI:¬ (i:Int) < (K:Int):=by omega
    obtain ⟨L,hS⟩:=HR.out;have hlen:=hS.len;have heq:=hS.eq;rw [hr0] at heq;have pK:L=zt G K F:=heq;have HP:=hid (hS.row.mono (q':=fun b=>w0.heap.size<=b) fun b hb=>hb.1);have HXF:=hid hS.ext;have hNL:N=(zt G K F).length:=by rw [<- pK]; omega
    have hNc:N<=cf:=by omega
    rw [pK] at HP;clear hS hlen heq pK HR H0 hN hir;go_wp2_with fail;exact bodyPost_ret (v:=.tuple #[.slice (some ⟨w.heap.size,0,none⟩) K K,.slice (some ⟨R,0,none⟩) (zt G K F).length cf]) (by simp [results,Tryz.results165,go_sem]) rfl ⟨.slice (some ⟨w.heap.size,0,none⟩) K K,cf,rfl,by rw [<- hNL]; exact hNc,Ua,HP.out,HXF.out⟩
theorem jb8 {w:World} {A B:Option Addr} {n f cf cg:Nat} (hf:f<=n) (eu:f<=cf) (Ua:cf<=9223372036854775807) (OO:n+1<=cg) (abf:cg<=9223372036854775807) (hn:n<=1000000) :
 Calls Tryz.prog 165 #[.slice A f cf,.slice B (n+1) cg] w fun e w'=>∃ v0,e=.returned (.tuple #[v0,.slice A f cf])/\Ext w w':=by
 obtain ⟨d,hd⟩:∃ d,f+d=n:=⟨n - f,by omega⟩;have HD:=hid hd;obtain ⟨V,dA,eQ,xB,-⟩:=xy 0 (by omega) (by omega) w;have lM:=hid eQ;have uN:IntKind.i64.wrap (((n:Int)+1) - 1)=(n:Int):=by rw [rj]; omega
 have yD:IntKind.i64.wrap ((f:Int) - (n:Int))=-(d:Int):=by rw [rj]; omega
 have hd0:max (-(d:Int)) 0=0:=by omega
 have eH:-(d:Int)<=0:=by omega
 clear hd eQ;go_enter Tryz.func165,Tryz.ntmps165;go_wp2_with fail
 go_loopw [0,23] (fun av iv wr=>iv=.int .i64 0/\av=.slice A f cf/\Hid (Ext w wr)) (fun _ _ _=>0)
 case atStart=>exact ⟨rfl,rfl,lM⟩
 case round =>
  obtain ⟨rfl,rfl,HR⟩:=hrel;go_wp2_with fail;exact bodyPost_ret (v:=.tuple #[.slice (some ⟨w.heap.size,0,none⟩) 0 0,.slice A f cf]) (by simp [results,Tryz.results165,go_sem]) rfl ⟨_,rfl,HR.out⟩
def qc9 (n:Int) (w:World) (e:Ending) (w':World):Prop:=e=.returned (.int .i64 n)/\Ext w w'
theorem qbk {w:World} {q:Nat->Prop} {L:List Pl} {A:Option Addr} {c:Nat} (hA:jd w q L A 0) (dD:∀ p ∈ L,p.Can) (hn:L.length<=1000000) :
 Calls Tryz.prog 164 #[.slice A L.length c] w (qc9 (if L.any Pl.zp then 2 else 0) w):=by
 have HA:=hid hA;have HC:=hid dD;obtain ⟨m,hm⟩:=n_m (L.length);have HM:=hid hm;obtain ⟨b,hb⟩:∃ b:Int,(if L.any Pl.zp then 2 else 0)=b:=⟨_,rfl⟩;have HB:=hid hb;rw [hm] at hn;rw [hm,hb];clear hA dD hm hb;go_enter Tryz.func164,Tryz.ntmps164;go_wp2_with fail
 go_loopw [7] (fun iv wr=>∃ k:Nat,k<=m/\iv=.int .i64 k/\Hid (Ext w wr/\∀ i (h:i < L.length),i < k->L[i].zp=false)) (fun iv _=>m - (intOf iv).toNat)
 case atStart=>exact ⟨0,pZ _,rfl,hid ⟨Ext.refl _,fun i _ h=>by omega⟩⟩
 case round =>
  obtain ⟨k,hk,rfl,HR⟩:=hrel
  by_cases af:k < m
  · have hkl:k < L.length:=by rw [HM.out]; exact af
    obtain ⟨ad,C0,j0,g0,C1,j1,g1,rfl,ah,bP,bu⟩:=jd.ym HA.out k hkl;obtain ⟨a0,a1,a2,a3⟩:=bP.ext HR.out.1 (by rw [ja]; exact ah);have gJ:=hid (fun (W':World) (hx:Ext wr W')=>kac _ (bu.ext (HR.out.1.trans hx)) (HC.out _ (pt hkl)));have HG:Hid (∀ x,L[k]=x->x.zp=true->b=2):=hid fun x hx hz=>by
     rw [<- HB.out,if_pos (Ta.2 ⟨L[k],pt hkl,by rw [hx]; exact hz⟩)]
    have HN:Hid (∀ x,L[k]=x->x.zp=false->∀ i (h:i < L.length),i < k+1->L[i].zp=false):=hid fun x hx hz i hi nI=>by
     by_cases e:i=k
     · subst e; rw [hx]; exact hz
     · exact HR.out.2 i hi (by omega)
    obtain ⟨x,hx⟩:=n_m (L[k])
    replace HG:=hid (HG.out x hx)
    replace HN:=hid (HN.out x hx)
    rw [hx] at a0 a1 gJ;have X1:=hid HR.out.1;have H8:(k:Int) < (m:Int):=by omega
    unfold plV at gJ;clear bP bu ah hx HR hkl;go_wp2_with fail;clear a0 a1 a2 a3;refine (gJ.out _ ((Ext.refl _).alloc _)).mono ?_;rintro e w1 ⟨rfl,x1⟩;cases Zy:x.zp with
    | true =>
      have dE:=HG.out Zy;clear HG HN;have XF:=hid (X1.out.trans (((Ext.refl wr).alloc _).trans x1));go_wp2_with fail;subst dE;go_ret;exact ⟨rfl,XF.out⟩
    | false =>
      have Eu:=hid (And.intro (X1.out.trans (((Ext.refl wr).alloc _).trans x1)) (HN.out Zy));clear HG HN x1;go_wp2_with fail
      go_roundw
      case rel=>exact ⟨k+1,by omega,by go_num,Eu⟩
      case measure=>simp only [intOf]; omega
  · have aX:b=0:=by
     rw [<- HB.out,if_neg];intro h;obtain ⟨x,hx,hz⟩:=Ta.1 h;obtain ⟨i,hi,rfl⟩:=tj hx;rw [HR.out.2 i hi (by have:=HM.out; omega)] at hz;cases hz
    have H8:¬ (k:Int) < (m:Int):=by omega
    have XF:=hid HR.out.1;clear HR;go_wp2_with fail;subst aX;go_ret;exact ⟨rfl,XF.out⟩
end Go.Proofs.YtcepajijiabkmaaGreat
