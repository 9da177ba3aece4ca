/- Layer 23: mainvar.Derivative. -/
import Derived.Test.YtcepajijiabkmaaGreatMq30
set_option linter.unusedSimpArgs false
set_option linter.unusedVariables false
set_option maxRecDepth 100000
set_option maxHeartbeats 8000000
namespace Go.Proofs.YtcepajijiabkmaaGreat
open Lib (hid)
open Go.RowKit
def DrL (raw:List Pl) (k:Nat) (L:List Pl):Prop:=L.length=raw.length/\∀ j (h:j < L.length),L[j]=if j < k then (raw.getD (j+1) Pl.zero).mul (Pl.const ((j:Int)+1)) else raw.getD j Pl.zero
theorem DrL.step {raw L:List Pl} {k:Nat} (h:DrL raw k L) (hk:k+1 < raw.length):DrL raw (k+1) (L.set k ((raw.getD (k+1) Pl.zero).mul (Pl.const ((k:Int)+1)))):=by
 refine ⟨by rw [List.length_set]; exact h.1,fun j hj=>?_⟩;rw [List.length_set] at hj
 by_cases jM:j=k
 · subst jM;rw [List.getElem_set_self,if_pos (Nat.lt_succ_self _)]
 · rw [List.getElem_set_ne (Ne.symm jM),h.2 j hj]
   by_cases h2:j < k
   · rw [if_pos h2,if_pos (by omega)]
   · rw [if_neg h2,if_neg (by omega)]
theorem uf.same_ {W W':World} {g:Nat} (h:uf W g) (hb:W'.heap[g]?=W.heap[g]?) (hf:∀ a,W'.frozen? a=W.frozen? a):uf W' g:=by
 obtain ⟨⟨h0,h1,h2,h3⟩,h4⟩:=h;have k:∀ i,W'.cell? ⟨g,i,none⟩=W.cell? ⟨g,i,none⟩:=fun i=>World.cell?_of_block (a:=⟨g,i,none⟩) hb
 exact ⟨⟨(k 0).trans h0,(k 1).trans h1,(k 2).trans h2,(k 3).trans h3⟩,fun i=>(hf _).trans (h4 i)⟩
theorem DrL.fin {raw L:List Pl} {m:Nat} (h:DrL raw m L) (hm:raw.length=m+1):L.take m=uag 1 raw.tail:=by
 refine List.ext_getElem (by rw [List.length_take,gah,List.length_tail,h.1]; omega) fun j h1 h2=>?_
 rw [List.length_take,h.1] at h1;rw [gah,List.length_tail] at h2;rw [List.getElem_take,h.2 j (by rw [h.1]; omega),if_pos (by omega),za2 1 raw.tail j (by rw [List.length_tail]; omega),List.getElem_tail,List.getD_eq_getElem?_getD,List.getElem?_eq_getElem (by omega),Int.add_comm]
 rfl
theorem qct {w:World} {q:Nat->Prop} {p:Pl} {l:Int} {E D:Nat} (v:Value) (hl:1<=l) (aj:l<=4) (hp:Fit p E D) (LU:E<=62) (hD:D<=1099511627774) (h:PlV w q p v):Calls Tryz.prog 113 #[v,.int .i64 l] w (zg (fun b=>w.heap.size<=b) (uo l p) w):=by
 have HP:=hid h;have o9:=hid hp;obtain ⟨A0,n0,c0,A,c,rfl,-⟩:=h.open_;obtain ⟨W,hW⟩:=n_m ((w.alloc (.cells #[.int .i64 p.lv,.bool p.neg,.slice A0 n0 c0,.slice A p.cs.length c] 33)).alloc (.cells #[.int .i64 0,.bool false,.slice none 0 0,.slice none 0 0] 33));have ag:Ext w W:=by rw [<- hW]; exact ((Ext.refl w).alloc _).alloc _
 have bY:W.heap.size=w.heap.size+1+1:=by rw [<- hW]; simp
 have hz:uf W (w.heap.size+1):=by
  have:=uf.new (w.alloc (.cells #[.int .i64 p.lv,.bool p.neg,.slice A0 n0 c0,.slice A p.cs.length c] 33)) 33;rw [hW] at this;simpa using this
 have bJ:jc W w.heap.size p (.slice A0 n0 c0) (.slice A p.cs.length c):=by rw [<- hW]; exact (jc.new w p _ _ _).ext ((Ext.refl _).alloc _) (by simp)
 obtain ⟨b0,b1,b2,b3⟩:=bJ;have eP:=hid (uai _ hl aj hp (by omega) (by omega) (HP.out.ext ag));have aB:=hid ag;have HZ:=hid hz;unfold plV at eP;unfold plV;obtain ⟨X,hX⟩:=n_m (uo l p);rw [hX];have o7:=hid hX;clear h hp ag hz hX;go_enter Tryz.func113,Tryz.ntmps113;go_wp2_with fail;refine (qam l _).mono ?_;rintro e w0 ⟨rfl,rfl⟩;rw [show (decide (1<=l) && decide (l<=4))=true by simp [hl,aj]];go_wp2_with fail;clear hW b0 b1 b2 b3;refine eP.out.mono ?_;rintro e w1 ⟨v1,rfl,⟨A1,k1,rfl,xA,hk2,hR⟩,x1⟩;have aX:=HZ.out.ext x1 (by omega);have bW:=x1.size
 by_cases au:p.cfL l=[]
 · have hlen:(p.cfL l).length=0:=by rw [au]; rfl
   have uA:uo l p=Pl.zero:=by
    unfold uo;rw [if_pos ⟨hl,aj⟩,au];exact Pl.val_uniq (jad _ _) Pl.zero_can fun ρ=>by rw [jac hl aj,Pl.zero_val]; rfl
   rw [hlen];have HF:=hid (zg.congr (o7.out.symm.trans uA) <| jg (q:=fun _=>False) (q':=fun b=>w.heap.size<=b) (aB.out.trans x1) (Nat.le_succ _) aX (Pl.zero_v w1 _ none 0 (by omega)) (fun b _ hb=>hb.elim));obtain ⟨⟨z0,z1,z2,z3⟩,zf⟩:=aX;clear au hlen uA x1 eP hR;go_wp2_with fail;exact bodyPost_ret (v:=plV Pl.zero (.slice none 0 0) (.slice none 0 0)) (by simp [results,Tryz.results113,go_sem,z0,z1,z2,z3,plV,Pl.zero,Pl.lv,Pl.neg,Pl.cs]) rfl HF.out
 · obtain ⟨R,rfl,tq,ae⟩:=hR au;obtain ⟨m,hm⟩:∃ m,(p.cfL l).length=m+1:=⟨(p.cfL l).length - 1,by have:=List.length_pos_iff.2 au; omega⟩;have Ud:=jaa (l:=l) o9.out.can o9.out.ex;have lI:=hid (Pl.cfL_fit (l:=l) o9.out);have MN:=hid (kac hl aj o9.out.can);have J7:Hid (uo l p=joinL l (uag 1 (p.cfL l).tail)):=hid (by unfold uo; rw [if_pos ⟨hl,aj⟩]);have HDF:=hid (wa1 (l:=l) o9.out (by have:B32=4294967296:=rfl; omega));generalize p.cfL l=raw at *;have VV:IntKind.i64.wrap (((m:Int)+1) - 1)=(m:Int):=by rw [IntKind.wrap_i64]; omega
   have hm0:(((m:Int)+1) == 0)=false:=by simp; omega
   have Le:(m:Int)<=(k1:Int):=by omega
   have X1:=hid (aB.out.trans x1);have eU:=hid aX;have pJ:w.heap.size+1 < w1.heap.size:=by omega
   have Gt:Hid (∃ L,DrL raw 0 L/\zi w1 (fun b=>w.heap.size+1 < b) R L):=hid ⟨raw,⟨rfl,fun j hj=>by rw [if_neg (by omega),List.getD_eq_getElem?_getD,List.getElem?_eq_getElem hj]; rfl⟩,ae.mono fun b hb=>by omega⟩;have HM:=hid hm;have hmb:m<=E:=by omega
   rw [hm];clear au hm ae hR eP x1 aX;go_wp2_with fail;have GN:Hid (Ext w w1/\∃ L,DrL raw 0 L/\zi w1 (fun b=>w.heap.size+1 < b) R L):=hid ⟨X1.out,Gt.out⟩;clear Gt
   go_loopw [6] (fun iv wr=>∃ j k:Nat,k+1=j/\k<=m/\iv=.int .i64 j/\Hid (uf wr (w.heap.size+1)/\Ext w wr)/\Hid (∃ L,DrL raw k L/\zi wr (fun b=>w.heap.size+1 < b) R L)) (fun iv _=>m+1 - (intOf iv).toNat)
   case atStart=>exact ⟨1,0,rfl,Nat.zero_le _,rfl,hid ⟨eU.out,X1.out⟩,hid GN.out.2⟩
   case round =>
    obtain ⟨j,k,jM,hk,rfl,HX,HJ⟩:=hrel
    by_cases af:j < m+1
    · obtain ⟨L,hL,ae⟩:=HJ.out;have rE:L.length=m+1:=hL.1.trans HM.out;have hjL:j < L.length:=by omega
      obtain ⟨D0,gX,gZ,D1,kN,gY,⟨r0,r1,r2,r3⟩,sF⟩:=ae.2.2 j hjL;obtain ⟨C0,uZ,vH,C1,uY,vG,⟨s0,s1,s2,s3⟩,-⟩:=ae.2.2 k (by omega);have lT:L[j]=raw.getD (k+1) Pl.zero:=by rw [hL.2 j hjL,if_neg (by omega),jM]
      have aI:Fit L[j] E D:=by
       rw [lT,List.getD_eq_getElem?_getD,List.getElem?_eq_getElem (by have:=HM.out; omega)];exact lI.out _ (List.getElem_mem _)
      obtain ⟨x,hx⟩:=n_m (L[j]);rw [hx] at r0 r1 sF aI lT;have Ll:k < L.length:=by omega
      have qQ:=ae.1;have bu:=ae.2.1;have sO:∀ W',Ext wr W'->(W'.cell? ⟨R,j * 4,none⟩=some (.int .i64 x.lv)/\W'.cell? ⟨R,j * 4+1,none⟩=some (.bool x.neg)/\W'.cell? ⟨R,j * 4+2,none⟩=some (.slice D0 gX gZ)/\W'.cell? ⟨R,j * 4+3,none⟩=some (.slice D1 kN gY)):=fun W' h=>⟨(h.cell (p:=⟨R,j * 4,none⟩) qQ).trans r0,(h.cell (p:=⟨R,j * 4+1,none⟩) qQ).trans r1,(h.cell (p:=⟨R,j * 4+2,none⟩) qQ).trans r2,(h.cell (p:=⟨R,j * 4+3,none⟩) qQ).trans r3⟩
      have Kt:=hid sO;have dP:Hid (∀ W',Ext wr W'->W'.cell? ⟨R,k * 4,none⟩=some (.int .i64 L[k].lv)/\W'.cell? ⟨R,k * 4+1,none⟩=some (.bool L[k].neg)/\W'.cell? ⟨R,k * 4+2,none⟩=some (.slice C0 uZ vH)/\W'.cell? ⟨R,k * 4+3,none⟩=some (.slice C1 uY vG)):=hid fun W' h=>⟨(h.cell (p:=⟨R,k * 4,none⟩) qQ).trans s0,(h.cell (p:=⟨R,k * 4+1,none⟩) qQ).trans s1,(h.cell (p:=⟨R,k * 4+2,none⟩) qQ).trans s2,(h.cell (p:=⟨R,k * 4+3,none⟩) qQ).trans s3⟩
      have rq:Hid (∀ W' D2 i2 j2 D3 i3 j3,Ext wr W'->PlV W' (fun b=>wr.heap.size<=b) (x.mul (Pl.const j)) (plV (x.mul (Pl.const j)) (.slice D2 i2 j2) (.slice D3 i3 j3))->∀ V7,V7=((((W'.setCell ⟨R,k * 4,none⟩ (.int .i64 (x.mul (Pl.const j)).lv)).setCell ⟨R,k * 4+1,none⟩ (.bool (x.mul (Pl.const j)).neg)).setCell ⟨R,k * 4+2,none⟩ (.slice D2 i2 j2)).setCell ⟨R,k * 4+3,none⟩ (.slice D3 i3 j3)) ->
       (w.heap.size+1 < V7.heap.size/\uf V7 (w.heap.size+1)/\Ext w V7/\∃ L,DrL raw (k+1) L/\zi V7 (fun b=>w.heap.size+1 < b) R L)/\(V7.cell? ⟨R,j * 4,none⟩=some (.int .i64 x.lv)/\V7.cell? ⟨R,j * 4+1,none⟩=some (.bool x.neg)/\V7.cell? ⟨R,j * 4+2,none⟩=some (.slice D0 gX gZ)/\V7.cell? ⟨R,j * 4+3,none⟩=some (.slice D1 kN gY))):=hid (by
       intro W' D2 i2 j2 D3 i3 j3 nZ hp V7 lU;obtain ⟨a0,a1,a2,a3⟩:=dP.out W' nZ;have jZ:=va1 a0 a1 a2 a3 rfl rfl rfl rfl (.int .i64 (x.mul (Pl.const j)).lv) (.bool (x.mul (Pl.const j)).neg) (.slice D2 i2 j2) (.slice D3 i3 j3);obtain ⟨aT,-⟩:=(ae.ext nZ).set_ k Ll (x.mul (Pl.const j)) (hp.mono fun b hb=>⟨by omega,by omega⟩);have zF:=nZ.size;have TJ:w.heap.size<=R:=by omega
       have YA:Ext w V7:=by rw [lU]; exact ((((HX.out.2.trans nZ).setCell TJ _).setCell TJ _).setCell TJ _).setCell TJ _
       have jL:=HX.out.1.ext nZ (by omega);simp only [<- lU] at jZ aT;obtain ⟨-,g2,g3,g4,g5,-⟩:=jZ;obtain ⟨e0,e1,e2,e3⟩:=sO W' nZ;refine ⟨⟨by omega,uf.same_ jL (g3 _ (by omega)) g4,YA,L.set k (x.mul (Pl.const j)),?_,aT⟩,(g2 _ (by omega)).trans e0,(g2 _ (by omega)).trans e1,(g2 _ (by omega)).trans e2,(g2 _ (by omega)).trans e3⟩;rw [lT,show (j:Int)=(k:Int)+1 by omega]
       exact hL.step (by have:=HM.out; omega))
      have f0:=bu (k * 4);have f1:=bu (k * 4+1);have f2:=bu (k * 4+2);have f3:=bu (k * 4+3);have MF:=hid qQ;have jP:=hid (sF.mono (q:=fun b=>w.heap.size+1 < b) fun b hb=>hb.1);have lg:=hid aI;have hjm:(j:Int) < (m:Int)+1:=by omega
      have E5:(k:Int) < (m:Int)+1:=by omega
      have hwj:IntKind.i64.wrap ((j:Int) - 1)=(k:Int):=by rw [IntKind.wrap_i64]; omega
      have aF:Ext wr wr.drew:=(Ext.refl wr).drew;have ay:=hid aF;generalize L[k]=y at *;clear ae hL lT aI sF sO bu qQ hx s0 s1 s2 s3 aF;go_upto_region 9 with fail;refine wp_region_held_drew (S:=fun W'=>(W'.cell? ⟨R,j * 4,none⟩=some (.int .i64 x.lv)/\W'.cell? ⟨R,j * 4+1,none⟩=some (.bool x.neg)/\W'.cell? ⟨R,j * 4+2,none⟩=some (.slice D0 gX gZ)/\W'.cell? ⟨R,j * 4+3,none⟩=some (.slice D1 kN gY))) (by kernel_rfl) (Kt.out _ ay.out) (fun hHeld=>?_);refine tk 0 ?_;refine tk 1 ?_;refine tk 2 ?_;refine tk 3 ?_;refine tk 4 ?_;refine tk 5 ?_;refine tk 6 ?_ (hy:=Or.inl ⟨by rfl,by intro w' aZ; obtain ⟨k1,k2,k3,k4⟩:=aZ; go_simp; (try (with_reducible rfl))⟩);refine tk 7 ?_;refine r_1 8 fun K hK=>?_
      go_simp
      go_at_call 11
      refine (of_int (j:Int) _ (by omega) (by omega)).mono ?_;rintro e w2 ⟨z1,rfl,⟨y1,rfl,m1⟩,x2⟩;obtain ⟨wH,k1',rfl,-⟩:=id m1;have z2:Ext wr w2:=ay.out.trans x2;refine k_t hK (Kt.out _ z2) fun hHeld=>?_
      clear hK K;refine r_1 9 fun K hK=>?_
      go_simp
      go_at_call 16
      refine (zar (L:=1) (E:=E) (D:=D) _ _ (jP.out.ext z2) (gak m1 (ve (by have:B32 ^ 1=4294967296:=rfl; omega))) (fun W' hx=>by rw [Pl.nf_of_can lg.out.can]; exact jo _ (jP.out.ext (z2.trans hx)) lg.out.can) (by rw [Pl.nf_of_can lg.out.can]; exact lg.out) (by omega) (by omega)).mono ?_;rw [Pl.nf_of_can lg.out.can];rintro e w3 ⟨v3,rfl,m3,x3⟩;obtain ⟨D2,i2,j2,D3,k3,rfl,-⟩:=id m3.open_;have z3:Ext wr w3:=z2.trans x3;refine k_t hK (Kt.out _ z3) fun hHeld=>?_
      clear hK K;refine tk 10 ?_;have Vs:=hid (rq.out _ _ _ _ _ _ _ z3 (m3.mono fun b hb=>Nat.le_trans z2.size hb));obtain ⟨s0,s1,s2,s3⟩:=dP.out _ z3;have f0:=(z3.frozen (p:=⟨R,k * 4,none⟩) MF.out).trans f0;have f1:=(z3.frozen (p:=⟨R,k * 4+1,none⟩) MF.out).trans f1;have f2:=(z3.frozen (p:=⟨R,k * 4+2,none⟩) MF.out).trans f2;have f3:=(z3.frozen (p:=⟨R,k * 4+3,none⟩) MF.out).trans f3;clear rq m1 m3 x2 x3;generalize x.mul (Pl.const (j:Int))=xx at *;refine r_1 11 fun K hK=>?_
      unfold plV;go_simp;refine (?g9:∀ V7,((w.heap.size+1 < V7.heap.size/\uf V7 (w.heap.size+1)/\Ext w V7/\∃ L,DrL raw (k+1) L/\zi V7 (fun b=>w.heap.size+1 < b) R L)/\(V7.cell? ⟨R,j * 4,none⟩=some (.int .i64 x.lv)/\V7.cell? ⟨R,j * 4+1,none⟩=some (.bool x.neg)/\V7.cell? ⟨R,j * 4+2,none⟩=some (.slice D0 gX gZ)/\V7.cell? ⟨R,j * 4+3,none⟩=some (.slice D1 kN gY)))->K _ V7) _ (Vs.out _ rfl);intro V7 lU;obtain ⟨⟨c1,c2,c3,c4⟩,c7⟩:=lU;refine k_t hK c7 fun hHeld=>?_
      clear hK K s0 s1 s2 s3 f0 f1 f2 f3 c7;refine w_d ?_;have Bg:Hid (uf V7 (w.heap.size+1)/\Ext w V7):=hid ⟨c2,c3⟩;have Vm:=hid c4;clear hHeld c1 c2 c3 c4;have Xm:k+1<=m:=by omega
      go_wp2_with fail
      go_roundw
      case rel=>exact ⟨j+1,k+1,by omega,Xm,by go_num,Bg,Vm⟩
      case measure=>simp only [intOf]; omega
    · have E5:k=m:=by omega
      obtain ⟨L,hL,ae⟩:=HJ.out;rw [E5] at hL;have UC:=hL.fin HM.out;have rE:L.length=m+1:=hL.1.trans HM.out;have qK:∀ c ∈ L.take m,Fit c E (D+1):=fun c hc=>by
       rw [UC] at hc;obtain ⟨d,hd,i,hi,rfl⟩:=vbd hc;rw [List.length_tail] at hi;have:=(lI.out d (vas hd)).mul (Fit.const (E:=0) (D:=1) (z:=1+(i:Int)) (by have:B32 ^ 1=4294967296:=rfl; omega));exact this.mono (by omega) (by omega)
      have EJ:(L.take m).length=m:=by rw [List.length_take]; omega
      have zC:=hid (kav (l:=l) (c:=k1) hl aj ((ae.take m).fin (by omega)) (by omega) hk2 (za7 qK (by rw [List.length_take]; omega) LU) (by have:=ka0 qK; omega) (by
       rw [UC,<- J7.out]
       exact HDF.out.copy_ (by omega)))
      rw [EJ] at zC;rw [UC,<- J7.out,o7.out] at zC;have hjm:¬ (j:Int) < (m:Int)+1:=by omega
      have X2:=hid HX.out.2;have mV:=hid HX.out.1;have zO:w.heap.size+1 < wr.heap.size:=by have:=ae.1; omega
      clear hL ae UC rE qK EJ HJ HX GN HDF J7 HM;go_wp2_with fail;refine zC.out.mono ?_;rintro e w2 ⟨v2,rfl,m2,x2⟩;obtain ⟨D0,gX,gZ,D1,gY,rfl,-⟩:=id m2.open_;have aX:=mV.out.ext x2 zO;have HF:=hid (jg (q':=fun b=>w.heap.size<=b) (X2.out.trans x2) (Nat.le_succ _) aX m2 (fun b _ hb=>⟨by omega,by omega⟩));obtain ⟨⟨z0,z1,z2,z3⟩,zf⟩:=aX;clear m2 x2 zC;unfold plV;go_wp2_with fail;exact bodyPost_ret (v:=plV X (.slice D0 gX gZ) (.slice D1 X.cs.length gY)) (by simp [results,Tryz.results113,go_sem,z0,z1,z2,z3,plV]) rfl HF.out
structure Frr (w : World) (R : Nat) (wr : World) : Prop where
 size:w.heap.size<=wr.heap.size
 nat:∀ v ds,jb w v ds->jb wr v ds
 block:∀ b,b < w.heap.size->b ≠ R->wr.heap[b]?=w.heap[b]?
theorem Frr.refl (w:World) (R:Nat):Frr w R w:=⟨Nat.le_refl _,fun _ _ h=>h,fun _ _ _=>rfl⟩
theorem Frr.ext {w wr W:World} {R:Nat} (h:Frr w R wr) (hx:Ext wr W):Frr w R W:=⟨Nat.le_trans h.size hx.size,fun _ _ k=>(h.nat _ _ k).ext hx,fun b hb hR=>(hx.below.block b (Nat.lt_of_lt_of_le hb h.size)).trans (h.block b hb hR)⟩
theorem Frr.trans {w wr W:World} {R:Nat} (h:Frr w R wr) (k:Frr wr R W):Frr w R W:=⟨Nat.le_trans h.size k.size,fun _ _ x=>k.nat _ _ (h.nat _ _ x),fun b hb hR=>(k.block b (Nat.lt_of_lt_of_le hb h.size) hR).trans (h.block b hb hR)⟩
theorem Frr.over {w wr W:World} {R Q:Nat} (h:Frr w R wr) (k:Frr wr Q W) (hQ:w.heap.size<=Q):Frr w R W:=⟨Nat.le_trans h.size k.size,fun _ _ x=>k.nat _ _ (h.nat _ _ x),fun b hb hR=>(k.block b (Nat.lt_of_lt_of_le hb h.size) (by omega)).trans (h.block b hb hR)⟩
theorem Frr.cell {w wr:World} {R:Nat} (h:Frr w R wr) {b j:Nat} (hb:b < w.heap.size) (hR:b ≠ R):wr.cell? ⟨b,j,none⟩=w.cell? ⟨b,j,none⟩:=World.cell?_of_block (a:=⟨b,j,none⟩) (h.block b hb hR)
theorem Frr.pl {w wr:World} {R:Nat} {q:Nat->Prop} {p:Pl} {v:Value} (h:Frr w R wr) (hp:PlV w q p v) (hq:∀ b,q b->b ≠ R):PlV wr q p v:=PlV.turn_ h.size h.nat (fun b hb dX=>⟨dX,h.block b hb (hq b dX)⟩) hp
theorem Frr.row {w wr:World} {R S:Nat} {q:Nat->Prop} {L:List Pl} (h:Frr w R wr) (hr:zi w q S L) (hS:S ≠ R) (hq:∀ b,q b->b ≠ R):zi wr q S L:=hr.turn h.size h.nat (h.block _ hr.1 hS) fun b hb dX _=>⟨dX,h.block b hb (hq b dX)⟩
theorem Frr.put {w0 ws V V7 : World} {R j : Nat} {q : Nat -> Prop} {L : List Pl} {x : Pl} {A0 A1 : Option Addr} {n0 c0 n1 c1 : Nat} (hx : Ext w0 V) (hf : Frr ws R V) (ae : zi V q R L) (hw : w0.heap.size <= R) (hj : j < L.length) (hp : PlV V (fun b => q b /\ b ≠ R) x (plV x (.slice A0 n0 c0) (.slice A1 n1 c1)))
 (hV:V7=(((V.setCell ⟨R,j * 4,none⟩ (.int .i64 x.lv)).setCell ⟨R,j * 4+1,none⟩ (.bool x.neg)).setCell ⟨R,j * 4+2,none⟩ (.slice A0 n0 c0)).setCell ⟨R,j * 4+3,none⟩ (.slice A1 n1 c1)) :
 Ext w0 V7/\Frr V R V7/\Frr ws R V7/\zi V7 q R (L.set j x):=by
 obtain ⟨h1,h2⟩:=ae.set_ j hj x hp;rw [<- hV] at h1 h2;have h3:Frr V R V7:=⟨by rw [hV]; simp [World.setCell],h2,fun b _ hb=>by rw [hV,Below.heap_setCell _ _ _ b hb,Below.heap_setCell _ _ _ b hb,Below.heap_setCell _ _ _ b hb,Below.heap_setCell _ _ _ b hb]⟩;exact ⟨by rw [hV]; exact (((hx.setCell hw _).setCell hw _).setCell hw _).setCell hw _,h3,hf.trans h3,h1⟩
def ElC (W:World) (R j:Nat) (x:Pl) (A0:Option Addr) (n0 c0:Nat) (A1:Option Addr) (n1 c1:Nat):Prop:=W.cell? ⟨R,j * 4,none⟩=some (.int .i64 x.lv)/\W.cell? ⟨R,j * 4+1,none⟩=some (.bool x.neg)/\W.cell? ⟨R,j * 4+2,none⟩=some (.slice A0 n0 c0)/\W.cell? ⟨R,j * 4+3,none⟩=some (.slice A1 n1 c1)
theorem ElC.ext {W W':World} {R j:Nat} {x:Pl} {A0 A1:Option Addr} {n0 c0 n1 c1:Nat} (h:ElC W R j x A0 n0 c0 A1 n1 c1) (hR:R < W.heap.size) (hx:Ext W W'):ElC W' R j x A0 n0 c0 A1 n1 c1:=⟨(hx.cell (p:=⟨R,_,none⟩) hR).trans h.1,(hx.cell (p:=⟨R,_,none⟩) hR).trans h.2.1,(hx.cell (p:=⟨R,_,none⟩) hR).trans h.2.2.1,(hx.cell (p:=⟨R,_,none⟩) hR).trans h.2.2.2⟩
theorem ElC.far {W W':World} {R S j:Nat} {x:Pl} {A0 A1:Option Addr} {n0 c0 n1 c1:Nat} (h:ElC W R j x A0 n0 c0 A1 n1 c1) (hR:R < W.heap.size) (hf:Frr W S W') (hS:R ≠ S):ElC W' R j x A0 n0 c0 A1 n1 c1:=⟨(hf.cell hR hS).trans h.1,(hf.cell hR hS).trans h.2.1,(hf.cell hR hS).trans h.2.2.1,(hf.cell hR hS).trans h.2.2.2⟩
theorem zi.el {W:World} {q:Nat->Prop} {R:Nat} {L:List Pl} (h:zi W q R L) (j:Nat) (hj:j < L.length):∃ A0 n0 c0 A1 n1 c1,ElC W R j L[j] A0 n0 c0 A1 n1 c1/\PlV W (fun b=>q b/\b ≠ R) L[j] (plV L[j] (.slice A0 n0 c0) (.slice A1 n1 c1)):=h.2.2 j hj
def xaj (W:World) (Q m:Nat):Prop:=Q < W.heap.size/\(∀ j,W.frozen? ⟨Q,j,none⟩=false)/\∀ j,j < m * 4->∃ u,W.cell? ⟨Q,j,none⟩=some u/\qo u=false
theorem xaj.ext {W W':World} {Q m:Nat} (h:xaj W Q m) (hx:Ext W W'):xaj W' Q m:=⟨Nat.lt_of_lt_of_le h.1 hx.size,fun j=>(hx.frozen (p:=⟨Q,j,none⟩) h.1).trans (h.2.1 j),fun j hj=>by
 obtain ⟨u,h1,h2⟩:=h.2.2 j hj
 exact ⟨u,(hx.cell (p:=⟨Q,j,none⟩) h.1).trans h1,h2⟩⟩
theorem xaj.far {W W':World} {Q R m:Nat} (h:xaj W Q m) (hx:Frr W R W') (hQ:Q ≠ R):xaj W' Q m:=⟨Nat.lt_of_lt_of_le h.1 hx.size,fun j=>(World.frozen?_of_block (a:=⟨Q,j,none⟩) (hx.block Q h.1 hQ)).trans (h.2.1 j),fun j hj=>by
 obtain ⟨u,h1,h2⟩:=h.2.2 j hj
 exact ⟨u,(hx.cell h.1 hQ).trans h1,h2⟩⟩
theorem xaj.of {W:World} {q:Nat->Prop} {Q:Nat} {L:List Pl} (h:zi W q Q L):xaj W Q L.length:=by
 refine ⟨h.1,h.2.1,fun j hj=>?_⟩;obtain ⟨A0,n0,c0,A1,n1,c1,⟨e0,e1,e2,e3⟩,-⟩:=h.el (j / 4) (by omega);have hd:=Nat.div_add_mod j 4;have hm:=Nat.mod_lt j (show 0 < 4 by omega);rcases (show j=j / 4 * 4\/j=j / 4 * 4+1\/j=j / 4 * 4+2\/j=j / 4 * 4+3 by omega) with e | e | e | e
 · rw [e]; exact ⟨_,e0,rfl⟩
 · rw [e]; exact ⟨_,e1,rfl⟩
 · rw [e]; exact ⟨_,e2,rfl⟩
 · rw [e]; exact ⟨_,e3,rfl⟩
theorem xaj.put {W V7 : World} {Q m k : Nat} (h : xaj W Q m) (hk : k < m) (lv : Int) (ng : Bool) (A0 A1 : Option Addr) (n0 c0 n1 c1 : Nat)
 (hV:V7=(((W.setCell ⟨Q,k * 4,none⟩ (.int .i64 lv)).setCell ⟨Q,k * 4+1,none⟩ (.bool ng)).setCell ⟨Q,k * 4+2,none⟩ (.slice A0 n0 c0)).setCell ⟨Q,k * 4+3,none⟩ (.slice A1 n1 c1)) :
 (∃ u0 u1 u2 u3,W.cell? ⟨Q,k * 4,none⟩=some u0/\W.cell? ⟨Q,k * 4+1,none⟩=some u1/\W.cell? ⟨Q,k * 4+2,none⟩=some u2/\W.cell? ⟨Q,k * 4+3,none⟩=some u3)/\xaj V7 Q m/\Frr W Q V7:=by
 obtain ⟨h1,h2,h3⟩:=h;obtain ⟨u0,c0',d0⟩:=h3 (k * 4) (by omega);obtain ⟨u1,c1',d1⟩:=h3 (k * 4+1) (by omega);obtain ⟨u2,c2',d2⟩:=h3 (k * 4+2) (by omega);obtain ⟨u3,c3',d3⟩:=h3 (k * 4+3) (by omega);have jZ:=va1 c0' c1' c2' c3' d0 d1 d2 d3 (.int .i64 lv) (.bool ng) (.slice A0 n0 c0) (.slice A1 n1 c1);simp only [<- hV] at jZ;obtain ⟨⟨f0,f1,f2,f3⟩,g2,g3,g4,g5,g6⟩:=jZ;refine ⟨⟨_,_,_,_,c0',c1',c2',c3'⟩,⟨by omega,fun j=>(g4 _).trans (h2 j),fun j hj=>?_⟩,by omega,g6,fun b _ hb=>g3 b hb⟩
 by_cases jM:j < k * 4\/k * 4+3 < j
 · rw [g2 j jM]; exact h3 j hj
 · rcases (show j=k * 4\/j=k * 4+1\/j=k * 4+2\/j=k * 4+3 by omega) with rfl | rfl | rfl | rfl
   · exact ⟨_,f0,rfl⟩
   · exact ⟨_,f1,rfl⟩
   · exact ⟨_,f2,rfl⟩
   · exact ⟨_,f3,rfl⟩
theorem vah {E D:Nat} {L:List Pl} (h:∀ c ∈ L,Fit c E D) (j:Nat):Fit (L.getD j Pl.zero) E D:=xaf Fit.zero h j
theorem xb1 {E D F G:Nat} {g rest:List Pl} (hg:∀ c ∈ g,Fit c F G) (hr:∀ c ∈ rest,Fit c E D) (k:Nat):∀ c ∈ kaa g k rest,Fit c (E+F) (D+G+2):=by
 intro c hc;obtain ⟨j,-,rfl⟩:=List.mem_map.1 hc;have h1:=(vah hr j).mul (vah hg (g.length - 1))
 split
 · exact (h1.sub ((vah hr (g.length - 1+k)).mul (vah hg (j - k)))).mono (by omega) (by omega)
 · exact h1.mono (by omega) (by omega)
def RdL (G:List Pl) (k:Nat) (L:List Pl) (n j:Nat) (L':List Pl):Prop:=L'.length=n+k/\∀ i (h:i < L'.length),L'[i]=if i < j then (kaa G k L).getD i Pl.zero else L.getD i Pl.zero
theorem RdL.start {G L:List Pl} {k n:Nat} (h:n+k<=L.length):RdL G k L n 0 (L.take (n+k)):=⟨by rw [List.length_take]; omega,fun i hi=>by
 rw [List.length_take] at hi
 rw [if_neg (by omega),List.getElem_take,List.getD_eq_getElem?_getD,List.getElem?_eq_getElem (by omega)]; rfl⟩
theorem RdL.fin {G L L':List Pl} {k n:Nat} (h:RdL G k L n (n+k) L') (hG:G.length=n+1):L'=kaa G k L:=by
 refine List.ext_getElem (by rw [h.1,kaw]; omega) fun i h1 h2=>?_
 rw [h.2 i h1,if_pos (by rw [<- h.1]; exact h1),List.getD_eq_getElem?_getD,List.getElem?_eq_getElem h2]; rfl
theorem RdL.step {G L L':List Pl} {k n j:Nat} (h:RdL G k L n j L') (hj:j < n+k) {x:Pl} (hx:x=(kaa G k L).getD j Pl.zero):RdL G k L n (j+1) (L'.set j x):=by
 refine ⟨by rw [List.length_set]; exact h.1,fun i hi=>?_⟩;rw [List.length_set] at hi
 by_cases oL:i=j
 · subst oL;rw [List.getElem_set_self,if_pos (Nat.lt_succ_self _)]; exact hx
 · rw [List.getElem_set_ne (Ne.symm oL),h.2 i hi]
   by_cases h2:i < j
   · rw [if_pos h2,if_pos (by omega)]
   · rw [if_neg h2,if_neg (by omega)]
theorem va8 {G L:List Pl} {k n j:Nat} (hG:G.length=n+1) (hj:j < n+k):(kaa G k L).getD j Pl.zero=if k<=j then ((L.getD j Pl.zero).mul (G.getD n Pl.zero)).sub ((L.getD (n+k) Pl.zero).mul (G.getD (j - k) Pl.zero)) else (L.getD j Pl.zero).mul (G.getD n Pl.zero):=by
 have hl:=kaw G k L;rw [List.getD_eq_getElem?_getD,List.getElem?_eq_getElem (by omega)];unfold kaa;simp only [hG,Nat.add_sub_cancel,Option.getD_some,List.getElem_map,List.getElem_range]
end Go.Proofs.YtcepajijiabkmaaGreat
