/- Layer 23: mainvar.Derivative. -/
import Derived.Test.YtklnlgnnlmdibaaGreatMr31
import Derived.Test.YtklnlgnnlmdibaaGreatMvCfs
import Derived.Test.YtklnlgnnlmdibaaGreatMr30
set_option linter.unusedSimpArgs false
set_option linter.unusedVariables false
set_option maxRecDepth 100000
set_option maxHeartbeats 8000000
namespace Go.Proofs.YtklnlgnnlmdibaaGreat
open Go.RowKit
def DrL (raw:List Pl) (k:Nat) (L:List Pl):Prop:=L.length=raw.length/\∀ j (h:j < L.length),L[j]=if j < k then (raw.getD (j+1) Pl.zero).mul (Pl.const ((j:Int)+1)) else raw.getD j Pl.zero
theorem DrL.step {raw L:List Pl} {k:Nat} (h:DrL raw k L) (hk:k+1 < raw.length):DrL raw (k+1) (L.set k ((raw.getD (k+1) Pl.zero).mul (Pl.const ((k:Int)+1)))):=by
 refine ⟨by rw [List.length_set]; exact h.1,fun j hj=>?_⟩;rw [List.length_set] at hj
 by_cases hjk:j=k
 · subst hjk;rw [List.getElem_set_self,if_pos (Nat.lt_succ_self _)]
 · rw [List.getElem_set_ne (Ne.symm hjk),h.2 j hj]
   by_cases h2:j < k
   · rw [if_pos h2,if_pos (by omega)]
   · rw [if_neg h2,if_neg (by omega)]
theorem yf.same_ {W W':World} {g:Nat} (h:yf W g) (hb:W'.heap[g]?=W.heap[g]?) (hf:∀ a,W'.frozen? a=W.frozen? a):yf W' g:=by
 obtain ⟨⟨h0,h1,h2,h3⟩,h4⟩:=h;have k:∀ i,W'.cell? ⟨g,i,none⟩=W.cell? ⟨g,i,none⟩:=fun i=>World.cell?_of_block (a:=⟨g,i,none⟩) hb
 exact ⟨⟨(k 0).trans h0,(k 1).trans h1,(k 2).trans h2,(k 3).trans h3⟩,fun i=>(hf _).trans (h4 i)⟩
theorem DrL.fin {raw L:List Pl} {m:Nat} (h:DrL raw m L) (hm:raw.length=m+1):L.take m=yak 1 raw.tail:=by
 refine List.ext_getElem (by rw [List.length_take,zak,List.length_tail,h.1]; omega) fun j h1 h2=>?_
 rw [List.length_take,h.1] at h1;rw [zak,List.length_tail] at h2;rw [List.getElem_take,h.2 j (by rw [h.1]; omega),if_pos (by omega),qa4 1 raw.tail j (by rw [List.length_tail]; omega),List.getElem_tail,List.getD_eq_getElem?_getD,List.getElem?_eq_getElem (by omega),Int.add_comm]
 rfl
theorem gca {w:World} {q:Nat->Prop} {p:Pl} {l:Int} {E D:Nat} (v:Value) (hl:1<=l) (hl4:l<=4) (hp:Fit p E D) (hE0:E<=62) (hD:D<=1099511627774) (h:PlV w q p v):Calls Tryz.prog 40 #[v,.int .i64 l] w (jf (fun b=>w.heap.size<=b) (jab l p) w):=by
 have HP:=Lib.hid h;have HFT:=Lib.hid hp;obtain ⟨A0,n0,c0,A,c,rfl,-⟩:=h.open_;obtain ⟨W,hW⟩:∃ W,(w.alloc (.cells #[.int .i64 p.lv,.bool p.neg,.slice A0 n0 c0,.slice A p.cs.length c] 35)).alloc (.cells #[.int .i64 0,.bool false,.slice none 0 0,.slice none 0 0] 35)=W:=⟨_,rfl⟩;have hWx:Ext w W:=by rw [<- hW]; exact ((Ext.refl w).alloc _).alloc _
 have hWs:W.heap.size=w.heap.size+1+1:=by rw [<- hW]; simp
 have hz:yf W (w.heap.size+1):=by
  have:=yf.new (w.alloc (.cells #[.int .i64 p.lv,.bool p.neg,.slice A0 n0 c0,.slice A p.cs.length c] 35)) 35;rw [hW] at this;simpa using this
 have hbx:jb W w.heap.size p (.slice A0 n0 c0) (.slice A p.cs.length c):=by rw [<- hW]; exact (jb.new w p _ _ _).ext ((Ext.refl _).alloc _) (by simp)
 obtain ⟨b0,b1,b2,b3⟩:=hbx;have HCO:=Lib.hid (vaf _ hl hl4 hp (by omega) (by omega) (HP.out.ext hWx));have HWX:=Lib.hid hWx;have HZ:=Lib.hid hz;unfold plV at HCO;unfold plV;obtain ⟨X,hX⟩:∃ X,jab l p=X:=⟨_,rfl⟩;rw [hX];have HXX:=Lib.hid hX;clear h hp hWx hz hX;go_enter Tryz.func40,Tryz.ntmps40;go_wp2_with fail;refine (uai l _).mono ?_;rintro e w0 ⟨rfl,rfl⟩;rw [show (decide (1<=l) && decide (l<=4))=true by simp [hl,hl4]];go_wp2_with fail;clear hW b0 b1 b2 b3;refine HCO.out.mono ?_;rintro e w1 ⟨v1,rfl,⟨A1,k1,rfl,hk1,hk2,hR⟩,x1⟩;have hzn:=HZ.out.ext x1 (by omega);have hs1:=x1.size
 by_cases hne:p.cfL l=[]
 · have hlen:(p.cfL l).length=0:=by rw [hne]; rfl
   have hzr:jab l p=Pl.zero:=by
    unfold jab;rw [if_pos ⟨hl,hl4⟩,hne];exact Pl.val_uniq (kal _ _) Pl.zero_can fun ρ=>by rw [gag hl hl4,Pl.zero_val]; rfl
   rw [hlen];have HF:=Lib.hid (jf.congr (HXX.out.symm.trans hzr) <| yg (q:=fun _=>False) (q':=fun b=>w.heap.size<=b) (HWX.out.trans x1) (Nat.le_succ _) hzn (Pl.zero_v w1 _ none 0 (by omega)) (fun b _ hb=>hb.elim));obtain ⟨⟨z0,z1,z2,z3⟩,zf⟩:=hzn;clear hne hlen hzr x1 HCO hR;go_wp2_with fail;exact bodyPost_ret (v:=plV Pl.zero (.slice none 0 0) (.slice none 0 0)) (by simp [results,Tryz.results40,go_sem,z0,z1,z2,z3,plV,Pl.zero,Pl.lv,Pl.neg,Pl.cs]) rfl HF.out
 · obtain ⟨R,rfl,hRw,hrow⟩:=hR hne;obtain ⟨m,hm⟩:∃ m,(p.cfL l).length=m+1:=⟨(p.cfL l).length - 1,by have:=List.length_pos_iff.2 hne; omega⟩;have hmE:=qy (l:=l) HFT.out.can HFT.out.ex;have HCF:=Lib.hid (Pl.cfL_fit (l:=l) HFT.out);have HIN:=Lib.hid (qah hl hl4 HFT.out.can);have HDV:Hid (jab l p=joinL l (yak 1 (p.cfL l).tail)):=Lib.hid (by unfold jab; rw [if_pos ⟨hl,hl4⟩]);have HDF:=Lib.hid (vbk (l:=l) HFT.out (by have:B32=4294967296:=rfl; omega));generalize p.cfL l=raw at *;have hwm:IntKind.i64.wrap (((m:Int)+1) - 1)=(m:Int):=by rw [IntKind.wrap_i64]; omega
   have hm0:(((m:Int)+1) == 0)=false:=by simp; omega
   have hmc:(m:Int)<=(k1:Int):=by omega
   have X1:=Lib.hid (HWX.out.trans x1);have HZ1:=Lib.hid hzn;have hs1':w.heap.size+1 < w1.heap.size:=by omega
   have HR0:Hid (∃ L,DrL raw 0 L/\jh w1 (fun b=>w.heap.size+1 < b) R L):=Lib.hid ⟨raw,⟨rfl,fun j hj=>by rw [if_neg (by omega),List.getD_eq_getElem?_getD,List.getElem?_eq_getElem hj]; rfl⟩,hrow.mono fun b hb=>by omega⟩;have HM:=Lib.hid hm;have hmb:m<=E:=by omega
   rw [hm];clear hne hm hrow hR HCO x1 hzn;go_wp2_with fail;have HL0:Hid (Ext w w1/\∃ L,DrL raw 0 L/\jh w1 (fun b=>w.heap.size+1 < b) R L):=Lib.hid ⟨X1.out,HR0.out⟩;clear HR0
   go_loopw [6] (fun iv wr=>∃ j k:Nat,k+1=j/\k<=m/\iv=.int .i64 j/\Hid (yf wr (w.heap.size+1)/\Ext w wr)/\Hid (∃ L,DrL raw k L/\jh wr (fun b=>w.heap.size+1 < b) R L)) (fun iv _=>m+1 - (intOf iv).toNat)
   case atStart=>exact ⟨1,0,rfl,Nat.zero_le _,rfl,Lib.hid ⟨HZ1.out,X1.out⟩,Lib.hid HL0.out.2⟩
   case round =>
    obtain ⟨j,k,hjk,hk,rfl,HX,HJ⟩:=hrel
    by_cases hlt:j < m+1
    · obtain ⟨L,hL,hrow⟩:=HJ.out;have hLl:L.length=m+1:=hL.1.trans HM.out;have hjL:j < L.length:=by omega
      obtain ⟨D0,dn0,dc0,D1,dn1,dc1,⟨r0,r1,r2,r3⟩,hpv⟩:=hrow.2.2 j hjL;obtain ⟨C0,cn0,cc0,C1,cn1,cc1,⟨s0,s1,s2,s3⟩,-⟩:=hrow.2.2 k (by omega);have hel:L[j]=raw.getD (k+1) Pl.zero:=by rw [hL.2 j hjL,if_neg (by omega),hjk]
      have hfit:Fit L[j] E D:=by
       rw [hel,List.getD_eq_getElem?_getD,List.getElem?_eq_getElem (by have:=HM.out; omega)];exact HCF.out _ (List.getElem_mem _)
      obtain ⟨x,hx⟩:∃ x,L[j]=x:=⟨_,rfl⟩;rw [hx] at r0 r1 hpv hfit hel;have hkL:k < L.length:=by omega
      have hR0:=hrow.1;have hfr:=hrow.2.1;have hcells:∀ W',Ext wr W'->(W'.cell? ⟨R,j * 4,none⟩=some (.int .i64 x.lv)/\W'.cell? ⟨R,j * 4+1,none⟩=some (.bool x.neg)/\W'.cell? ⟨R,j * 4+2,none⟩=some (.slice D0 dn0 dc0)/\W'.cell? ⟨R,j * 4+3,none⟩=some (.slice D1 dn1 dc1)):=fun W' h=>⟨(h.cell (p:=⟨R,j * 4,none⟩) hR0).trans r0,(h.cell (p:=⟨R,j * 4+1,none⟩) hR0).trans r1,(h.cell (p:=⟨R,j * 4+2,none⟩) hR0).trans r2,(h.cell (p:=⟨R,j * 4+3,none⟩) hR0).trans r3⟩
      have HCE:=Lib.hid hcells;have HST:Hid (∀ W',Ext wr W'->W'.cell? ⟨R,k * 4,none⟩=some (.int .i64 L[k].lv)/\W'.cell? ⟨R,k * 4+1,none⟩=some (.bool L[k].neg)/\W'.cell? ⟨R,k * 4+2,none⟩=some (.slice C0 cn0 cc0)/\W'.cell? ⟨R,k * 4+3,none⟩=some (.slice C1 cn1 cc1)):=Lib.hid fun W' h=>⟨(h.cell (p:=⟨R,k * 4,none⟩) hR0).trans s0,(h.cell (p:=⟨R,k * 4+1,none⟩) hR0).trans s1,(h.cell (p:=⟨R,k * 4+2,none⟩) hR0).trans s2,(h.cell (p:=⟨R,k * 4+3,none⟩) hR0).trans s3⟩
      have HFULL:Hid (∀ W' D2 i2 j2 D3 i3 j3,Ext wr W'->PlV W' (fun b=>wr.heap.size<=b) (x.mul (Pl.const j)) (plV (x.mul (Pl.const j)) (.slice D2 i2 j2) (.slice D3 i3 j3))->∀ V7,V7=((((W'.setCell ⟨R,k * 4,none⟩ (.int .i64 (x.mul (Pl.const j)).lv)).setCell ⟨R,k * 4+1,none⟩ (.bool (x.mul (Pl.const j)).neg)).setCell ⟨R,k * 4+2,none⟩ (.slice D2 i2 j2)).setCell ⟨R,k * 4+3,none⟩ (.slice D3 i3 j3)) ->
       (w.heap.size+1 < V7.heap.size/\yf V7 (w.heap.size+1)/\Ext w V7/\∃ L,DrL raw (k+1) L/\jh V7 (fun b=>w.heap.size+1 < b) R L)/\(V7.cell? ⟨R,j * 4,none⟩=some (.int .i64 x.lv)/\V7.cell? ⟨R,j * 4+1,none⟩=some (.bool x.neg)/\V7.cell? ⟨R,j * 4+2,none⟩=some (.slice D0 dn0 dc0)/\V7.cell? ⟨R,j * 4+3,none⟩=some (.slice D1 dn1 dc1))):=Lib.hid (by
       intro W' D2 i2 j2 D3 i3 j3 hxW hp V7 hV7;obtain ⟨a0,a1,a2,a3⟩:=HST.out W' hxW;have hfour:=uau a0 a1 a2 a3 rfl rfl rfl rfl (.int .i64 (x.mul (Pl.const j)).lv) (.bool (x.mul (Pl.const j)).neg) (.slice D2 i2 j2) (.slice D3 i3 j3);obtain ⟨hset,-⟩:=(hrow.ext hxW).set_ k hkL (x.mul (Pl.const j)) (hp.mono fun b hb=>⟨by omega,by omega⟩);have hxs:=hxW.size;have hwR:w.heap.size<=R:=by omega
       have hV7x:Ext w V7:=by rw [hV7]; exact ((((HX.out.2.trans hxW).setCell hwR _).setCell hwR _).setCell hwR _).setCell hwR _
       have hz':=HX.out.1.ext hxW (by omega);simp only [<- hV7] at hfour hset;obtain ⟨-,g2,g3,g4,g5,-⟩:=hfour;obtain ⟨e0,e1,e2,e3⟩:=hcells W' hxW;refine ⟨⟨by omega,yf.same_ hz' (g3 _ (by omega)) g4,hV7x,L.set k (x.mul (Pl.const j)),?_,hset⟩,(g2 _ (by omega)).trans e0,(g2 _ (by omega)).trans e1,(g2 _ (by omega)).trans e2,(g2 _ (by omega)).trans e3⟩;rw [hel,show (j:Int)=(k:Int)+1 by omega]
       exact hL.step (by have:=HM.out; omega))
      have f0:=hfr (k * 4);have f1:=hfr (k * 4+1);have f2:=hfr (k * 4+2);have f3:=hfr (k * 4+3);have HR1:=Lib.hid hR0;have HPV:=Lib.hid (hpv.mono (q:=fun b=>w.heap.size+1 < b) fun b hb=>hb.1);have HFI:=Lib.hid hfit;have hjm:(j:Int) < (m:Int)+1:=by omega
      have hkm:(k:Int) < (m:Int)+1:=by omega
      have hwj:IntKind.i64.wrap ((j:Int) - 1)=(k:Int):=by rw [IntKind.wrap_i64]; omega
      have hx0:Ext wr wr.drew:=(Ext.refl wr).drew;have HX0:=Lib.hid hx0;generalize L[k]=y at *;clear hrow hL hel hfit hpv hcells hfr hR0 hx s0 s1 s2 s3 hx0;go_upto_region 9 with fail;refine wp_region_held_drew (S:=fun W'=>(W'.cell? ⟨R,j * 4,none⟩=some (.int .i64 x.lv)/\W'.cell? ⟨R,j * 4+1,none⟩=some (.bool x.neg)/\W'.cell? ⟨R,j * 4+2,none⟩=some (.slice D0 dn0 dc0)/\W'.cell? ⟨R,j * 4+3,none⟩=some (.slice D1 dn1 dc1))) (by kernel_rfl) (HCE.out _ HX0.out) (fun hHeld=>?_);refine tk 0 ?_;refine tk 1 ?_;refine tk 2 ?_;refine tk 3 ?_;refine tk 4 ?_;refine tk 5 ?_;refine tk 6 ?_ (hy:=Or.inl ⟨by rfl,by intro w' hSw; obtain ⟨k1,k2,k3,k4⟩:=hSw; go_simp; (try (with_reducible rfl))⟩);refine tk 7 ?_;refine wpAnyH_ready (rs:=[8]) (by kernel_rfl) (by simp) ?_;refine AllReadyH.cons rfl (fun K hK=>?_) AllReadyH.nil;go_simp
      go_at_call 27
      refine (of_int (j:Int) _ (by omega) (by omega)).mono ?_;rintro e w2 ⟨z1,rfl,⟨y1,rfl,m1⟩,x2⟩;obtain ⟨C1',k1',rfl,-⟩:=id m1;have z2:Ext wr w2:=HX0.out.trans x2;refine hK.out _ _ (HCE.out _ z2) (fun hHeld=>?_);clear hK K
      try simp only [Act.put,List.getElem_toArray,List.getElem_cons_zero,List.getElem_cons_succ,List.setIfInBounds_toArray,List.set_cons_zero,List.set_cons_succ]
      refine wpAnyH_ready (rs:=[9]) (by kernel_rfl) (by simp) ?_;refine AllReadyH.cons rfl (fun K hK=>?_) AllReadyH.nil;go_simp
      go_at_call 30
      refine (va5 (L:=1) (E:=E) (D:=D) _ _ (HPV.out.ext z2) (uar m1 (qf (by have:B32 ^ 1=4294967296:=rfl; omega))) (fun W' hx=>by rw [Pl.nf_of_can HFI.out.can]; exact qp _ (HPV.out.ext (z2.trans hx)) HFI.out.can) (by rw [Pl.nf_of_can HFI.out.can]; exact HFI.out) (by omega) (by omega)).mono ?_;rw [Pl.nf_of_can HFI.out.can];rintro e w3 ⟨v3,rfl,m3,x3⟩;obtain ⟨D2,i2,j2,D3,k3,rfl,-⟩:=id m3.open_;have z3:Ext wr w3:=z2.trans x3;refine hK.out _ _ (HCE.out _ z3) (fun hHeld=>?_);clear hK K
      try simp only [Act.put,List.getElem_toArray,List.getElem_cons_zero,List.getElem_cons_succ,List.setIfInBounds_toArray,List.set_cons_zero,List.set_cons_succ]
      refine tk 10 ?_;have HF3:=Lib.hid (HFULL.out _ _ _ _ _ _ _ z3 (m3.mono fun b hb=>Nat.le_trans z2.size hb));obtain ⟨s0,s1,s2,s3⟩:=HST.out _ z3;have f0:=(z3.frozen (p:=⟨R,k * 4,none⟩) HR1.out).trans f0;have f1:=(z3.frozen (p:=⟨R,k * 4+1,none⟩) HR1.out).trans f1;have f2:=(z3.frozen (p:=⟨R,k * 4+2,none⟩) HR1.out).trans f2;have f3:=(z3.frozen (p:=⟨R,k * 4+3,none⟩) HR1.out).trans f3;clear HFULL m1 m3 x2 x3;generalize x.mul (Pl.const (j:Int))=xx at *;refine wpAnyH_ready (rs:=[11]) (by kernel_rfl) (by simp) ?_;refine AllReadyH.cons rfl (fun K hK=>?_) AllReadyH.nil;unfold plV;go_simp;refine (?g9:∀ V7,((w.heap.size+1 < V7.heap.size/\yf V7 (w.heap.size+1)/\Ext w V7/\∃ L,DrL raw (k+1) L/\jh V7 (fun b=>w.heap.size+1 < b) R L)/\(V7.cell? ⟨R,j * 4,none⟩=some (.int .i64 x.lv)/\V7.cell? ⟨R,j * 4+1,none⟩=some (.bool x.neg)/\V7.cell? ⟨R,j * 4+2,none⟩=some (.slice D0 dn0 dc0)/\V7.cell? ⟨R,j * 4+3,none⟩=some (.slice D1 dn1 dc1)))->K _ V7) _ (HF3.out _ rfl);intro V7 hV7;obtain ⟨⟨c1,c2,c3,c4⟩,c7⟩:=hV7;refine hK.out _ _ c7 (fun hHeld=>?_);clear hK K s0 s1 s2 s3 f0 f1 f2 f3 c7
      try simp only [Act.put,List.getElem_toArray,List.getElem_cons_zero,List.getElem_cons_succ,List.setIfInBounds_toArray,List.set_cons_zero,List.set_cons_succ]
      refine wpAnyH_done (by kernel_rfl) ?_ _;have HXN:Hid (yf V7 (w.heap.size+1)/\Ext w V7):=Lib.hid ⟨c2,c3⟩;have HJN:=Lib.hid c4;clear hHeld c1 c2 c3 c4;have hkm1:k+1<=m:=by omega
      go_wp2_with fail
      go_roundw
      case rel=>exact ⟨j+1,k+1,by omega,hkm1,by go_num,HXN,HJN⟩
      case measure=>simp only [intOf]; omega
    · have hkm:k=m:=by omega
      obtain ⟨L,hL,hrow⟩:=HJ.out;rw [hkm] at hL;have hLm:=hL.fin HM.out;have hLl:L.length=m+1:=hL.1.trans HM.out;have hfl:∀ c ∈ L.take m,Fit c E (D+1):=fun c hc=>by
       rw [hLm] at hc;obtain ⟨d,hd,i,hi,rfl⟩:=ubk hc;rw [List.length_tail] at hi;have:=(HCF.out d (va2 hd)).mul (Fit.const (E:=0) (D:=1) (z:=1+(i:Int)) (by have:B32 ^ 1=4294967296:=rfl; omega));exact this.mono (by omega) (by omega)
      have htl:(L.take m).length=m:=by rw [List.length_take]; omega
      have HJ2:=Lib.hid (jax (l:=l) (c:=k1) hl hl4 ((hrow.take m).fin (by omega)) (by omega) hk2 (xba hfl (by rw [List.length_take]; omega) hE0) (by have:=ga3 hfl; omega) (by
       rw [hLm,<- HDV.out]
       exact HDF.out.copy_ (by omega)))
      rw [htl] at HJ2;rw [hLm,<- HDV.out,HXX.out] at HJ2;have hjm:¬ (j:Int) < (m:Int)+1:=by omega
      have X2:=Lib.hid HX.out.2;have HZ2:=Lib.hid HX.out.1;have hs2':w.heap.size+1 < wr.heap.size:=by have:=hrow.1; omega
      clear hL hrow hLm hLl hfl htl HJ HX HL0 HDF HDV HM;go_wp2_with fail;refine HJ2.out.mono ?_;rintro e w2 ⟨v2,rfl,m2,x2⟩;obtain ⟨D0,dn0,dc0,D1,dc1,rfl,-⟩:=id m2.open_;have hzn:=HZ2.out.ext x2 hs2';have HF:=Lib.hid (yg (q':=fun b=>w.heap.size<=b) (X2.out.trans x2) (Nat.le_succ _) hzn m2 (fun b _ hb=>⟨by omega,by omega⟩));obtain ⟨⟨z0,z1,z2,z3⟩,zf⟩:=hzn;clear m2 x2 HJ2;unfold plV;go_wp2_with fail;exact bodyPost_ret (v:=plV X (.slice D0 dn0 dc0) (.slice D1 X.cs.length dc1)) (by simp [results,Tryz.results40,go_sem,z0,z1,z2,z3,plV]) rfl HF.out
/- Layer 24: what the loops of pseudo-division keep. -/
structure Frr (w : World) (R : Nat) (wr : World) : Prop where
 size:w.heap.size<=wr.heap.size
 nat:∀ v ds,jc w v ds->jc wr v ds
 block:∀ b,b < w.heap.size->b ≠ R->wr.heap[b]?=w.heap[b]?
theorem Frr.refl (w:World) (R:Nat):Frr w R w:=⟨Nat.le_refl _,fun _ _ h=>h,fun _ _ _=>rfl⟩
theorem Frr.ext {w wr W:World} {R:Nat} (h:Frr w R wr) (hx:Ext wr W):Frr w R W:=⟨Nat.le_trans h.size hx.size,fun _ _ k=>(h.nat _ _ k).ext hx,fun b hb hR=>(hx.below.block b (Nat.lt_of_lt_of_le hb h.size)).trans (h.block b hb hR)⟩
theorem Frr.trans {w wr W:World} {R:Nat} (h:Frr w R wr) (k:Frr wr R W):Frr w R W:=⟨Nat.le_trans h.size k.size,fun _ _ x=>k.nat _ _ (h.nat _ _ x),fun b hb hR=>(k.block b (Nat.lt_of_lt_of_le hb h.size) hR).trans (h.block b hb hR)⟩
theorem Frr.over {w wr W:World} {R Q:Nat} (h:Frr w R wr) (k:Frr wr Q W) (hQ:w.heap.size<=Q):Frr w R W:=⟨Nat.le_trans h.size k.size,fun _ _ x=>k.nat _ _ (h.nat _ _ x),fun b hb hR=>(k.block b (Nat.lt_of_lt_of_le hb h.size) (by omega)).trans (h.block b hb hR)⟩
theorem Frr.cell {w wr:World} {R:Nat} (h:Frr w R wr) {b j:Nat} (hb:b < w.heap.size) (hR:b ≠ R):wr.cell? ⟨b,j,none⟩=w.cell? ⟨b,j,none⟩:=World.cell?_of_block (a:=⟨b,j,none⟩) (h.block b hb hR)
theorem Frr.pl {w wr:World} {R:Nat} {q:Nat->Prop} {p:Pl} {v:Value} (h:Frr w R wr) (hp:PlV w q p v) (hq:∀ b,q b->b ≠ R):PlV wr q p v:=PlV.turn_ h.size h.nat (fun b hb hb'=>⟨hb',h.block b hb (hq b hb')⟩) hp
theorem Frr.row {w wr:World} {R S:Nat} {q:Nat->Prop} {L:List Pl} (h:Frr w R wr) (hr:jh w q S L) (hS:S ≠ R) (hq:∀ b,q b->b ≠ R):jh wr q S L:=hr.turn h.size h.nat (h.block _ hr.1 hS) fun b hb hb' _=>⟨hb',h.block b hb (hq b hb')⟩
theorem Frr.put {w0 ws V V7 : World} {R j : Nat} {q : Nat -> Prop} {L : List Pl} {x : Pl} {A0 A1 : Option Addr} {n0 c0 n1 c1 : Nat} (hx : Ext w0 V) (hf : Frr ws R V) (hrow : jh V q R L) (hw : w0.heap.size <= R) (hj : j < L.length) (hp : PlV V (fun b => q b /\ b ≠ R) x (plV x (.slice A0 n0 c0) (.slice A1 n1 c1)))
 (hV:V7=(((V.setCell ⟨R,j * 4,none⟩ (.int .i64 x.lv)).setCell ⟨R,j * 4+1,none⟩ (.bool x.neg)).setCell ⟨R,j * 4+2,none⟩ (.slice A0 n0 c0)).setCell ⟨R,j * 4+3,none⟩ (.slice A1 n1 c1)) :
 Ext w0 V7/\Frr V R V7/\Frr ws R V7/\jh V7 q R (L.set j x):=by
 obtain ⟨h1,h2⟩:=hrow.set_ j hj x hp;rw [<- hV] at h1 h2;have h3:Frr V R V7:=⟨by rw [hV]; simp [World.setCell],h2,fun b _ hb=>by rw [hV,Below.heap_setCell _ _ _ b hb,Below.heap_setCell _ _ _ b hb,Below.heap_setCell _ _ _ b hb,Below.heap_setCell _ _ _ b hb]⟩;exact ⟨by rw [hV]; exact (((hx.setCell hw _).setCell hw _).setCell hw _).setCell hw _,h3,hf.trans h3,h1⟩
def ElC (W:World) (R j:Nat) (x:Pl) (A0:Option Addr) (n0 c0:Nat) (A1:Option Addr) (n1 c1:Nat):Prop:=W.cell? ⟨R,j * 4,none⟩=some (.int .i64 x.lv)/\W.cell? ⟨R,j * 4+1,none⟩=some (.bool x.neg)/\W.cell? ⟨R,j * 4+2,none⟩=some (.slice A0 n0 c0)/\W.cell? ⟨R,j * 4+3,none⟩=some (.slice A1 n1 c1)
theorem ElC.ext {W W':World} {R j:Nat} {x:Pl} {A0 A1:Option Addr} {n0 c0 n1 c1:Nat} (h:ElC W R j x A0 n0 c0 A1 n1 c1) (hR:R < W.heap.size) (hx:Ext W W'):ElC W' R j x A0 n0 c0 A1 n1 c1:=⟨(hx.cell (p:=⟨R,_,none⟩) hR).trans h.1,(hx.cell (p:=⟨R,_,none⟩) hR).trans h.2.1,(hx.cell (p:=⟨R,_,none⟩) hR).trans h.2.2.1,(hx.cell (p:=⟨R,_,none⟩) hR).trans h.2.2.2⟩
theorem ElC.far {W W':World} {R S j:Nat} {x:Pl} {A0 A1:Option Addr} {n0 c0 n1 c1:Nat} (h:ElC W R j x A0 n0 c0 A1 n1 c1) (hR:R < W.heap.size) (hf:Frr W S W') (hS:R ≠ S):ElC W' R j x A0 n0 c0 A1 n1 c1:=⟨(hf.cell hR hS).trans h.1,(hf.cell hR hS).trans h.2.1,(hf.cell hR hS).trans h.2.2.1,(hf.cell hR hS).trans h.2.2.2⟩
theorem jh.el {W:World} {q:Nat->Prop} {R:Nat} {L:List Pl} (h:jh W q R L) (j:Nat) (hj:j < L.length):∃ A0 n0 c0 A1 n1 c1,ElC W R j L[j] A0 n0 c0 A1 n1 c1/\PlV W (fun b=>q b/\b ≠ R) L[j] (plV L[j] (.slice A0 n0 c0) (.slice A1 n1 c1)):=h.2.2 j hj
def uaf (W:World) (Q m:Nat):Prop:=Q < W.heap.size/\(∀ j,W.frozen? ⟨Q,j,none⟩=false)/\∀ j,j < m * 4->∃ u,W.cell? ⟨Q,j,none⟩=some u/\um u=false
theorem uaf.ext {W W':World} {Q m:Nat} (h:uaf W Q m) (hx:Ext W W'):uaf W' Q m:=⟨Nat.lt_of_lt_of_le h.1 hx.size,fun j=>(hx.frozen (p:=⟨Q,j,none⟩) h.1).trans (h.2.1 j),fun j hj=>by
 obtain ⟨u,h1,h2⟩:=h.2.2 j hj
 exact ⟨u,(hx.cell (p:=⟨Q,j,none⟩) h.1).trans h1,h2⟩⟩
theorem uaf.far {W W':World} {Q R m:Nat} (h:uaf W Q m) (hx:Frr W R W') (hQ:Q ≠ R):uaf W' Q m:=⟨Nat.lt_of_lt_of_le h.1 hx.size,fun j=>(World.frozen?_of_block (a:=⟨Q,j,none⟩) (hx.block Q h.1 hQ)).trans (h.2.1 j),fun j hj=>by
 obtain ⟨u,h1,h2⟩:=h.2.2 j hj
 exact ⟨u,(hx.cell h.1 hQ).trans h1,h2⟩⟩
theorem uaf.of {W:World} {q:Nat->Prop} {Q:Nat} {L:List Pl} (h:jh W q Q L):uaf W Q L.length:=by
 refine ⟨h.1,h.2.1,fun j hj=>?_⟩;obtain ⟨A0,n0,c0,A1,n1,c1,⟨e0,e1,e2,e3⟩,-⟩:=h.el (j / 4) (by omega);have hd:=Nat.div_add_mod j 4;have hm:=Nat.mod_lt j (show 0 < 4 by omega);rcases (show j=j / 4 * 4\/j=j / 4 * 4+1\/j=j / 4 * 4+2\/j=j / 4 * 4+3 by omega) with e | e | e | e
 · rw [e]; exact ⟨_,e0,rfl⟩
 · rw [e]; exact ⟨_,e1,rfl⟩
 · rw [e]; exact ⟨_,e2,rfl⟩
 · rw [e]; exact ⟨_,e3,rfl⟩
theorem uaf.put {W V7 : World} {Q m k : Nat} (h : uaf W Q m) (hk : k < m) (lv : Int) (ng : Bool) (A0 A1 : Option Addr) (n0 c0 n1 c1 : Nat)
 (hV:V7=(((W.setCell ⟨Q,k * 4,none⟩ (.int .i64 lv)).setCell ⟨Q,k * 4+1,none⟩ (.bool ng)).setCell ⟨Q,k * 4+2,none⟩ (.slice A0 n0 c0)).setCell ⟨Q,k * 4+3,none⟩ (.slice A1 n1 c1)) :
 (∃ u0 u1 u2 u3,W.cell? ⟨Q,k * 4,none⟩=some u0/\W.cell? ⟨Q,k * 4+1,none⟩=some u1/\W.cell? ⟨Q,k * 4+2,none⟩=some u2/\W.cell? ⟨Q,k * 4+3,none⟩=some u3)/\uaf V7 Q m/\Frr W Q V7:=by
 obtain ⟨h1,h2,h3⟩:=h;obtain ⟨u0,c0',d0⟩:=h3 (k * 4) (by omega);obtain ⟨u1,c1',d1⟩:=h3 (k * 4+1) (by omega);obtain ⟨u2,c2',d2⟩:=h3 (k * 4+2) (by omega);obtain ⟨u3,c3',d3⟩:=h3 (k * 4+3) (by omega);have hfour:=uau c0' c1' c2' c3' d0 d1 d2 d3 (.int .i64 lv) (.bool ng) (.slice A0 n0 c0) (.slice A1 n1 c1);simp only [<- hV] at hfour;obtain ⟨⟨f0,f1,f2,f3⟩,g2,g3,g4,g5,g6⟩:=hfour;refine ⟨⟨_,_,_,_,c0',c1',c2',c3'⟩,⟨by omega,fun j=>(g4 _).trans (h2 j),fun j hj=>?_⟩,by omega,g6,fun b _ hb=>g3 b hb⟩
 by_cases hjk:j < k * 4\/k * 4+3 < j
 · rw [g2 j hjk]; exact h3 j hj
 · rcases (show j=k * 4\/j=k * 4+1\/j=k * 4+2\/j=k * 4+3 by omega) with rfl | rfl | rfl | rfl
   · exact ⟨_,f0,rfl⟩
   · exact ⟨_,f1,rfl⟩
   · exact ⟨_,f2,rfl⟩
   · exact ⟨_,f3,rfl⟩
theorem wae {E D:Nat} {L:List Pl} (h:∀ c ∈ L,Fit c E D) (j:Nat):Fit (L.getD j Pl.zero) E D:=vau Fit.zero h j
theorem vbn {E D F G:Nat} {g rest:List Pl} (hg:∀ c ∈ g,Fit c F G) (hr:∀ c ∈ rest,Fit c E D) (k:Nat):∀ c ∈ jaa g k rest,Fit c (E+F) (D+G+2):=by
 intro c hc;obtain ⟨j,-,rfl⟩:=List.mem_map.1 hc;have h1:=(wae hr j).mul (wae hg (g.length - 1))
 split
 · exact (h1.sub ((wae hr (g.length - 1+k)).mul (wae hg (j - k)))).mono (by omega) (by omega)
 · exact h1.mono (by omega) (by omega)
def RdL (G:List Pl) (k:Nat) (L:List Pl) (n j:Nat) (L':List Pl):Prop:=L'.length=n+k/\∀ i (h:i < L'.length),L'[i]=if i < j then (jaa G k L).getD i Pl.zero else L.getD i Pl.zero
theorem RdL.start {G L:List Pl} {k n:Nat} (h:n+k<=L.length):RdL G k L n 0 (L.take (n+k)):=⟨by rw [List.length_take]; omega,fun i hi=>by
 rw [List.length_take] at hi
 rw [if_neg (by omega),List.getElem_take,List.getD_eq_getElem?_getD,List.getElem?_eq_getElem (by omega)]; rfl⟩
theorem RdL.fin {G L L':List Pl} {k n:Nat} (h:RdL G k L n (n+k) L') (hG:G.length=n+1):L'=jaa G k L:=by
 refine List.ext_getElem (by rw [h.1,uaq]; omega) fun i h1 h2=>?_
 rw [h.2 i h1,if_pos (by rw [<- h.1]; exact h1),List.getD_eq_getElem?_getD,List.getElem?_eq_getElem h2]; rfl
theorem RdL.step {G L L':List Pl} {k n j:Nat} (h:RdL G k L n j L') (hj:j < n+k) {x:Pl} (hx:x=(jaa G k L).getD j Pl.zero):RdL G k L n (j+1) (L'.set j x):=by
 refine ⟨by rw [List.length_set]; exact h.1,fun i hi=>?_⟩;rw [List.length_set] at hi
 by_cases hij:i=j
 · subst hij;rw [List.getElem_set_self,if_pos (Nat.lt_succ_self _)]; exact hx
 · rw [List.getElem_set_ne (Ne.symm hij),h.2 i hi]
   by_cases h2:i < j
   · rw [if_pos h2,if_pos (by omega)]
   · rw [if_neg h2,if_neg (by omega)]
theorem za0 {G L:List Pl} {k n j:Nat} (hG:G.length=n+1) (hj:j < n+k):(jaa G k L).getD j Pl.zero=if k<=j then ((L.getD j Pl.zero).mul (G.getD n Pl.zero)).sub ((L.getD (n+k) Pl.zero).mul (G.getD (j - k) Pl.zero)) else (L.getD j Pl.zero).mul (G.getD n Pl.zero):=by
 have hl:=uaq G k L;rw [List.getD_eq_getElem?_getD,List.getElem?_eq_getElem (by omega)];unfold jaa;simp only [hG,Nat.add_sub_cancel,Option.getD_some,List.getElem_map,List.getElem_range]
end Go.Proofs.YtklnlgnnlmdibaaGreat
