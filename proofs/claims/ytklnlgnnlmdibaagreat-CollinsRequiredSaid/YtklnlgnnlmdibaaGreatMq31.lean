/- Layer 23: mainvar.Coefs. -/
import Derived.Test.YtklnlgnnlmdibaaGreatMvCfs
import Derived.Test.YtklnlgnnlmdibaaGreatMq30
set_option linter.unusedSimpArgs false
set_option linter.unusedVariables false
set_option maxRecDepth 100000
set_option maxHeartbeats 8000000
namespace Go.Proofs.YtklnlgnnlmdibaaGreat
open Lib (hid)
open Go.RowKit
def wae (W:World) (q:Nat->Prop) (v:Value) (L:List Pl):Prop:=∃ A c,v=.slice A L.length c/\L.length<=c/\c<=9223372036854775807/\(L ≠ []->∃ R,A=some ⟨R,0,none⟩/\q R/\xh W q R L)
theorem wae.mono {W:World} {q q':Nat->Prop} {v:Value} {L:List Pl} (h:wae W q v L) (hq:∀ b,q b->q' b):wae W q' v L:=by
 obtain ⟨A,c,e,h1,h2,h3⟩:=h;exact ⟨A,c,e,h1,h2,fun hn=>by obtain ⟨R,e,h4,h5⟩:=h3 hn; exact ⟨R,e,hq R h4,h5.mono hq⟩⟩
theorem wae.at_ {W:World} {q:Nat->Prop} {v:Value} {L:List Pl} (h:wae W q v L):∃ A c,v=.slice A L.length c/\L.length<=c/\c<=9223372036854775807/\jc W q L A 0:=by
 obtain ⟨A,c,e,h1,h2,h3⟩:=h;refine ⟨A,c,e,h1,h2,?_⟩
 by_cases hn:L=[]
 · subst hn; unfold jc; trivial
 · obtain ⟨R,rfl,h4,h5⟩:=h3 hn;exact h5.fin h4
def gag (q:Nat->Prop) (L:List Pl) (w:World) (e:Ending) (w':World):Prop:=∃ v,e=.returned v/\wae w' q v L/\Ext w w'
theorem Fit.copy_ {p:Pl} {E D:Nat} (h:Fit p E D) (hE:E<=170):p.sz<=1099511627776:=by have:=h.small hE; omega
def CoL (n k:Nat) (raw L:List Pl):Prop:=L.length=n+1/\∀ j (h:j < L.length),L[j]=if j < k then (raw.getD j Pl.zero).nf else raw.getD j Pl.zero
theorem yaj {w:World} {q:Nat->Prop} {p:Pl} {l:Int} {E D:Nat} (v:Value) (hl:1<=l) (ag:l<=4) (hp:Fit p E D) (hE:E<=170) (hD:D<=1099511627776) (h:PlV w q p v):Calls Tryz.prog 49 #[v,.int .i64 l] w (gag (fun b=>w.heap.size<=b) (p.cfL l) w):=by
 have HP:=hid h;obtain ⟨A0,n0,c0,A,c,rfl,-⟩:=h.open_;obtain ⟨W,hW⟩:=n_m (w.alloc (.cells #[.int .i64 p.lv,.bool p.neg,.slice A0 n0 c0,.slice A p.cs.length c] 35));have ai:Ext w W:=by rw [<- hW]; exact (Ext.refl w).alloc _
 have MM:PBx W (fun _=>True) w.heap.size p:=by rw [<- hW]; exact PBx.new (h.mono fun _ _=>trivial) _
 have HC:=hid hp;have HN:=hid (qaa _ (HP.out.ext ai) hp.can (hp.copy_ hE) (by have:=hp.dm; omega));have aF:=hid ai;have qG:Hid (W.heap.size=w.heap.size+1):=hid (by rw [<- hW]; simp);have dC:=hid MM;have QY:=ai.size;obtain ⟨-,-,B0,b0n,b0c,B1,b1c,⟨b0,b1,b2,b3⟩,-⟩:=id MM;have hE:W.cell? ⟨w.heap.size,0,none⟩=some (.int .i64 p.lv)/\W.cell? ⟨w.heap.size,1,none⟩=some (.bool p.neg)/\W.cell? ⟨w.heap.size,2,none⟩=some (.slice A0 n0 c0)/\W.cell? ⟨w.heap.size,3,none⟩=some (.slice A p.cs.length c):=by
  rw [<- hW]; exact ⟨by simp [go_sem],by simp [go_sem],by simp [go_sem],by simp [go_sem]⟩
 clear b0 b1 b2 b3 h hp MM ai;obtain ⟨b0,b1,b2,b3⟩:=hE;unfold plV at HN;unfold plV;go_enter Tryz.func49,Tryz.ntmps49;go_wp2_with fail;clear hW b0 b1 b2 b3;refine HN.out.mono ?_;rintro e w1 ⟨v1,rfl,m1,x1⟩;obtain ⟨C0,j0,f0,C1,f1,rfl,-⟩:=id m1.open_;have rJ:=dC.out.ext x1;obtain ⟨-,bF,B0,b0n,b0c,B1,b1c,⟨b0,b1,b2,b3⟩,-⟩:=id rJ;have hsW:w.heap.size < W.heap.size:=dC.out.1;have BB:=rJ.store (Q':=fun _=>True) (m1.mono fun b hb=>⟨trivial,by omega⟩);obtain ⟨W1,aT⟩:=n_m (((((w1.setCell ⟨w.heap.size,0,none⟩ (.int .i64 p.lv)).setCell ⟨w.heap.size,1,none⟩ (.bool p.neg)).setCell ⟨w.heap.size,2,none⟩ (.slice C0 j0 f0)).setCell ⟨w.heap.size,3,none⟩ (.slice C1 p.cs.length f1)));have X1:Hid (Ext w W1):=hid (by rw [<- aT]; exact ((((aF.out.trans x1).setCell (Nat.le_refl _) _).setCell (Nat.le_refl _) _).setCell (Nat.le_refl _) _).setCell (Nat.le_refl _) _);rw [aT] at BB;have yN:=hid BB;have EI:=bF 0;have f1':=bF 1;have f2':=bF 2;have f3':=bF 3;have hd:W1.cell? ⟨w.heap.size,0,none⟩=some (.int .i64 p.lv)/\W1.cell? ⟨w.heap.size,1,none⟩=some (.bool p.neg)/\W1.cell? ⟨w.heap.size,2,none⟩=some (.slice C0 j0 f0)/\W1.cell? ⟨w.heap.size,3,none⟩=some (.slice C1 p.cs.length f1):=by
  rw [<- aT]; exact jb.set (dC.out.ext x1).2.2.choose_spec.choose_spec.choose_spec.choose_spec.choose_spec.1
 have DV:Hid (PlV W1 (fun b=>W.heap.size<=b) p (plV p (.slice C0 j0 f0) (.slice C1 p.cs.length f1))):=hid (by rw [<- aT]; exact rJ.stays m1 (fun b hb=>by omega) _ _ _ _ _ _ _ _);have HD:Hid (∀ W',Ext W1 W'->W'.cell? ⟨w.heap.size,0,none⟩=some (.int .i64 p.lv)/\W'.cell? ⟨w.heap.size,1,none⟩=some (.bool p.neg)/\W'.cell? ⟨w.heap.size,2,none⟩=some (.slice C0 j0 f0)/\W'.cell? ⟨w.heap.size,3,none⟩=some (.slice C1 p.cs.length f1)):=hid (fun W' hx=>by
  have k:∀ i,W'.cell? ⟨w.heap.size,i,none⟩=W1.cell? ⟨w.heap.size,i,none⟩:=fun i=>hx.cell (p:=⟨w.heap.size,i,none⟩) yN.out.1
  exact ⟨(k 0).trans hd.1,(k 1).trans hd.2.1,(k 2).trans hd.2.2.1,(k 3).trans hd.2.2.2⟩)
 have gU:=hid (uab _ DV.out HC.out.can);unfold plV at gU;unfold plV;clear rJ BB bF m1 x1 HN;go_upto_region 2 with fail
 try rw [aT]
 clear aT b0 b1 b2 b3 EI f1' f2' f3';obtain ⟨b0,b1,b2,b3⟩:=hd;go_wp2_with fail;clear b0 b1 b2 b3;refine gU.out.mono ?_;rintro e w2 ⟨rfl,x2⟩
 by_cases hz:p.isZ=true
 · have oh:p.cfL l=[]:=by rw [Pl.cfL,if_pos hz]
   rw [hz];have X2:=hid (X1.out.trans x2);have Ob:=hid oh;clear x2 gU hz oh;go_wp2_with fail;go_ret;rw [Ob.out];exact ⟨_,rfl,⟨none,0,rfl,by simp,by omega,fun h=>absurd rfl h⟩,X2.out⟩
 · rw [show p.isZ=false by simpa using hz];have X2:=hid (X1.out.trans x2);have YS:=hid x2;have hdb:=Pl.dgL_bd hl p HC.out.can HC.out.ex;obtain ⟨n,xO⟩:∃ n:Nat,p.dgL l=n:=⟨(p.dgL l).toNat,by omega⟩;have hnE:n<=170:=by omega
   have oh:p.cfL l=(p.cfs l n).map Pl.nf:=by rw [Pl.cfL_of hl ag HC.out.can (fun e=>hz ((Pl.zero_isZ HC.out.can).2 e)),xO]; rfl
   have Ob:=hid oh;have adO:Hid (∀ j,j < n+1->((p.cfs l n).getD j Pl.zero).sz<=1073741824/\((p.cfs l n).getD j Pl.zero).dm<=1099511627776/\((p.cfs l n).getD j Pl.zero).nf.sz<=1099511627776):=hid (fun j hj=>by
    obtain ⟨h1,h2⟩:=Pl.cfs_raw (l:=l) (n:=n) p j (by omega);obtain ⟨h3,h4⟩:=Pl.cfs_fit (l:=l) (n:=n) p HC.out.can HC.out.ex j (by omega);have h5:=HC.out.small hE;have h6:=HC.out.dm;have h7:Fit ((p.cfs l n).getD j Pl.zero).nf E D:=⟨Pl.nf_can _,h3,Nat.lt_of_le_of_lt h4 HC.out.nr⟩
    exact ⟨by omega,by omega,h7.copy_ hE⟩)
   have o8:=hid (fun (W':World) (hx:Ext W1 W')=>vbs hl p _ HC.out.can (HC.out.copy_ hE) (DV.out.ext hx));rw [xO] at o8;have nK:=hid (fun (W':World) (hx:Ext W1 W')=>ucv hl n (by omega) p _ HC.out.can (HC.out.copy_ hE) (Int.le_of_eq xO) (DV.out.ext hx));unfold plV at o8 nK;clear x2 gU hz xO oh hdb;go_wp2_with fail;refine (qam l _).mono ?_;rintro e w3 ⟨rfl,rfl⟩;rw [show (decide (1<=l) && decide (l<=4))=true by simp [hl,ag]];have aG:Hid (∀ W',Ext W1 W'->(Ext W1 W'/\W'.cell? ⟨w.heap.size,0,none⟩=some (.int .i64 p.lv)/\W'.cell? ⟨w.heap.size,1,none⟩=some (.bool p.neg)/\W'.cell? ⟨w.heap.size,2,none⟩=some (.slice C0 j0 f0)/\W'.cell? ⟨w.heap.size,3,none⟩=some (.slice C1 p.cs.length f1))):=hid (fun W' hx=>⟨hx,HD.out W' hx⟩);have Y0:=hid (YS.out.drew);go_upto_region 6 with fail
   go_region_held3 (fun W' => Ext W1 W' /\ W'.cell? ⟨w.heap.size, 0, none⟩ = some (.int .i64 p.lv) /\ W'.cell? ⟨w.heap.size, 1, none⟩ = some (.bool p.neg) /\ W'.cell? ⟨w.heap.size, 2, none⟩ = some (.slice C0 j0 f0) /\ W'.cell? ⟨w.heap.size, 3, none⟩ = some (.slice C1 p.cs.length f1))
    (first | with_reducible exact aG.out _ Y0.out | with_reducible exact aG.out _ z1 | with_reducible exact aG.out _ z2)
    (first
      | (go_at_call 52
         refine (o8.out _ Y0.out).mono ?_;rintro e w4 ⟨rfl,y4⟩
         have z1:Ext W1 w4:=Y0.out.trans y4)
      | (go_at_call 81
         refine (nK.out _ z1).mono ?_;rintro e w5 ⟨R,rfl,hR,ae,y5⟩;rw [Pl.cfs_len]
         have z2:Ext W1 w5:=z1.trans y5))
   all_goals
    have X5:=hid (X1.out.trans z2);have XL:=(X1.out.trans z1).size;have bU:=X1.out.size;have dE:W.heap.size=w.heap.size+1:=qG.out;have gX:xh w5 (fun b=>w.heap.size<=b) R (p.cfs l n):=ae.mono fun b hb=>by
     rcases hb with hb | hb <;> omega
    have mg:w.heap.size<=R:=by omega
    have adJ:Hid (∃ L,CoL n 0 (p.cfs l n) L/\xh w5 (fun b=>w.heap.size<=b) R L):=hid ⟨p.cfs l n,⟨Pl.cfs_len l n p,fun j hj=>by rw [if_neg (by omega),List.getD_eq_getElem?_getD,List.getElem?_eq_getElem hj]; rfl⟩,gX⟩;clear ae gX y4 y5 z1 z2 nK o8 aG hR;go_wp2_with fail
    go_loopw [26] (fun iv wr=>∃ k:Nat,k<=n+1/\iv=.int .i64 k/\Hid (Ext w wr/\∃ L,CoL n k (p.cfs l n) L/\xh wr (fun b=>w.heap.size<=b) R L)) (fun iv _=>n+1 - (intOf iv).toNat)
    case atStart=>exact ⟨0,Nat.zero_le _,rfl,hid ⟨X5.out,adJ.out⟩⟩
    case round =>
     obtain ⟨k,hk,rfl,HI⟩:=hrel
     by_cases af:k < n+1
     · obtain ⟨lg,L,hL,bM⟩:=HI.out;have OT:k < L.length:=by rw [hL.1]; exact af
       obtain ⟨D0,dU,dW,D1,kX,dV,⟨r0,r1,r2,r3⟩,vK⟩:=bM.2.2 k OT;have YB:=hL.2 k OT;rw [if_neg (Nat.lt_irrefl k)] at YB;obtain ⟨su,Cb,J8⟩:=adO.out k af;rw [<- YB] at su Cb J8;have HNM:=hid (fun (W':World) (hx:Ext wr W')=>qav L[k] _ (vK.ext hx) su J8 Cb);have BH:=hid bM;have mF:=hid lg;have BJ:=hid hL;have WE:=hid YB;generalize L[k]=x at *;unfold plV at HNM;have sV:(k:Int) < (n:Int)+1:=by omega
       clear lg hL bM vK YB su Cb J8 HI;go_wp2_with fail;clear r0 r1 r2 r3;refine (HNM.out _ (Ext.refl wr)).mono ?_;rintro e w6 ⟨v6,rfl,m6,x6⟩;obtain ⟨G0,g0n,g0c,G1,g1c,rfl,-⟩:=id m6.open_;have jJ:=BH.out.ext x6;have hRr:R < wr.heap.size:=BH.out.1;obtain ⟨I0,i0n,i0c,I1,i1n,i1c,⟨r0,r1,r2,r3⟩,-⟩:=jJ.2.2 k OT;have bF:=jJ.2.1;have EI:=bF (k * 4);have f1':=bF (k * 4+1);have f2':=bF (k * 4+2);have f3':=bF (k * 4+3);have dR:=(jJ.set_ k OT x.nf (m6.mono fun b hb=>⟨by omega,by omega⟩)).1;have ay:=(((((mF.out.trans x6).setCell mg (p:=⟨R,k * 4,none⟩) (.int .i64 x.nf.lv)).setCell mg (p:=⟨R,k * 4+1,none⟩) (.bool x.nf.neg)).setCell mg (p:=⟨R,k * 4+2,none⟩) (.slice G0 g0n g0c)).setCell mg (p:=⟨R,k * 4+3,none⟩) (.slice G1 x.nf.cs.length g1c));have hCo:CoL n (k+1) (p.cfs l n) (L.set k x.nf):=by
        refine ⟨by rw [List.length_set]; exact BJ.out.1,fun j hj=>?_⟩;rw [List.length_set] at hj
        by_cases lJ:j=k
        · subst lJ;rw [List.getElem_set_self,if_pos (Nat.lt_succ_self _),WE.out]
        · rw [List.getElem_set_ne (Ne.symm lJ),BJ.out.2 j hj]
          by_cases oL:j < k
          · rw [if_pos oL,if_pos (by omega)]
          · rw [if_neg oL,if_neg (by omega)]
       have oG:=hid (And.intro ay (⟨_,hCo,dR⟩:∃ L,CoL n (k+1) (p.cfs l n) L/\xh _ (fun b=>w.heap.size<=b) R L));clear jJ dR ay hCo bF m6 x6 HNM BJ WE BH mF;unfold plV;go_wp2_with fail
       go_roundw
       case rel=>exact ⟨k+1,by omega,by go_num,oG⟩
       case measure=>simp only [intOf]; omega
     · have bH:k=n+1:=by omega
       obtain ⟨lg,L,hL,bM⟩:=HI.out;have pM:L=p.cfL l:=by
        rw [Ob.out];refine List.ext_getElem (by rw [hL.1,List.length_map,Pl.cfs_len]) fun j h1 h2=>?_
        rw [hL.2 j h1,if_pos (by have:=hL.1; omega),List.getElem_map,List.getD_eq_getElem?_getD,List.getElem?_eq_getElem (by rw [List.length_map] at h2; exact h2)]
        rfl
       rw [pM] at bM;have bV:Hid (gag (fun b=>w.heap.size<=b) (p.cfL l) w (.returned (.slice (some ⟨R,0,none⟩) (n+1) (n+1))) wr):=hid ⟨_,rfl,⟨_,_,by rw [Ob.out,List.length_map,Pl.cfs_len],by rw [Ob.out,List.length_map,Pl.cfs_len]; exact Nat.le_refl _,by omega,fun _=>⟨R,rfl,mg,bM⟩⟩,lg⟩;clear lg hL bM pM HI bH;go_wp2_with fail;go_ret;exact bV.out
theorem kaf {w:World} {q:Nat->Prop} {p:Pl} {l:Int} {E D:Nat} (v:Value) (hl:1<=l) (ag:l<=4) (hp:Fit p E D) (hE:E<=170) (hD:D<=1099511627776) (h:PlV w q p v):Calls Tryz.prog 18 #[v,.int .i64 l] w (uf (fun b=>w.heap.size<=b) (ui l p) w):=by
 have HP:=hid h;have rV:=hid hp;obtain ⟨A0,n0,c0,A,c,rfl,-⟩:=h.open_;obtain ⟨W,hW⟩:=n_m ((w.alloc (.cells #[.int .i64 p.lv,.bool p.neg,.slice A0 n0 c0,.slice A p.cs.length c] 35)).alloc (.cells #[.int .i64 0,.bool false,.slice none 0 0,.slice none 0 0] 35));have ai:Ext w W:=by rw [<- hW]; exact ((Ext.refl w).alloc _).alloc _
 have dE:W.heap.size=w.heap.size+1+1:=by rw [<- hW]; simp
 have hz:jf W (w.heap.size+1):=by
  have:=jf.new (w.alloc (.cells #[.int .i64 p.lv,.bool p.neg,.slice A0 n0 c0,.slice A p.cs.length c] 35)) 35;rw [hW] at this;simpa using this
 have bG:jb W w.heap.size p (.slice A0 n0 c0) (.slice A p.cs.length c):=by rw [<- hW]; exact (jb.new w p _ _ _).ext ((Ext.refl _).alloc _) (by simp)
 obtain ⟨b0,b1,b2,b3⟩:=bG;have fH:=hid (yaj _ hl ag hp hE hD (HP.out.ext ai));have aF:=hid ai;have HZ:=hid hz;unfold plV at fH;unfold plV;obtain ⟨X,hX⟩:=n_m (ui l p);rw [hX];have oZ:=hid hX;clear h hp ai hz hX;go_enter Tryz.func18,Tryz.ntmps18;go_wp2_with fail;clear hW b0 b1 b2 b3;refine fH.out.mono ?_;rintro e w1 ⟨v1,rfl,⟨A1,k1,rfl,Eu,hk2,hR⟩,x1⟩;have aQ:=HZ.out.ext x1 (by omega);have bU:=x1.size
 by_cases ak:p.cfL l=[]
 · have hlen:(p.cfL l).length=0:=by rw [ak]; rfl
   have wU:ui l p=Pl.zero:=by unfold ui; rw [ak]; rfl
   rw [hlen];have HF:=hid (uf.congr (oZ.out.symm.trans wU) <| qf (q:=fun _=>False) (q':=fun b=>w.heap.size<=b) (aF.out.trans x1) (Nat.le_succ _) aQ (Pl.zero_v w1 _ none 0 (by omega)) (fun b _ hb=>hb.elim));obtain ⟨⟨z0,z1,z2,z3⟩,zf⟩:=aQ;clear ak hlen wU x1 fH hR;go_wp2_with fail;exact bodyPost_ret (v:=plV Pl.zero (.slice none 0 0) (.slice none 0 0)) (by simp [results,Tryz.results18,go_sem,z0,z1,z2,z3,plV,Pl.zero,Pl.lv,Pl.neg,Pl.cs]) rfl HF.out
 · obtain ⟨R,rfl,mg,ae⟩:=hR ak;obtain ⟨m,hm⟩:∃ m,(p.cfL l).length=m+1:=⟨(p.cfL l).length - 1,by have:=List.length_pos_iff.2 ak; omega⟩;have Ya:=uu (l:=l) rV.out.can rV.out.ex;have lu:m < (p.cfL l).length:=by omega
   obtain ⟨D0,dU,dW,D1,kX,dV,⟨r0,r1,r2,r3⟩,vK⟩:=ae.2.2 m lu;have qR:ui l p=(p.cfL l)[m]:=by
    unfold ui;rw [hm,Nat.add_sub_cancel,List.getD_eq_getElem?_getD,List.getElem?_eq_getElem lu]; rfl
   have QM:IntKind.i64.wrap (((m:Int)+1) - 1)=(m:Int):=by rw [IntKind.wrap_i64]; omega
   have uF:(((m:Int)+1) == 0)=false:=by simp; omega
   rw [hm];have HF:=hid (uf.congr (oZ.out.symm.trans qR) <| qf (q':=fun b=>w.heap.size<=b) (aF.out.trans x1) (Nat.le_succ _) aQ vK (fun b _ hb=>⟨by omega,by omega⟩));obtain ⟨⟨z0,z1,z2,z3⟩,zf⟩:=aQ;generalize (p.cfL l)[m]=x at *;clear ak hm qR x1 fH hR ae vK;go_wp2_with fail;exact bodyPost_ret (v:=plV x (.slice D0 dU dW) (.slice D1 kX dV)) (by simp [results,Tryz.results18,go_sem,z0,z1,z2,z3,plV]) rfl HF.out
theorem ga3 {w:World} {q:Nat->Prop} {p:Pl} {l k:Int} {E D:Nat} (v:Value) (Eu:-9223372036854775808<=k) (hk2:k<=9223372036854775807) (hl:1<=l) (ag:l<=4) (hp:Fit p E D) (hE:E<=170) (hD:D<=1099511627776) (h:PlV w q p v):Calls Tryz.prog 41 #[v,.int .i64 l,.int .i64 k] w (uf (fun b=>w.heap.size<=b) (vg l k p) w):=by
 have HP:=hid h;have rV:=hid hp;obtain ⟨A0,n0,c0,A,c,rfl,-⟩:=h.open_;obtain ⟨W,hW⟩:=n_m ((w.alloc (.cells #[.int .i64 p.lv,.bool p.neg,.slice A0 n0 c0,.slice A p.cs.length c] 35)).alloc (.cells #[.int .i64 0,.bool false,.slice none 0 0,.slice none 0 0] 35));have ai:Ext w W:=by rw [<- hW]; exact ((Ext.refl w).alloc _).alloc _
 have dE:W.heap.size=w.heap.size+1+1:=by rw [<- hW]; simp
 have hz:jf W (w.heap.size+1):=by
  have:=jf.new (w.alloc (.cells #[.int .i64 p.lv,.bool p.neg,.slice A0 n0 c0,.slice A p.cs.length c] 35)) 35;rw [hW] at this;simpa using this
 have bG:jb W w.heap.size p (.slice A0 n0 c0) (.slice A p.cs.length c):=by rw [<- hW]; exact (jb.new w p _ _ _).ext ((Ext.refl _).alloc _) (by simp)
 obtain ⟨b0,b1,b2,b3⟩:=bG;have fH:=hid (yaj _ hl ag hp hE hD (HP.out.ext ai));have aF:=hid ai;have HZ:=hid hz;unfold plV at fH;unfold plV;obtain ⟨X,hX⟩:=n_m (vg l k p);rw [hX];have oZ:=hid hX;clear h hp ai hz hX;go_enter Tryz.func41,Tryz.ntmps41;go_wp2_with fail;clear hW b0 b1 b2 b3;refine fH.out.mono ?_;rintro e w1 ⟨v1,rfl,⟨A1,k1,rfl,Eu,hk2,hR⟩,x1⟩;have aQ:=HZ.out.ext x1 (by omega);have bU:=x1.size
 by_cases xH:k < 0
 · have wU:vg l k p=Pl.zero:=by unfold vg; rw [if_pos xH]
   have HF:=hid (uf.congr (oZ.out.symm.trans wU) <| qf (q:=fun _=>False) (q':=fun b=>w.heap.size<=b) (aF.out.trans x1) (Nat.le_succ _) aQ (Pl.zero_v w1 _ none 0 (by omega)) (fun b _ hb=>hb.elim));obtain ⟨⟨z0,z1,z2,z3⟩,zf⟩:=aQ;clear wU x1 fH hR;go_wp2_with fail;exact bodyPost_ret (v:=plV Pl.zero (.slice none 0 0) (.slice none 0 0)) (by simp [results,Tryz.results41,go_sem,z0,z1,z2,z3,plV,Pl.zero,Pl.lv,Pl.neg,Pl.cs]) rfl HF.out
 by_cases sV:((p.cfL l).length:Int)<=k
 · have wU:vg l k p=Pl.zero:=by
    unfold vg;rw [if_neg xH,List.getD_eq_getElem?_getD,List.getElem?_eq_none (by omega)]; rfl
   have Ya:=uu (l:=l) rV.out.can rV.out.ex;generalize (p.cfL l).length=m at *;have HF:=hid (uf.congr (oZ.out.symm.trans wU) <| qf (q:=fun _=>False) (q':=fun b=>w.heap.size<=b) (aF.out.trans x1) (Nat.le_succ _) aQ (Pl.zero_v w1 _ none 0 (by omega)) (fun b _ hb=>hb.elim));obtain ⟨⟨z0,z1,z2,z3⟩,zf⟩:=aQ;clear wU x1 fH hR;go_wp2_with fail;exact bodyPost_ret (v:=plV Pl.zero (.slice none 0 0) (.slice none 0 0)) (by simp [results,Tryz.results41,go_sem,z0,z1,z2,z3,plV,Pl.zero,Pl.lv,Pl.neg,Pl.cs]) rfl HF.out
 · obtain ⟨R,rfl,mg,ae⟩:=hR (by intro e; rw [e] at sV; simp at sV; omega);have Ya:=uu (l:=l) rV.out.can rV.out.ex;obtain ⟨m,rfl⟩:∃ m:Nat,k=m:=⟨k.toNat,by omega⟩;have lu:m < (p.cfL l).length:=by omega
   obtain ⟨D0,dU,dW,D1,kX,dV,⟨r0,r1,r2,r3⟩,vK⟩:=ae.2.2 m lu;have qR:vg l m p=(p.cfL l)[m]:=by
    unfold vg;rw [if_neg xH,Int.toNat_natCast,List.getD_eq_getElem?_getD,List.getElem?_eq_getElem lu]; rfl
   have HF:=hid (uf.congr (oZ.out.symm.trans qR) <| qf (q':=fun b=>w.heap.size<=b) (aF.out.trans x1) (Nat.le_succ _) aQ vK (fun b _ hb=>⟨by omega,by omega⟩));obtain ⟨⟨z0,z1,z2,z3⟩,zf⟩:=aQ;generalize (p.cfL l)[m]=x at *;clear qR x1 fH hR ae vK;go_wp2_with fail;exact bodyPost_ret (v:=plV x (.slice D0 dU dW) (.slice D1 kX dV)) (by simp [results,Tryz.results41,go_sem,z0,z1,z2,z3,plV]) rfl HF.out
theorem yar {L:List Pl} {E D:Nat} (h:∀ c ∈ L,Fit c E D) (hl:L.length<=E+1) (hE:E<=62):uk L<=1073741823:=by
 have h1:∀ L:List Pl,(∀ c ∈ L,Fit c E D)->uk L<=L.length * (E+2) ^ 4:=fun L=>by
  induction L with
  | nil=>intro _; rw [uk]; exact Nat.zero_le _
  | cons c r ih =>
    intro h;have a:=ih fun d hd=>h d (by simp [hd])
    have b:=(h c (by simp)).sz;rw [uk,List.length_cons,Nat.succ_mul];omega
 have h2:(E+2) ^ 4<=64 ^ 4:=Nat.pow_le_pow_left (by omega) 4;have h3:L.length * (E+2) ^ 4<=63 * 64 ^ 4:=Nat.mul_le_mul (by omega) h2;have h4:63 * 64 ^ 4<=1073741823:=by decide
 have:=h1 L h;omega
theorem xh.take {W:World} {q:Nat->Prop} {R:Nat} {l:List Pl} (h:xh W q R l) (m:Nat):xh W q R (l.take m):=by
 obtain ⟨h1,h2,h3⟩:=h;refine ⟨h1,h2,fun i hi=>?_⟩;rw [List.length_take] at hi;rw [List.getElem_take];exact h3 i (by omega)
theorem kak {w:World} {q:Nat->Prop} {L:List Pl} {l:Int} {A:Option Addr} {c:Nat} (hl:1<=l) (ag:l<=4) (hA:jc w q L A 0) (hc:L.length<=c) (eX:c<=9223372036854775807) (hsz:uk L<=1073741823) (ig:ww L<=1099511627776) (vN:(joinL l L).sz<=1099511627776) :
 Calls Tryz.prog 28 #[.slice A L.length c,.int .i64 l] w (uf (fun b=>w.heap.size<=b) (joinL l L) w):=by
 obtain ⟨W,hW⟩:=n_m (w.alloc (.cells #[.int .i64 0,.bool false,.slice none 0 0,.slice none 0 0] 35));have ai:Ext w W:=by rw [<- hW]; exact (Ext.refl w).alloc _
 have dE:W.heap.size=w.heap.size+1:=by rw [<- hW]; simp
 have hz:jf W w.heap.size:=by rw [<- hW]; exact jf.new w _
 have hj:joinL l L=(Pl.mk l false [] L).nf:=by unfold joinL; rw [if_pos ⟨hl,ag⟩]
 have HN:=hid (qav (Pl.mk l false [] L) (plV (.mk l false [] L) (.slice none 0 0) (.slice A L.length c)) (PlV.mk (t:=.mk l false [] L) (jd.nil W) hc eX (hA.ext ai)) (by rw [Pl.sz]; omega) (by rw [<- hj]; exact vN) (by rw [Pl.dm]; simp only [List.length_nil]; omega));rw [<- hj] at HN;unfold plV at HN;simp only [Pl.lv,Pl.neg] at HN;have aF:=hid ai;have HZ:=hid hz;generalize joinL l L=X at *;clear hz ai hA hj hsz ig vN;go_enter Tryz.func28,Tryz.ntmps28;go_wp2_with fail
 try rw [hW]
 refine (qam l _).mono ?_;rintro e w0 ⟨rfl,rfl⟩;rw [show (decide (1<=l) && decide (l<=4))=true by simp [hl,ag]];go_wp2_with fail;clear hW;refine HN.out.mono ?_;rintro e w1 ⟨v1,rfl,m1,x1⟩;obtain ⟨D0,dU,dW,D1,dV,rfl,-⟩:=id m1.open_;have aQ:=HZ.out.ext x1 (by omega);have bU:=x1.size;have HF:=hid (qf (q':=fun b=>w.heap.size<=b) (aF.out.trans x1) (Nat.le_refl _) aQ m1 (fun b _ hb=>⟨by omega,by omega⟩));obtain ⟨⟨z0,z1,z2,z3⟩,zf⟩:=aQ;clear m1 x1 HN;unfold plV;go_wp2_with fail;exact bodyPost_ret (v:=plV X (.slice D0 dU dW) (.slice D1 X.cs.length dV)) (by simp [results,Tryz.results28,go_sem,z0,z1,z2,z3,plV]) rfl HF.out
theorem jan {L:List Pl} {E D:Nat} (h:∀ c ∈ L,Fit c E D):ww L<=D:=by
 induction L with
 | nil=>rw [ww]; exact Nat.zero_le _
 | cons c r ih =>
   have a:=ih fun d hd=>h d (by simp [hd])
   have b:=(h c (by simp)).dm;rw [ww];omega
theorem jbq {w:World} {q:Nat->Prop} {p:Pl} {l:Int} {E D:Nat} (v:Value) (hl:1<=l) (ag:l<=4) (hp:Fit p E D) (Px:E<=62) (hD:D<=1099511627776) (h:PlV w q p v):Calls Tryz.prog 55 #[v,.int .i64 l] w (uf (fun b=>w.heap.size<=b) (xab l p) w):=by
 have HP:=hid h;have rV:=hid hp;obtain ⟨A0,n0,c0,A,c,rfl,-⟩:=h.open_;obtain ⟨W,hW⟩:=n_m ((w.alloc (.cells #[.int .i64 p.lv,.bool p.neg,.slice A0 n0 c0,.slice A p.cs.length c] 35)).alloc (.cells #[.int .i64 0,.bool false,.slice none 0 0,.slice none 0 0] 35));have ai:Ext w W:=by rw [<- hW]; exact ((Ext.refl w).alloc _).alloc _
 have dE:W.heap.size=w.heap.size+1+1:=by rw [<- hW]; simp
 have hz:jf W (w.heap.size+1):=by
  have:=jf.new (w.alloc (.cells #[.int .i64 p.lv,.bool p.neg,.slice A0 n0 c0,.slice A p.cs.length c] 35)) 35;rw [hW] at this;simpa using this
 have bG:jb W w.heap.size p (.slice A0 n0 c0) (.slice A p.cs.length c):=by rw [<- hW]; exact (jb.new w p _ _ _).ext ((Ext.refl _).alloc _) (by simp)
 obtain ⟨b0,b1,b2,b3⟩:=bG;have fH:=hid (yaj _ hl ag hp (by omega) hD (HP.out.ext ai));have aF:=hid ai;have HZ:=hid hz;unfold plV at fH;unfold plV;obtain ⟨X,hX⟩:=n_m (xab l p);rw [hX];have oZ:=hid hX;clear h hp ai hz hX;go_enter Tryz.func55,Tryz.ntmps55;go_wp2_with fail;clear hW b0 b1 b2 b3;refine fH.out.mono ?_;rintro e w1 ⟨v1,rfl,⟨A1,k1,rfl,Eu,hk2,hR⟩,x1⟩;have aQ:=HZ.out.ext x1 (by omega);have bU:=x1.size
 by_cases ak:p.cfL l=[]
 · have hlen:(p.cfL l).length=0:=by rw [ak]; rfl
   have wU:xab l p=Pl.zero:=by
    unfold xab;rw [ak];exact Pl.val_uniq (uac _ _) Pl.zero_can fun ρ=>by rw [List.dropLast_nil,vac hl ag,Pl.zero_val]; rfl
   rw [hlen];have HF:=hid (uf.congr (oZ.out.symm.trans wU) <| qf (q:=fun _=>False) (q':=fun b=>w.heap.size<=b) (aF.out.trans x1) (Nat.le_succ _) aQ (Pl.zero_v w1 _ none 0 (by omega)) (fun b _ hb=>hb.elim));obtain ⟨⟨z0,z1,z2,z3⟩,zf⟩:=aQ;clear ak hlen wU x1 fH hR;go_wp2_with fail;exact bodyPost_ret (v:=plV Pl.zero (.slice none 0 0) (.slice none 0 0)) (by simp [results,Tryz.results55,go_sem,z0,z1,z2,z3,plV,Pl.zero,Pl.lv,Pl.neg,Pl.cs]) rfl HF.out
 · obtain ⟨R,rfl,mg,ae⟩:=hR ak;obtain ⟨m,hm⟩:∃ m,(p.cfL l).length=m+1:=⟨(p.cfL l).length - 1,by have:=List.length_pos_iff.2 ak; omega⟩;have Ya:=uu (l:=l) rV.out.can rV.out.ex;have nH:(p.cfL l).dropLast=(p.cfL l).take m:=by rw [List.dropLast_eq_take,hm,Nat.add_sub_cancel]
   have fC:∀ c ∈ (p.cfL l).take m,Fit c E D:=fun c hc=>Pl.cfL_fit rV.out c (List.mem_of_mem_take hc)
   have H5:((p.cfL l).take m).length=m:=by rw [List.length_take]; omega
   have HJ:=hid (kak (l:=l) (c:=k1) hl ag ((ae.take m).fin (by omega)) (by omega) hk2 (yar fC (by omega) Px) (by have:=jan fC; omega) (by
    have:=uay (l:=l) rV.out (by have:B32=4294967296:=rfl; omega);unfold xab at this;rw [nH] at this
    exact this.copy_ (by omega)))
   rw [H5] at HJ;have wI:Hid (X=joinL l ((p.cfL l).take m)):=hid (by rw [<- nH]; exact oZ.out.symm);rw [<- wI.out] at HJ;have QM:IntKind.i64.wrap (((m:Int)+1) - 1)=(m:Int):=by rw [IntKind.wrap_i64]; omega
   have uF:(((m:Int)+1) == 0)=false:=by simp; omega
   have OI:(m:Int)<=(k1:Int):=by omega
   have X1:=hid (aF.out.trans x1);have eY:=hid aQ;have su:w.heap.size+1 < w1.heap.size:=by omega
   rw [hm];clear ak hm nH fC H5 ae hR fH x1 aQ;go_wp2_with fail;refine HJ.out.mono ?_;rintro e w2 ⟨v2,rfl,m2,x2⟩;obtain ⟨D0,dU,dW,D1,dV,rfl,-⟩:=id m2.open_;have aQ:=eY.out.ext x2 su;have HF:=hid (qf (q':=fun b=>w.heap.size<=b) (X1.out.trans x2) (Nat.le_succ _) aQ m2 (fun b _ hb=>⟨by omega,by omega⟩));obtain ⟨⟨z0,z1,z2,z3⟩,zf⟩:=aQ;clear m2 x2 HJ;unfold plV;go_wp2_with fail;exact bodyPost_ret (v:=plV X (.slice D0 dU dW) (.slice D1 X.cs.length dV)) (by simp [results,Tryz.results55,go_sem,z0,z1,z2,z3,plV]) rfl HF.out
end Go.Proofs.YtklnlgnnlmdibaaGreat
