/- Layer 23: mainvar.Coefs. -/
import Derived.Test.YtcepajijiabkmaaGreatMvCfs
import Derived.Test.YtcepajijiabkmaaGreatMq29
set_option linter.unusedSimpArgs false
set_option linter.unusedVariables false
set_option maxRecDepth 100000
set_option maxHeartbeats 8000000
namespace Go.Proofs.YtcepajijiabkmaaGreat
open Lib (hid)
open Go.RowKit
def qae (W:World) (q:Nat->Prop) (v:Value) (L:List Pl):Prop:=∃ A c,v=.slice A L.length c/\L.length<=c/\c<=9223372036854775807/\(L ≠ []->∃ R,A=some ⟨R,0,none⟩/\q R/\zi W q R L)
theorem qae.mono {W:World} {q q':Nat->Prop} {v:Value} {L:List Pl} (h:qae W q v L) (hq:∀ b,q b->q' b):qae W q' v L:=by
 obtain ⟨A,c,e,h1,h2,h3⟩:=h;exact ⟨A,c,e,h1,h2,fun hn=>by obtain ⟨R,e,h4,h5⟩:=h3 hn; exact ⟨R,e,hq R h4,h5.mono hq⟩⟩
theorem qae.at_ {W:World} {q:Nat->Prop} {v:Value} {L:List Pl} (h:qae W q v L):∃ A c,v=.slice A L.length c/\L.length<=c/\c<=9223372036854775807/\jd W q L A 0:=by
 obtain ⟨A,c,e,h1,h2,h3⟩:=h;refine ⟨A,c,e,h1,h2,?_⟩
 by_cases hn:L=[]
 · subst hn; unfold jd; trivial
 · obtain ⟨R,rfl,h4,h5⟩:=h3 hn;exact h5.fin h4
def qau (q:Nat->Prop) (L:List Pl) (w:World) (e:Ending) (w':World):Prop:=∃ v,e=.returned v/\qae w' q v L/\Ext w w'
theorem Fit.copy_ {p:Pl} {E D:Nat} (h:Fit p E D) (hE:E<=170):p.sz<=1099511627776:=by have:=h.small hE; omega
def CoL (n k:Nat) (raw L:List Pl):Prop:=L.length=n+1/\∀ j (h:j < L.length),L[j]=if j < k then (raw.getD j Pl.zero).nf else raw.getD j Pl.zero
theorem uai {w:World} {q:Nat->Prop} {p:Pl} {l:Int} {E D:Nat} (v:Value) (hl:1<=l) (aj:l<=4) (hp:Fit p E D) (hE:E<=170) (hD:D<=1099511627776) (h:PlV w q p v):Calls Tryz.prog 137 #[v,.int .i64 l] w (qau (fun b=>w.heap.size<=b) (p.cfL l) w):=by
 have HP:=hid h;obtain ⟨A0,n0,c0,A,c,rfl,-⟩:=h.open_;obtain ⟨W,hW⟩:=n_m (w.alloc (.cells #[.int .i64 p.lv,.bool p.neg,.slice A0 n0 c0,.slice A p.cs.length c] 33));have ag:Ext w W:=by rw [<- hW]; exact (Ext.refl w).alloc _
 have Js:PBx W (fun _=>True) w.heap.size p:=by rw [<- hW]; exact PBx.new (h.mono fun _ _=>trivial) _
 have HC:=hid hp;have HN:=hid (wad _ (HP.out.ext ag) hp.can (hp.copy_ hE) (by have:=hp.dm; omega));have aB:=hid ag;have nU:Hid (W.heap.size=w.heap.size+1):=hid (by rw [<- hW]; simp);have fO:=hid Js;have NT:=ag.size;obtain ⟨-,-,B0,Zp,Zq,B1,Zo,⟨b0,b1,b2,b3⟩,-⟩:=id Js;have hE:W.cell? ⟨w.heap.size,0,none⟩=some (.int .i64 p.lv)/\W.cell? ⟨w.heap.size,1,none⟩=some (.bool p.neg)/\W.cell? ⟨w.heap.size,2,none⟩=some (.slice A0 n0 c0)/\W.cell? ⟨w.heap.size,3,none⟩=some (.slice A p.cs.length c):=by
  rw [<- hW]; exact ⟨by simp [go_sem],by simp [go_sem],by simp [go_sem],by simp [go_sem]⟩
 clear b0 b1 b2 b3 h hp Js ag;obtain ⟨b0,b1,b2,b3⟩:=hE;unfold plV at HN;unfold plV;go_enter Tryz.func137,Tryz.ntmps137;go_wp2_with fail;clear hW b0 b1 b2 b3;refine HN.out.mono ?_;rintro e w1 ⟨v1,rfl,m1,x1⟩;obtain ⟨C0,j0,f0,C1,f1,rfl,-⟩:=id m1.open_;have AZ:=fO.out.ext x1;obtain ⟨-,bu,B0,Zp,Zq,B1,Zo,⟨b0,b1,b2,b3⟩,-⟩:=id AZ;have hsW:w.heap.size < W.heap.size:=fO.out.1;have uX:=AZ.store (Q':=fun _=>True) (m1.mono fun b hb=>⟨trivial,by omega⟩);obtain ⟨W1,aP⟩:=n_m (((((w1.setCell ⟨w.heap.size,0,none⟩ (.int .i64 p.lv)).setCell ⟨w.heap.size,1,none⟩ (.bool p.neg)).setCell ⟨w.heap.size,2,none⟩ (.slice C0 j0 f0)).setCell ⟨w.heap.size,3,none⟩ (.slice C1 p.cs.length f1)));have X1:Hid (Ext w W1):=hid (by rw [<- aP]; exact ((((aB.out.trans x1).setCell (Nat.le_refl _) _).setCell (Nat.le_refl _) _).setCell (Nat.le_refl _) _).setCell (Nat.le_refl _) _);rw [aP] at uX;have wG:=hid uX;have Ci:=bu 0;have f1':=bu 1;have f2':=bu 2;have f3':=bu 3;have hd:W1.cell? ⟨w.heap.size,0,none⟩=some (.int .i64 p.lv)/\W1.cell? ⟨w.heap.size,1,none⟩=some (.bool p.neg)/\W1.cell? ⟨w.heap.size,2,none⟩=some (.slice C0 j0 f0)/\W1.cell? ⟨w.heap.size,3,none⟩=some (.slice C1 p.cs.length f1):=by
  rw [<- aP]; exact jc.set (fO.out.ext x1).2.2.choose_spec.choose_spec.choose_spec.choose_spec.choose_spec.1
 have jP:Hid (PlV W1 (fun b=>W.heap.size<=b) p (plV p (.slice C0 j0 f0) (.slice C1 p.cs.length f1))):=hid (by rw [<- aP]; exact AZ.stays m1 (fun b hb=>by omega) _ _ _ _ _ _ _ _);have HD:Hid (∀ W',Ext W1 W'->W'.cell? ⟨w.heap.size,0,none⟩=some (.int .i64 p.lv)/\W'.cell? ⟨w.heap.size,1,none⟩=some (.bool p.neg)/\W'.cell? ⟨w.heap.size,2,none⟩=some (.slice C0 j0 f0)/\W'.cell? ⟨w.heap.size,3,none⟩=some (.slice C1 p.cs.length f1)):=hid (fun W' hx=>by
  have k:∀ i,W'.cell? ⟨w.heap.size,i,none⟩=W1.cell? ⟨w.heap.size,i,none⟩:=fun i=>hx.cell (p:=⟨w.heap.size,i,none⟩) wG.out.1
  exact ⟨(k 0).trans hd.1,(k 1).trans hd.2.1,(k 2).trans hd.2.2.1,(k 3).trans hd.2.2.2⟩)
 have kD:=hid (gai _ jP.out HC.out.can);unfold plV at kD;unfold plV;clear AZ uX bu m1 x1 HN;go_upto_region 2 with fail
 try rw [aP]
 clear aP b0 b1 b2 b3 Ci f1' f2' f3';obtain ⟨b0,b1,b2,b3⟩:=hd;go_wp2_with fail;clear b0 b1 b2 b3;refine kD.out.mono ?_;rintro e w2 ⟨rfl,x2⟩
 by_cases hz:p.isZ=true
 · have mP:p.cfL l=[]:=by rw [Pl.cfL,if_pos hz]
   rw [hz];have X2:=hid (X1.out.trans x2);have Kr:=hid mP;clear x2 kD hz mP;go_wp2_with fail;go_ret;rw [Kr.out];exact ⟨_,rfl,⟨none,0,rfl,by simp,by omega,fun h=>absurd rfl h⟩,X2.out⟩
 · rw [show p.isZ=false by simpa using hz];have X2:=hid (X1.out.trans x2);have Jw:=hid x2;have hdb:=Pl.dgL_bd hl p HC.out.can HC.out.ex;obtain ⟨n,uQ⟩:∃ n:Nat,p.dgL l=n:=⟨(p.dgL l).toNat,by omega⟩;have hnE:n<=170:=by omega
   have mP:p.cfL l=(p.cfs l n).map Pl.nf:=by rw [Pl.cfL_of hl aj HC.out.can (fun e=>hz ((Pl.zero_isZ HC.out.can).2 e)),uQ]; rfl
   have Kr:=hid mP;have ZN:Hid (∀ j,j < n+1->((p.cfs l n).getD j Pl.zero).sz<=1073741824/\((p.cfs l n).getD j Pl.zero).dm<=1099511627776/\((p.cfs l n).getD j Pl.zero).nf.sz<=1099511627776):=hid (fun j hj=>by
    obtain ⟨h1,h2⟩:=Pl.cfs_raw (l:=l) (n:=n) p j (by omega);obtain ⟨h3,h4⟩:=Pl.cfs_fit (l:=l) (n:=n) p HC.out.can HC.out.ex j (by omega);have h5:=HC.out.small hE;have h6:=HC.out.dm;have h7:Fit ((p.cfs l n).getD j Pl.zero).nf E D:=⟨Pl.nf_can _,h3,Nat.lt_of_le_of_lt h4 HC.out.nr⟩
    exact ⟨by omega,by omega,h7.copy_ hE⟩)
   have lV:=hid (fun (W':World) (hx:Ext W1 W')=>wbx hl p _ HC.out.can (HC.out.copy_ hE) (jP.out.ext hx));rw [uQ] at lV;have lI:=hid (fun (W':World) (hx:Ext W1 W')=>xc3 hl n (by omega) p _ HC.out.can (HC.out.copy_ hE) (Int.le_of_eq uQ) (jP.out.ext hx));unfold plV at lV lI;clear x2 kD hz uQ mP hdb;go_wp2_with fail;refine (qam l _).mono ?_;rintro e w3 ⟨rfl,rfl⟩;rw [show (decide (1<=l) && decide (l<=4))=true by simp [hl,aj]];have aN:Hid (∀ W',Ext W1 W'->(Ext W1 W'/\W'.cell? ⟨w.heap.size,0,none⟩=some (.int .i64 p.lv)/\W'.cell? ⟨w.heap.size,1,none⟩=some (.bool p.neg)/\W'.cell? ⟨w.heap.size,2,none⟩=some (.slice C0 j0 f0)/\W'.cell? ⟨w.heap.size,3,none⟩=some (.slice C1 p.cs.length f1))):=hid (fun W' hx=>⟨hx,HD.out W' hx⟩);have Y0:=hid (Jw.out.drew);go_upto_region 6 with fail
   go_region_held3 (fun W' => Ext W1 W' /\ W'.cell? ⟨w.heap.size, 0, none⟩ = some (.int .i64 p.lv) /\ W'.cell? ⟨w.heap.size, 1, none⟩ = some (.bool p.neg) /\ W'.cell? ⟨w.heap.size, 2, none⟩ = some (.slice C0 j0 f0) /\ W'.cell? ⟨w.heap.size, 3, none⟩ = some (.slice C1 p.cs.length f1))
    (first | with_reducible exact aN.out _ Y0.out | with_reducible exact aN.out _ z1 | with_reducible exact aN.out _ z2)
    (first
      | (go_at_call 136
         refine (lV.out _ Y0.out).mono ?_;rintro e w4 ⟨rfl,y4⟩
         have z1:Ext W1 w4:=Y0.out.trans y4)
      | (go_at_call 152
         refine (lI.out _ z1).mono ?_;rintro e w5 ⟨R,rfl,hR,ae,y5⟩;rw [Pl.cfs_len]
         have z2:Ext W1 w5:=z1.trans y5))
   all_goals
    have X5:=hid (X1.out.trans z2);have TS:=(X1.out.trans z1).size;have bW:=X1.out.size;have bY:W.heap.size=w.heap.size+1:=nU.out;have eF:zi w5 (fun b=>w.heap.size<=b) R (p.cfs l n):=ae.mono fun b hb=>by
     rcases hb with hb | hb <;> omega
    have tq:w.heap.size<=R:=by omega
    have ZK:Hid (∃ L,CoL n 0 (p.cfs l n) L/\zi w5 (fun b=>w.heap.size<=b) R L):=hid ⟨p.cfs l n,⟨Pl.cfs_len l n p,fun j hj=>by rw [if_neg (by omega),List.getD_eq_getElem?_getD,List.getElem?_eq_getElem hj]; rfl⟩,eF⟩;clear ae eF y4 y5 z1 z2 lI lV aN hR;go_wp2_with fail
    go_loopw [26] (fun iv wr=>∃ k:Nat,k<=n+1/\iv=.int .i64 k/\Hid (Ext w wr/\∃ L,CoL n k (p.cfs l n) L/\zi wr (fun b=>w.heap.size<=b) R L)) (fun iv _=>n+1 - (intOf iv).toNat)
    case atStart=>exact ⟨0,Nat.zero_le _,rfl,hid ⟨X5.out,ZK.out⟩⟩
    case round =>
     obtain ⟨k,hk,rfl,HI⟩:=hrel
     by_cases af:k < n+1
     · obtain ⟨Ns,L,hL,lq⟩:=HI.out;have Ll:k < L.length:=by rw [hL.1]; exact af
       obtain ⟨D0,gX,gZ,D1,kN,gY,⟨r0,r1,r2,r3⟩,sF⟩:=lq.2.2 k Ll;have UD:=hL.2 k Ll;rw [if_neg (Nat.lt_irrefl k)] at UD;obtain ⟨pJ,zO,H8⟩:=ZN.out k af;rw [<- UD] at pJ zO H8;have ZZ:=hid (fun (W':World) (hx:Ext wr W')=>uaw L[k] _ (sF.ext hx) pJ H8 zO);have xX:=hid lq;have rG:=hid Ns;have GI:=hid hL;have Sl:=hid UD;generalize L[k]=x at *;unfold plV at ZZ;have Xl:(k:Int) < (n:Int)+1:=by omega
       clear Ns hL lq sF UD pJ zO H8 HI;go_wp2_with fail;clear r0 r1 r2 r3;refine (ZZ.out _ (Ext.refl wr)).mono ?_;rintro e w6 ⟨v6,rfl,m6,x6⟩;obtain ⟨G0,g0n,g0c,G1,g1c,rfl,-⟩:=id m6.open_;have dA:=xX.out.ext x6;have hRr:R < wr.heap.size:=xX.out.1;obtain ⟨I0,i0n,i0c,I1,i1n,i1c,⟨r0,r1,r2,r3⟩,-⟩:=dA.2.2 k Ll;have bu:=dA.2.1;have Ci:=bu (k * 4);have f1':=bu (k * 4+1);have f2':=bu (k * 4+2);have f3':=bu (k * 4+3);have dF:=(dA.set_ k Ll x.nf (m6.mono fun b hb=>⟨by omega,by omega⟩)).1;have aA:=(((((rG.out.trans x6).setCell tq (p:=⟨R,k * 4,none⟩) (.int .i64 x.nf.lv)).setCell tq (p:=⟨R,k * 4+1,none⟩) (.bool x.nf.neg)).setCell tq (p:=⟨R,k * 4+2,none⟩) (.slice G0 g0n g0c)).setCell tq (p:=⟨R,k * 4+3,none⟩) (.slice G1 x.nf.cs.length g1c));have hCo:CoL n (k+1) (p.cfs l n) (L.set k x.nf):=by
        refine ⟨by rw [List.length_set]; exact GI.out.1,fun j hj=>?_⟩;rw [List.length_set] at hj
        by_cases jM:j=k
        · subst jM;rw [List.getElem_set_self,if_pos (Nat.lt_succ_self _),Sl.out]
        · rw [List.getElem_set_ne (Ne.symm jM),GI.out.2 j hj]
          by_cases lQ:j < k
          · rw [if_pos lQ,if_pos (by omega)]
          · rw [if_neg lQ,if_neg (by omega)]
       have rJ:=hid (And.intro aA (⟨_,hCo,dF⟩:∃ L,CoL n (k+1) (p.cfs l n) L/\zi _ (fun b=>w.heap.size<=b) R L));clear dA dF aA hCo bu m6 x6 ZZ GI Sl xX rG;unfold plV;go_wp2_with fail
       go_roundw
       case rel=>exact ⟨k+1,by omega,by go_num,rJ⟩
       case measure=>simp only [intOf]; omega
     · have bV:k=n+1:=by omega
       obtain ⟨Ns,L,hL,lq⟩:=HI.out;have oZ:L=p.cfL l:=by
        rw [Kr.out];refine List.ext_getElem (by rw [hL.1,List.length_map,Pl.cfs_len]) fun j h1 h2=>?_
        rw [hL.2 j h1,if_pos (by have:=hL.1; omega),List.getElem_map,List.getD_eq_getElem?_getD,List.getElem?_eq_getElem (by rw [List.length_map] at h2; exact h2)]
        rfl
       rw [oZ] at lq;have bD:Hid (qau (fun b=>w.heap.size<=b) (p.cfL l) w (.returned (.slice (some ⟨R,0,none⟩) (n+1) (n+1))) wr):=hid ⟨_,rfl,⟨_,_,by rw [Kr.out,List.length_map,Pl.cfs_len],by rw [Kr.out,List.length_map,Pl.cfs_len]; exact Nat.le_refl _,by omega,fun _=>⟨R,rfl,tq,lq⟩⟩,Ns⟩;clear Ns hL lq oZ HI bV;go_wp2_with fail;go_ret;exact bD.out
theorem xa5 {w:World} {q:Nat->Prop} {p:Pl} {l:Int} {E D:Nat} (v:Value) (hl:1<=l) (aj:l<=4) (hp:Fit p E D) (hE:E<=170) (hD:D<=1099511627776) (h:PlV w q p v):Calls Tryz.prog 111 #[v,.int .i64 l] w (zg (fun b=>w.heap.size<=b) (wu l p) w):=by
 have HP:=hid h;have o9:=hid hp;obtain ⟨A0,n0,c0,A,c,rfl,-⟩:=h.open_;obtain ⟨W,hW⟩:=n_m ((w.alloc (.cells #[.int .i64 p.lv,.bool p.neg,.slice A0 n0 c0,.slice A p.cs.length c] 33)).alloc (.cells #[.int .i64 0,.bool false,.slice none 0 0,.slice none 0 0] 33));have ag:Ext w W:=by rw [<- hW]; exact ((Ext.refl w).alloc _).alloc _
 have bY:W.heap.size=w.heap.size+1+1:=by rw [<- hW]; simp
 have hz:uf W (w.heap.size+1):=by
  have:=uf.new (w.alloc (.cells #[.int .i64 p.lv,.bool p.neg,.slice A0 n0 c0,.slice A p.cs.length c] 33)) 33;rw [hW] at this;simpa using this
 have bJ:jc W w.heap.size p (.slice A0 n0 c0) (.slice A p.cs.length c):=by rw [<- hW]; exact (jc.new w p _ _ _).ext ((Ext.refl _).alloc _) (by simp)
 obtain ⟨b0,b1,b2,b3⟩:=bJ;have eP:=hid (uai _ hl aj hp hE hD (HP.out.ext ag));have aB:=hid ag;have HZ:=hid hz;unfold plV at eP;unfold plV;obtain ⟨X,hX⟩:=n_m (wu l p);rw [hX];have o7:=hid hX;clear h hp ag hz hX;go_enter Tryz.func111,Tryz.ntmps111;go_wp2_with fail;clear hW b0 b1 b2 b3;refine eP.out.mono ?_;rintro e w1 ⟨v1,rfl,⟨A1,k1,rfl,xA,hk2,hR⟩,x1⟩;have aX:=HZ.out.ext x1 (by omega);have bW:=x1.size
 by_cases au:p.cfL l=[]
 · have hlen:(p.cfL l).length=0:=by rw [au]; rfl
   have uA:wu l p=Pl.zero:=by unfold wu; rw [au]; rfl
   rw [hlen];have HF:=hid (zg.congr (o7.out.symm.trans uA) <| jg (q:=fun _=>False) (q':=fun b=>w.heap.size<=b) (aB.out.trans x1) (Nat.le_succ _) aX (Pl.zero_v w1 _ none 0 (by omega)) (fun b _ hb=>hb.elim));obtain ⟨⟨z0,z1,z2,z3⟩,zf⟩:=aX;clear au hlen uA x1 eP hR;go_wp2_with fail;exact bodyPost_ret (v:=plV Pl.zero (.slice none 0 0) (.slice none 0 0)) (by simp [results,Tryz.results111,go_sem,z0,z1,z2,z3,plV,Pl.zero,Pl.lv,Pl.neg,Pl.cs]) rfl HF.out
 · obtain ⟨R,rfl,tq,ae⟩:=hR au;obtain ⟨m,hm⟩:∃ m,(p.cfL l).length=m+1:=⟨(p.cfL l).length - 1,by have:=List.length_pos_iff.2 au; omega⟩;have Ud:=jaa (l:=l) o9.out.can o9.out.ex;have jY:m < (p.cfL l).length:=by omega
   obtain ⟨D0,gX,gZ,D1,kN,gY,⟨r0,r1,r2,r3⟩,sF⟩:=ae.2.2 m jY;have yN:wu l p=(p.cfL l)[m]:=by
    unfold wu;rw [hm,Nat.add_sub_cancel,List.getD_eq_getElem?_getD,List.getElem?_eq_getElem jY]; rfl
   have VV:IntKind.i64.wrap (((m:Int)+1) - 1)=(m:Int):=by rw [IntKind.wrap_i64]; omega
   have hm0:(((m:Int)+1) == 0)=false:=by simp; omega
   rw [hm];have HF:=hid (zg.congr (o7.out.symm.trans yN) <| jg (q':=fun b=>w.heap.size<=b) (aB.out.trans x1) (Nat.le_succ _) aX sF (fun b _ hb=>⟨by omega,by omega⟩));obtain ⟨⟨z0,z1,z2,z3⟩,zf⟩:=aX;generalize (p.cfL l)[m]=x at *;clear au hm yN x1 eP hR ae sF;go_wp2_with fail;exact bodyPost_ret (v:=plV x (.slice D0 gX gZ) (.slice D1 kN gY)) (by simp [results,Tryz.results111,go_sem,z0,z1,z2,z3,plV]) rfl HF.out
theorem qbm {w:World} {q:Nat->Prop} {p:Pl} {l k:Int} {E D:Nat} (v:Value) (xA:-9223372036854775808<=k) (hk2:k<=9223372036854775807) (hl:1<=l) (aj:l<=4) (hp:Fit p E D) (hE:E<=170) (hD:D<=1099511627776) (h:PlV w q p v):Calls Tryz.prog 114 #[v,.int .i64 l,.int .i64 k] w (zg (fun b=>w.heap.size<=b) (ji l k p) w):=by
 have HP:=hid h;have o9:=hid hp;obtain ⟨A0,n0,c0,A,c,rfl,-⟩:=h.open_;obtain ⟨W,hW⟩:=n_m ((w.alloc (.cells #[.int .i64 p.lv,.bool p.neg,.slice A0 n0 c0,.slice A p.cs.length c] 33)).alloc (.cells #[.int .i64 0,.bool false,.slice none 0 0,.slice none 0 0] 33));have ag:Ext w W:=by rw [<- hW]; exact ((Ext.refl w).alloc _).alloc _
 have bY:W.heap.size=w.heap.size+1+1:=by rw [<- hW]; simp
 have hz:uf W (w.heap.size+1):=by
  have:=uf.new (w.alloc (.cells #[.int .i64 p.lv,.bool p.neg,.slice A0 n0 c0,.slice A p.cs.length c] 33)) 33;rw [hW] at this;simpa using this
 have bJ:jc W w.heap.size p (.slice A0 n0 c0) (.slice A p.cs.length c):=by rw [<- hW]; exact (jc.new w p _ _ _).ext ((Ext.refl _).alloc _) (by simp)
 obtain ⟨b0,b1,b2,b3⟩:=bJ;have eP:=hid (uai _ hl aj hp hE hD (HP.out.ext ag));have aB:=hid ag;have HZ:=hid hz;unfold plV at eP;unfold plV;obtain ⟨X,hX⟩:=n_m (ji l k p);rw [hX];have o7:=hid hX;clear h hp ag hz hX;go_enter Tryz.func114,Tryz.ntmps114;go_wp2_with fail;clear hW b0 b1 b2 b3;refine eP.out.mono ?_;rintro e w1 ⟨v1,rfl,⟨A1,k1,rfl,xA,hk2,hR⟩,x1⟩;have aX:=HZ.out.ext x1 (by omega);have bW:=x1.size
 by_cases oJ:k < 0
 · have uA:ji l k p=Pl.zero:=by unfold ji; rw [if_pos oJ]
   have HF:=hid (zg.congr (o7.out.symm.trans uA) <| jg (q:=fun _=>False) (q':=fun b=>w.heap.size<=b) (aB.out.trans x1) (Nat.le_succ _) aX (Pl.zero_v w1 _ none 0 (by omega)) (fun b _ hb=>hb.elim));obtain ⟨⟨z0,z1,z2,z3⟩,zf⟩:=aX;clear uA x1 eP hR;go_wp2_with fail;exact bodyPost_ret (v:=plV Pl.zero (.slice none 0 0) (.slice none 0 0)) (by simp [results,Tryz.results114,go_sem,z0,z1,z2,z3,plV,Pl.zero,Pl.lv,Pl.neg,Pl.cs]) rfl HF.out
 by_cases Xl:((p.cfL l).length:Int)<=k
 · have uA:ji l k p=Pl.zero:=by
    unfold ji;rw [if_neg oJ,List.getD_eq_getElem?_getD,List.getElem?_eq_none (by omega)]; rfl
   have Ud:=jaa (l:=l) o9.out.can o9.out.ex;generalize (p.cfL l).length=m at *;have HF:=hid (zg.congr (o7.out.symm.trans uA) <| jg (q:=fun _=>False) (q':=fun b=>w.heap.size<=b) (aB.out.trans x1) (Nat.le_succ _) aX (Pl.zero_v w1 _ none 0 (by omega)) (fun b _ hb=>hb.elim));obtain ⟨⟨z0,z1,z2,z3⟩,zf⟩:=aX;clear uA x1 eP hR;go_wp2_with fail;exact bodyPost_ret (v:=plV Pl.zero (.slice none 0 0) (.slice none 0 0)) (by simp [results,Tryz.results114,go_sem,z0,z1,z2,z3,plV,Pl.zero,Pl.lv,Pl.neg,Pl.cs]) rfl HF.out
 · obtain ⟨R,rfl,tq,ae⟩:=hR (by intro e; rw [e] at Xl; simp at Xl; omega);have Ud:=jaa (l:=l) o9.out.can o9.out.ex;obtain ⟨m,rfl⟩:∃ m:Nat,k=m:=⟨k.toNat,by omega⟩;have jY:m < (p.cfL l).length:=by omega
   obtain ⟨D0,gX,gZ,D1,kN,gY,⟨r0,r1,r2,r3⟩,sF⟩:=ae.2.2 m jY;have yN:ji l m p=(p.cfL l)[m]:=by
    unfold ji;rw [if_neg oJ,Int.toNat_natCast,List.getD_eq_getElem?_getD,List.getElem?_eq_getElem jY]; rfl
   have HF:=hid (zg.congr (o7.out.symm.trans yN) <| jg (q':=fun b=>w.heap.size<=b) (aB.out.trans x1) (Nat.le_succ _) aX sF (fun b _ hb=>⟨by omega,by omega⟩));obtain ⟨⟨z0,z1,z2,z3⟩,zf⟩:=aX;generalize (p.cfL l)[m]=x at *;clear yN x1 eP hR ae sF;go_wp2_with fail;exact bodyPost_ret (v:=plV x (.slice D0 gX gZ) (.slice D1 kN gY)) (by simp [results,Tryz.results114,go_sem,z0,z1,z2,z3,plV]) rfl HF.out
theorem za7 {L:List Pl} {E D:Nat} (h:∀ c ∈ L,Fit c E D) (hl:L.length<=E+1) (hE:E<=62):xk L<=1073741823:=by
 have h1:∀ L:List Pl,(∀ c ∈ L,Fit c E D)->xk L<=L.length * (E+2) ^ 4:=fun L=>by
  induction L with
  | nil=>intro _; rw [xk]; exact Nat.zero_le _
  | cons c r ih =>
    intro h;have a:=ih fun d hd=>h d (by simp [hd])
    have b:=(h c (by simp)).sz;rw [xk,List.length_cons,Nat.succ_mul];omega
 have h2:(E+2) ^ 4<=64 ^ 4:=Nat.pow_le_pow_left (by omega) 4;have h3:L.length * (E+2) ^ 4<=63 * 64 ^ 4:=Nat.mul_le_mul (by omega) h2;have h4:63 * 64 ^ 4<=1073741823:=by decide
 have:=h1 L h;omega
theorem zi.take {W:World} {q:Nat->Prop} {R:Nat} {l:List Pl} (h:zi W q R l) (m:Nat):zi W q R (l.take m):=by
 obtain ⟨h1,h2,h3⟩:=h;refine ⟨h1,h2,fun i hi=>?_⟩;rw [List.length_take] at hi;rw [List.getElem_take];exact h3 i (by omega)
theorem kav {w:World} {q:Nat->Prop} {L:List Pl} {l:Int} {A:Option Addr} {c:Nat} (hl:1<=l) (aj:l<=4) (hA:jd w q L A 0) (hc:L.length<=c) (dw:c<=9223372036854775807) (hsz:xk L<=1073741823) (fG:qx L<=1099511627776) (yM:(joinL l L).sz<=1099511627776) :
 Calls Tryz.prog 13 #[.slice A L.length c,.int .i64 l] w (zg (fun b=>w.heap.size<=b) (joinL l L) w):=by
 obtain ⟨W,hW⟩:=n_m (w.alloc (.cells #[.int .i64 0,.bool false,.slice none 0 0,.slice none 0 0] 33));have ag:Ext w W:=by rw [<- hW]; exact (Ext.refl w).alloc _
 have bY:W.heap.size=w.heap.size+1:=by rw [<- hW]; simp
 have hz:uf W w.heap.size:=by rw [<- hW]; exact uf.new w _
 have hj:joinL l L=(Pl.mk l false [] L).nf:=by unfold joinL; rw [if_pos ⟨hl,aj⟩]
 have HN:=hid (uaw (Pl.mk l false [] L) (plV (.mk l false [] L) (.slice none 0 0) (.slice A L.length c)) (PlV.mk (t:=.mk l false [] L) (jb.nil W) hc dw (hA.ext ag)) (by rw [Pl.sz]; omega) (by rw [<- hj]; exact yM) (by rw [Pl.dm]; simp only [List.length_nil]; omega));rw [<- hj] at HN;unfold plV at HN;simp only [Pl.lv,Pl.neg] at HN;have aB:=hid ag;have HZ:=hid hz;generalize joinL l L=X at *;clear hz ag hA hj hsz fG yM;go_enter Tryz.func13,Tryz.ntmps13;go_wp2_with fail
 try rw [hW]
 refine (qam l _).mono ?_;rintro e w0 ⟨rfl,rfl⟩;rw [show (decide (1<=l) && decide (l<=4))=true by simp [hl,aj]];go_wp2_with fail;clear hW;refine HN.out.mono ?_;rintro e w1 ⟨v1,rfl,m1,x1⟩;obtain ⟨D0,gX,gZ,D1,gY,rfl,-⟩:=id m1.open_;have aX:=HZ.out.ext x1 (by omega);have bW:=x1.size;have HF:=hid (jg (q':=fun b=>w.heap.size<=b) (aB.out.trans x1) (Nat.le_refl _) aX m1 (fun b _ hb=>⟨by omega,by omega⟩));obtain ⟨⟨z0,z1,z2,z3⟩,zf⟩:=aX;clear m1 x1 HN;unfold plV;go_wp2_with fail;exact bodyPost_ret (v:=plV X (.slice D0 gX gZ) (.slice D1 X.cs.length gY)) (by simp [results,Tryz.results13,go_sem,z0,z1,z2,z3,plV]) rfl HF.out
theorem ka0 {L:List Pl} {E D:Nat} (h:∀ c ∈ L,Fit c E D):qx L<=D:=by
 induction L with
 | nil=>rw [qx]; exact Nat.zero_le _
 | cons c r ih =>
   have a:=ih fun d hd=>h d (by simp [hd])
   have b:=(h c (by simp)).dm;rw [qx];omega
theorem xct {w:World} {q:Nat->Prop} {p:Pl} {l:Int} {E D:Nat} (v:Value) (hl:1<=l) (aj:l<=4) (hp:Fit p E D) (LU:E<=62) (hD:D<=1099511627776) (h:PlV w q p v):Calls Tryz.prog 110 #[v,.int .i64 l] w (zg (fun b=>w.heap.size<=b) (kag l p) w):=by
 have HP:=hid h;have o9:=hid hp;obtain ⟨A0,n0,c0,A,c,rfl,-⟩:=h.open_;obtain ⟨W,hW⟩:=n_m ((w.alloc (.cells #[.int .i64 p.lv,.bool p.neg,.slice A0 n0 c0,.slice A p.cs.length c] 33)).alloc (.cells #[.int .i64 0,.bool false,.slice none 0 0,.slice none 0 0] 33));have ag:Ext w W:=by rw [<- hW]; exact ((Ext.refl w).alloc _).alloc _
 have bY:W.heap.size=w.heap.size+1+1:=by rw [<- hW]; simp
 have hz:uf W (w.heap.size+1):=by
  have:=uf.new (w.alloc (.cells #[.int .i64 p.lv,.bool p.neg,.slice A0 n0 c0,.slice A p.cs.length c] 33)) 33;rw [hW] at this;simpa using this
 have bJ:jc W w.heap.size p (.slice A0 n0 c0) (.slice A p.cs.length c):=by rw [<- hW]; exact (jc.new w p _ _ _).ext ((Ext.refl _).alloc _) (by simp)
 obtain ⟨b0,b1,b2,b3⟩:=bJ;have eP:=hid (uai _ hl aj hp (by omega) hD (HP.out.ext ag));have aB:=hid ag;have HZ:=hid hz;unfold plV at eP;unfold plV;obtain ⟨X,hX⟩:=n_m (kag l p);rw [hX];have o7:=hid hX;clear h hp ag hz hX;go_enter Tryz.func110,Tryz.ntmps110;go_wp2_with fail;clear hW b0 b1 b2 b3;refine eP.out.mono ?_;rintro e w1 ⟨v1,rfl,⟨A1,k1,rfl,xA,hk2,hR⟩,x1⟩;have aX:=HZ.out.ext x1 (by omega);have bW:=x1.size
 by_cases au:p.cfL l=[]
 · have hlen:(p.cfL l).length=0:=by rw [au]; rfl
   have uA:kag l p=Pl.zero:=by
    unfold kag;rw [au];exact Pl.val_uniq (jad _ _) Pl.zero_can fun ρ=>by rw [List.dropLast_nil,jac hl aj,Pl.zero_val]; rfl
   rw [hlen];have HF:=hid (zg.congr (o7.out.symm.trans uA) <| jg (q:=fun _=>False) (q':=fun b=>w.heap.size<=b) (aB.out.trans x1) (Nat.le_succ _) aX (Pl.zero_v w1 _ none 0 (by omega)) (fun b _ hb=>hb.elim));obtain ⟨⟨z0,z1,z2,z3⟩,zf⟩:=aX;clear au hlen uA x1 eP hR;go_wp2_with fail;exact bodyPost_ret (v:=plV Pl.zero (.slice none 0 0) (.slice none 0 0)) (by simp [results,Tryz.results110,go_sem,z0,z1,z2,z3,plV,Pl.zero,Pl.lv,Pl.neg,Pl.cs]) rfl HF.out
 · obtain ⟨R,rfl,tq,ae⟩:=hR au;obtain ⟨m,hm⟩:∃ m,(p.cfL l).length=m+1:=⟨(p.cfL l).length - 1,by have:=List.length_pos_iff.2 au; omega⟩;have Ud:=jaa (l:=l) o9.out.can o9.out.ex;have nP:(p.cfL l).dropLast=(p.cfL l).take m:=by rw [List.dropLast_eq_take,hm,Nat.add_sub_cancel]
   have qK:∀ c ∈ (p.cfL l).take m,Fit c E D:=fun c hc=>Pl.cfL_fit o9.out c (List.mem_of_mem_take hc)
   have EJ:((p.cfL l).take m).length=m:=by rw [List.length_take]; omega
   have HJ:=hid (kav (l:=l) (c:=k1) hl aj ((ae.take m).fin (by omega)) (by omega) hk2 (za7 qK (by omega) LU) (by have:=ka0 qK; omega) (by
    have:=gbb (l:=l) o9.out (by have:B32=4294967296:=rfl; omega);unfold kag at this;rw [nP] at this
    exact this.copy_ (by omega)))
   rw [EJ] at HJ;have yT:Hid (X=joinL l ((p.cfL l).take m)):=hid (by rw [<- nP]; exact o7.out.symm);rw [<- yT.out] at HJ;have VV:IntKind.i64.wrap (((m:Int)+1) - 1)=(m:Int):=by rw [IntKind.wrap_i64]; omega
   have hm0:(((m:Int)+1) == 0)=false:=by simp; omega
   have Le:(m:Int)<=(k1:Int):=by omega
   have X1:=hid (aB.out.trans x1);have eU:=hid aX;have pJ:w.heap.size+1 < w1.heap.size:=by omega
   rw [hm];clear au hm nP qK EJ ae hR eP x1 aX;go_wp2_with fail;refine HJ.out.mono ?_;rintro e w2 ⟨v2,rfl,m2,x2⟩;obtain ⟨D0,gX,gZ,D1,gY,rfl,-⟩:=id m2.open_;have aX:=eU.out.ext x2 pJ;have HF:=hid (jg (q':=fun b=>w.heap.size<=b) (X1.out.trans x2) (Nat.le_succ _) aX m2 (fun b _ hb=>⟨by omega,by omega⟩));obtain ⟨⟨z0,z1,z2,z3⟩,zf⟩:=aX;clear m2 x2 HJ;unfold plV;go_wp2_with fail;exact bodyPost_ret (v:=plV X (.slice D0 gX gZ) (.slice D1 X.cs.length gY)) (by simp [results,Tryz.results110,go_sem,z0,z1,z2,z3,plV]) rfl HF.out
end Go.Proofs.YtcepajijiabkmaaGreat
