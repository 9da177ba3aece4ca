/- Layer 23: mainvar.Coefs. -/
import Derived.Test.YtklnlgnnlmdibaaGreatMvCfs
import Derived.Test.YtklnlgnnlmdibaaGreatMr29
import Derived.Test.YtklnlgnnlmdibaaGreatMr30
set_option linter.unusedSimpArgs false
set_option linter.unusedVariables false
set_option maxRecDepth 100000
set_option maxHeartbeats 8000000
namespace Go.Proofs.YtklnlgnnlmdibaaGreat
open Go.RowKit
def uac (W:World) (q:Nat->Prop) (v:Value) (L:List Pl):Prop:=∃ A c,v=.slice A L.length c/\L.length<=c/\c<=9223372036854775807/\(L ≠ []->∃ R,A=some ⟨R,0,none⟩/\q R/\jh W q R L)
theorem uac.mono {W:World} {q q':Nat->Prop} {v:Value} {L:List Pl} (h:uac W q v L) (hq:∀ b,q b->q' b):uac W q' v L:=by
 obtain ⟨A,c,e,h1,h2,h3⟩:=h;exact ⟨A,c,e,h1,h2,fun hn=>by obtain ⟨R,e,h4,h5⟩:=h3 hn; exact ⟨R,e,hq R h4,h5.mono hq⟩⟩
theorem uac.at_ {W:World} {q:Nat->Prop} {v:Value} {L:List Pl} (h:uac W q v L):∃ A c,v=.slice A L.length c/\L.length<=c/\c<=9223372036854775807/\jd W q L A 0:=by
 obtain ⟨A,c,e,h1,h2,h3⟩:=h;refine ⟨A,c,e,h1,h2,?_⟩
 by_cases hn:L=[]
 · subst hn; unfold jd; trivial
 · obtain ⟨R,rfl,h4,h5⟩:=h3 hn;exact h5.fin h4
def wao (q:Nat->Prop) (L:List Pl) (w:World) (e:Ending) (w':World):Prop:=∃ v,e=.returned v/\uac w' q v L/\Ext w w'
theorem Fit.copy_ {p:Pl} {E D:Nat} (h:Fit p E D) (hE:E<=170):p.sz<=1099511627776:=by have:=h.small hE; omega
def CoL (n k:Nat) (raw L:List Pl):Prop:=L.length=n+1/\∀ j (h:j < L.length),L[j]=if j < k then (raw.getD j Pl.zero).nf else raw.getD j Pl.zero
theorem vaf {w:World} {q:Nat->Prop} {p:Pl} {l:Int} {E D:Nat} (v:Value) (hl:1<=l) (hl4:l<=4) (hp:Fit p E D) (hE:E<=170) (hD:D<=1099511627776) (h:PlV w q p v):Calls Tryz.prog 49 #[v,.int .i64 l] w (wao (fun b=>w.heap.size<=b) (p.cfL l) w):=by
 have HP:=Lib.hid h;obtain ⟨A0,n0,c0,A,c,rfl,-⟩:=h.open_;obtain ⟨W,hW⟩:∃ W,w.alloc (.cells #[.int .i64 p.lv,.bool p.neg,.slice A0 n0 c0,.slice A p.cs.length c] 35)=W:=⟨_,rfl⟩;have hWx:Ext w W:=by rw [<- hW]; exact (Ext.refl w).alloc _
 have hB0:PBx W (fun _=>True) w.heap.size p:=by rw [<- hW]; exact PBx.new (h.mono fun _ _=>trivial) _
 have HC:=Lib.hid hp;have HN:=Lib.hid (yab _ (HP.out.ext hWx) hp.can (hp.copy_ hE) (by have:=hp.dm; omega));have HWX:=Lib.hid hWx;have HWS:Hid (W.heap.size=w.heap.size+1):=Lib.hid (by rw [<- hW]; simp);have HB0:=Lib.hid hB0;have hsz':=hWx.size;obtain ⟨-,-,B0,b0n,b0c,B1,b1c,⟨b0,b1,b2,b3⟩,-⟩:=id hB0;have hE:W.cell? ⟨w.heap.size,0,none⟩=some (.int .i64 p.lv)/\W.cell? ⟨w.heap.size,1,none⟩=some (.bool p.neg)/\W.cell? ⟨w.heap.size,2,none⟩=some (.slice A0 n0 c0)/\W.cell? ⟨w.heap.size,3,none⟩=some (.slice A p.cs.length c):=by
  rw [<- hW]; exact ⟨by simp [go_sem],by simp [go_sem],by simp [go_sem],by simp [go_sem]⟩
 clear b0 b1 b2 b3 h hp hB0 hWx;obtain ⟨b0,b1,b2,b3⟩:=hE;unfold plV at HN;unfold plV;go_enter Tryz.func49,Tryz.ntmps49;go_wp2_with fail;clear hW b0 b1 b2 b3;refine HN.out.mono ?_;rintro e w1 ⟨v1,rfl,m1,x1⟩;obtain ⟨C0,j0,f0,C1,f1,rfl,-⟩:=id m1.open_;have hB1:=HB0.out.ext x1;obtain ⟨-,hfr,B0,b0n,b0c,B1,b1c,⟨b0,b1,b2,b3⟩,-⟩:=id hB1;have hsW:w.heap.size < W.heap.size:=HB0.out.1;have hB2:=hB1.store (Q':=fun _=>True) (m1.mono fun b hb=>⟨trivial,by omega⟩);obtain ⟨W1,hW1⟩:∃ W1,((((w1.setCell ⟨w.heap.size,0,none⟩ (.int .i64 p.lv)).setCell ⟨w.heap.size,1,none⟩ (.bool p.neg)).setCell ⟨w.heap.size,2,none⟩ (.slice C0 j0 f0)).setCell ⟨w.heap.size,3,none⟩ (.slice C1 p.cs.length f1))=W1:=⟨_,rfl⟩;have X1:Hid (Ext w W1):=Lib.hid (by rw [<- hW1]; exact ((((HWX.out.trans x1).setCell (Nat.le_refl _) _).setCell (Nat.le_refl _) _).setCell (Nat.le_refl _) _).setCell (Nat.le_refl _) _);rw [hW1] at hB2;have HB2:=Lib.hid hB2;have f0':=hfr 0;have f1':=hfr 1;have f2':=hfr 2;have f3':=hfr 3;have hd:W1.cell? ⟨w.heap.size,0,none⟩=some (.int .i64 p.lv)/\W1.cell? ⟨w.heap.size,1,none⟩=some (.bool p.neg)/\W1.cell? ⟨w.heap.size,2,none⟩=some (.slice C0 j0 f0)/\W1.cell? ⟨w.heap.size,3,none⟩=some (.slice C1 p.cs.length f1):=by
  rw [<- hW1]; exact jb.set (HB0.out.ext x1).2.2.choose_spec.choose_spec.choose_spec.choose_spec.choose_spec.1
 have HPV:Hid (PlV W1 (fun b=>W.heap.size<=b) p (plV p (.slice C0 j0 f0) (.slice C1 p.cs.length f1))):=Lib.hid (by rw [<- hW1]; exact hB1.stays m1 (fun b hb=>by omega) _ _ _ _ _ _ _ _);have HD:Hid (∀ W',Ext W1 W'->W'.cell? ⟨w.heap.size,0,none⟩=some (.int .i64 p.lv)/\W'.cell? ⟨w.heap.size,1,none⟩=some (.bool p.neg)/\W'.cell? ⟨w.heap.size,2,none⟩=some (.slice C0 j0 f0)/\W'.cell? ⟨w.heap.size,3,none⟩=some (.slice C1 p.cs.length f1)):=Lib.hid (fun W' hx=>by
  have k:∀ i,W'.cell? ⟨w.heap.size,i,none⟩=W1.cell? ⟨w.heap.size,i,none⟩:=fun i=>hx.cell (p:=⟨w.heap.size,i,none⟩) HB2.out.1
  exact ⟨(k 0).trans hd.1,(k 1).trans hd.2.1,(k 2).trans hd.2.2.1,(k 3).trans hd.2.2.2⟩)
 have HIZ:=Lib.hid (gai _ HPV.out HC.out.can);unfold plV at HIZ;unfold plV;clear hB1 hB2 hfr m1 x1 HN;go_upto_region 2 with fail
 try rw [hW1]
 clear hW1 b0 b1 b2 b3 f0' f1' f2' f3';obtain ⟨b0,b1,b2,b3⟩:=hd;go_wp2_with fail;clear b0 b1 b2 b3;refine HIZ.out.mono ?_;rintro e w2 ⟨rfl,x2⟩
 by_cases hz:p.isZ=true
 · have hcl:p.cfL l=[]:=by rw [Pl.cfL,if_pos hz]
   rw [hz];have X2:=Lib.hid (X1.out.trans x2);have HCL:=Lib.hid hcl;clear x2 HIZ hz hcl;go_wp2_with fail;go_ret;rw [HCL.out];exact ⟨_,rfl,⟨none,0,rfl,by simp,by omega,fun h=>absurd rfl h⟩,X2.out⟩
 · rw [show p.isZ=false by simpa using hz];have X2:=Lib.hid (X1.out.trans x2);have X12:=Lib.hid x2;have hdb:=Pl.dgL_bd hl p HC.out.can HC.out.ex;obtain ⟨n,hdn⟩:∃ n:Nat,p.dgL l=n:=⟨(p.dgL l).toNat,by omega⟩;have hnE:n<=170:=by omega
   have hcl:p.cfL l=(p.cfs l n).map Pl.nf:=by rw [Pl.cfL_of hl hl4 HC.out.can (fun e=>hz ((Pl.zero_isZ HC.out.can).2 e)),hdn]; rfl
   have HCL:=Lib.hid hcl;have HRAW:Hid (∀ j,j < n+1->((p.cfs l n).getD j Pl.zero).sz<=1073741824/\((p.cfs l n).getD j Pl.zero).dm<=1099511627776/\((p.cfs l n).getD j Pl.zero).nf.sz<=1099511627776):=Lib.hid (fun j hj=>by
    obtain ⟨h1,h2⟩:=Pl.cfs_raw (l:=l) (n:=n) p j (by omega);obtain ⟨h3,h4⟩:=Pl.cfs_fit (l:=l) (n:=n) p HC.out.can HC.out.ex j (by omega);have h5:=HC.out.small hE;have h6:=HC.out.dm;have h7:Fit ((p.cfs l n).getD j Pl.zero).nf E D:=⟨Pl.nf_can _,h3,Nat.lt_of_le_of_lt h4 HC.out.nr⟩
    exact ⟨by omega,by omega,h7.copy_ hE⟩)
   have HDM:=Lib.hid (fun (W':World) (hx:Ext W1 W')=>zbl hl p _ HC.out.can (HC.out.copy_ hE) (HPV.out.ext hx));rw [hdn] at HDM;have HCF:=Lib.hid (fun (W':World) (hx:Ext W1 W')=>vcj hl n (by omega) p _ HC.out.can (HC.out.copy_ hE) (Int.le_of_eq hdn) (HPV.out.ext hx));unfold plV at HDM HCF;clear x2 HIZ hz hdn hcl hdb;go_wp2_with fail;refine (uai l _).mono ?_;rintro e w3 ⟨rfl,rfl⟩;rw [show (decide (1<=l) && decide (l<=4))=true by simp [hl,hl4]];have HSS:Hid (∀ W',Ext W1 W'->(Ext W1 W'/\W'.cell? ⟨w.heap.size,0,none⟩=some (.int .i64 p.lv)/\W'.cell? ⟨w.heap.size,1,none⟩=some (.bool p.neg)/\W'.cell? ⟨w.heap.size,2,none⟩=some (.slice C0 j0 f0)/\W'.cell? ⟨w.heap.size,3,none⟩=some (.slice C1 p.cs.length f1))):=Lib.hid (fun W' hx=>⟨hx,HD.out W' hx⟩);have Y0:=Lib.hid (X12.out.drew);go_upto_region 6 with fail
   go_region_held3 (fun W' => Ext W1 W' /\ W'.cell? ⟨w.heap.size, 0, none⟩ = some (.int .i64 p.lv) /\ W'.cell? ⟨w.heap.size, 1, none⟩ = some (.bool p.neg) /\ W'.cell? ⟨w.heap.size, 2, none⟩ = some (.slice C0 j0 f0) /\ W'.cell? ⟨w.heap.size, 3, none⟩ = some (.slice C1 p.cs.length f1))
    (first | with_reducible exact HSS.out _ Y0.out | with_reducible exact HSS.out _ z1 | with_reducible exact HSS.out _ z2)
    (first
      | (go_at_call 52
         refine (HDM.out _ Y0.out).mono ?_;rintro e w4 ⟨rfl,y4⟩
         have z1:Ext W1 w4:=Y0.out.trans y4)
      | (go_at_call 81
         refine (HCF.out _ z1).mono ?_;rintro e w5 ⟨R,rfl,hR,hrow,y5⟩;rw [Pl.cfs_len]
         have z2:Ext W1 w5:=z1.trans y5))
   all_goals
    have X5:=Lib.hid (X1.out.trans z2);have hs4:=(X1.out.trans z1).size;have hs1:=X1.out.size;have hWs:W.heap.size=w.heap.size+1:=HWS.out;have hrow0:jh w5 (fun b=>w.heap.size<=b) R (p.cfs l n):=hrow.mono fun b hb=>by
     rcases hb with hb | hb <;> omega
    have hRw:w.heap.size<=R:=by omega
    have HRW0:Hid (∃ L,CoL n 0 (p.cfs l n) L/\jh w5 (fun b=>w.heap.size<=b) R L):=Lib.hid ⟨p.cfs l n,⟨Pl.cfs_len l n p,fun j hj=>by rw [if_neg (by omega),List.getD_eq_getElem?_getD,List.getElem?_eq_getElem hj]; rfl⟩,hrow0⟩;clear hrow hrow0 y4 y5 z1 z2 HCF HDM HSS hR;go_wp2_with fail
    go_loopw [26] (fun iv wr=>∃ k:Nat,k<=n+1/\iv=.int .i64 k/\Hid (Ext w wr/\∃ L,CoL n k (p.cfs l n) L/\jh wr (fun b=>w.heap.size<=b) R L)) (fun iv _=>n+1 - (intOf iv).toNat)
    case atStart=>exact ⟨0,Nat.zero_le _,rfl,Lib.hid ⟨X5.out,HRW0.out⟩⟩
    case round =>
     obtain ⟨k,hk,rfl,HI⟩:=hrel
     by_cases hlt:k < n+1
     · obtain ⟨hxr,L,hL,hrowL⟩:=HI.out;have hkL:k < L.length:=by rw [hL.1]; exact hlt
       obtain ⟨D0,dn0,dc0,D1,dn1,dc1,⟨r0,r1,r2,r3⟩,hpv⟩:=hrowL.2.2 k hkL;have hLk:=hL.2 k hkL;rw [if_neg (Nat.lt_irrefl k)] at hLk;obtain ⟨hs1',hs2',hs3'⟩:=HRAW.out k hlt;rw [<- hLk] at hs1' hs2' hs3';have HNM:=Lib.hid (fun (W':World) (hx:Ext wr W')=>wak L[k] _ (hpv.ext hx) hs1' hs3' hs2');have HRL:=Lib.hid hrowL;have HXR:=Lib.hid hxr;have HLL:=Lib.hid hL;have HLK:=Lib.hid hLk;generalize L[k]=x at *;unfold plV at HNM;have hkn:(k:Int) < (n:Int)+1:=by omega
       clear hxr hL hrowL hpv hLk hs1' hs2' hs3' HI;go_wp2_with fail;clear r0 r1 r2 r3;refine (HNM.out _ (Ext.refl wr)).mono ?_;rintro e w6 ⟨v6,rfl,m6,x6⟩;obtain ⟨G0,g0n,g0c,G1,g1c,rfl,-⟩:=id m6.open_;have hrow6:=HRL.out.ext x6;have hRr:R < wr.heap.size:=HRL.out.1;obtain ⟨I0,i0n,i0c,I1,i1n,i1c,⟨r0,r1,r2,r3⟩,-⟩:=hrow6.2.2 k hkL;have hfr:=hrow6.2.1;have f0':=hfr (k * 4);have f1':=hfr (k * 4+1);have f2':=hfr (k * 4+2);have f3':=hfr (k * 4+3);have hst:=(hrow6.set_ k hkL x.nf (m6.mono fun b hb=>⟨by omega,by omega⟩)).1;have hext:=(((((HXR.out.trans x6).setCell hRw (p:=⟨R,k * 4,none⟩) (.int .i64 x.nf.lv)).setCell hRw (p:=⟨R,k * 4+1,none⟩) (.bool x.nf.neg)).setCell hRw (p:=⟨R,k * 4+2,none⟩) (.slice G0 g0n g0c)).setCell hRw (p:=⟨R,k * 4+3,none⟩) (.slice G1 x.nf.cs.length g1c));have hCo:CoL n (k+1) (p.cfs l n) (L.set k x.nf):=by
        refine ⟨by rw [List.length_set]; exact HLL.out.1,fun j hj=>?_⟩;rw [List.length_set] at hj
        by_cases hjk:j=k
        · subst hjk;rw [List.getElem_set_self,if_pos (Nat.lt_succ_self _),HLK.out]
        · rw [List.getElem_set_ne (Ne.symm hjk),HLL.out.2 j hj]
          by_cases hj2:j < k
          · rw [if_pos hj2,if_pos (by omega)]
          · rw [if_neg hj2,if_neg (by omega)]
       have HNX:=Lib.hid (And.intro hext (⟨_,hCo,hst⟩:∃ L,CoL n (k+1) (p.cfs l n) L/\jh _ (fun b=>w.heap.size<=b) R L));clear hrow6 hst hext hCo hfr m6 x6 HNM HLL HLK HRL HXR;unfold plV;go_wp2_with fail
       go_roundw
       case rel=>exact ⟨k+1,by omega,by go_num,HNX⟩
       case measure=>simp only [intOf]; omega
     · have hke:k=n+1:=by omega
       obtain ⟨hxr,L,hL,hrowL⟩:=HI.out;have hLe:L=p.cfL l:=by
        rw [HCL.out];refine List.ext_getElem (by rw [hL.1,List.length_map,Pl.cfs_len]) fun j h1 h2=>?_
        rw [hL.2 j h1,if_pos (by have:=hL.1; omega),List.getElem_map,List.getD_eq_getElem?_getD,List.getElem?_eq_getElem (by rw [List.length_map] at h2; exact h2)]
        rfl
       rw [hLe] at hrowL;have HFIN:Hid (wao (fun b=>w.heap.size<=b) (p.cfL l) w (.returned (.slice (some ⟨R,0,none⟩) (n+1) (n+1))) wr):=Lib.hid ⟨_,rfl,⟨_,_,by rw [HCL.out,List.length_map,Pl.cfs_len],by rw [HCL.out,List.length_map,Pl.cfs_len]; exact Nat.le_refl _,by omega,fun _=>⟨R,rfl,hRw,hrowL⟩⟩,hxr⟩;clear hxr hL hrowL hLe HI hke;go_wp2_with fail;go_ret;exact HFIN.out
/- Layer 23: mainvar.Lead, Coef, Join, Reductum. -/
set_option maxRecDepth 100000
set_option maxHeartbeats 8000000
theorem qal {w:World} {q:Nat->Prop} {p:Pl} {l:Int} {E D:Nat} (v:Value) (hl:1<=l) (hl4:l<=4) (hp:Fit p E D) (hE:E<=170) (hD:D<=1099511627776) (h:PlV w q p v):Calls Tryz.prog 18 #[v,.int .i64 l] w (jf (fun b=>w.heap.size<=b) (ul l p) w):=by
 have HP:=Lib.hid h;have HFT:=Lib.hid hp;obtain ⟨A0,n0,c0,A,c,rfl,-⟩:=h.open_;obtain ⟨W,hW⟩:∃ W,(w.alloc (.cells #[.int .i64 p.lv,.bool p.neg,.slice A0 n0 c0,.slice A p.cs.length c] 35)).alloc (.cells #[.int .i64 0,.bool false,.slice none 0 0,.slice none 0 0] 35)=W:=⟨_,rfl⟩;have hWx:Ext w W:=by rw [<- hW]; exact ((Ext.refl w).alloc _).alloc _
 have hWs:W.heap.size=w.heap.size+1+1:=by rw [<- hW]; simp
 have hz:yf W (w.heap.size+1):=by
  have:=yf.new (w.alloc (.cells #[.int .i64 p.lv,.bool p.neg,.slice A0 n0 c0,.slice A p.cs.length c] 35)) 35;rw [hW] at this;simpa using this
 have hbx:jb W w.heap.size p (.slice A0 n0 c0) (.slice A p.cs.length c):=by rw [<- hW]; exact (jb.new w p _ _ _).ext ((Ext.refl _).alloc _) (by simp)
 obtain ⟨b0,b1,b2,b3⟩:=hbx;have HCO:=Lib.hid (vaf _ hl hl4 hp hE hD (HP.out.ext hWx));have HWX:=Lib.hid hWx;have HZ:=Lib.hid hz;unfold plV at HCO;unfold plV;obtain ⟨X,hX⟩:∃ X,ul l p=X:=⟨_,rfl⟩;rw [hX];have HXX:=Lib.hid hX;clear h hp hWx hz hX;go_enter Tryz.func18,Tryz.ntmps18;go_wp2_with fail;clear hW b0 b1 b2 b3;refine HCO.out.mono ?_;rintro e w1 ⟨v1,rfl,⟨A1,k1,rfl,hk1,hk2,hR⟩,x1⟩;have hzn:=HZ.out.ext x1 (by omega);have hs1:=x1.size
 by_cases hne:p.cfL l=[]
 · have hlen:(p.cfL l).length=0:=by rw [hne]; rfl
   have hzr:ul l p=Pl.zero:=by unfold ul; rw [hne]; rfl
   rw [hlen];have HF:=Lib.hid (jf.congr (HXX.out.symm.trans hzr) <| yg (q:=fun _=>False) (q':=fun b=>w.heap.size<=b) (HWX.out.trans x1) (Nat.le_succ _) hzn (Pl.zero_v w1 _ none 0 (by omega)) (fun b _ hb=>hb.elim));obtain ⟨⟨z0,z1,z2,z3⟩,zf⟩:=hzn;clear hne hlen hzr x1 HCO hR;go_wp2_with fail;exact bodyPost_ret (v:=plV Pl.zero (.slice none 0 0) (.slice none 0 0)) (by simp [results,Tryz.results18,go_sem,z0,z1,z2,z3,plV,Pl.zero,Pl.lv,Pl.neg,Pl.cs]) rfl HF.out
 · obtain ⟨R,rfl,hRw,hrow⟩:=hR hne;obtain ⟨m,hm⟩:∃ m,(p.cfL l).length=m+1:=⟨(p.cfL l).length - 1,by have:=List.length_pos_iff.2 hne; omega⟩;have hmE:=qy (l:=l) HFT.out.can HFT.out.ex;have hml:m < (p.cfL l).length:=by omega
   obtain ⟨D0,dn0,dc0,D1,dn1,dc1,⟨r0,r1,r2,r3⟩,hpv⟩:=hrow.2.2 m hml;have hld:ul l p=(p.cfL l)[m]:=by
    unfold ul;rw [hm,Nat.add_sub_cancel,List.getD_eq_getElem?_getD,List.getElem?_eq_getElem hml]; rfl
   have hwm:IntKind.i64.wrap (((m:Int)+1) - 1)=(m:Int):=by rw [IntKind.wrap_i64]; omega
   have hm0:(((m:Int)+1) == 0)=false:=by simp; omega
   rw [hm];have HF:=Lib.hid (jf.congr (HXX.out.symm.trans hld) <| yg (q':=fun b=>w.heap.size<=b) (HWX.out.trans x1) (Nat.le_succ _) hzn hpv (fun b _ hb=>⟨by omega,by omega⟩));obtain ⟨⟨z0,z1,z2,z3⟩,zf⟩:=hzn;generalize (p.cfL l)[m]=x at *;clear hne hm hld x1 HCO hR hrow hpv;go_wp2_with fail;exact bodyPost_ret (v:=plV x (.slice D0 dn0 dc0) (.slice D1 dn1 dc1)) (by simp [results,Tryz.results18,go_sem,z0,z1,z2,z3,plV]) rfl HF.out
theorem ybc {w:World} {q:Nat->Prop} {p:Pl} {l k:Int} {E D:Nat} (v:Value) (hk1:-9223372036854775808<=k) (hk2:k<=9223372036854775807) (hl:1<=l) (hl4:l<=4) (hp:Fit p E D) (hE:E<=170) (hD:D<=1099511627776) (h:PlV w q p v):Calls Tryz.prog 41 #[v,.int .i64 l,.int .i64 k] w (jf (fun b=>w.heap.size<=b) (uq l k p) w):=by
 have HP:=Lib.hid h;have HFT:=Lib.hid hp;obtain ⟨A0,n0,c0,A,c,rfl,-⟩:=h.open_;obtain ⟨W,hW⟩:∃ W,(w.alloc (.cells #[.int .i64 p.lv,.bool p.neg,.slice A0 n0 c0,.slice A p.cs.length c] 35)).alloc (.cells #[.int .i64 0,.bool false,.slice none 0 0,.slice none 0 0] 35)=W:=⟨_,rfl⟩;have hWx:Ext w W:=by rw [<- hW]; exact ((Ext.refl w).alloc _).alloc _
 have hWs:W.heap.size=w.heap.size+1+1:=by rw [<- hW]; simp
 have hz:yf W (w.heap.size+1):=by
  have:=yf.new (w.alloc (.cells #[.int .i64 p.lv,.bool p.neg,.slice A0 n0 c0,.slice A p.cs.length c] 35)) 35;rw [hW] at this;simpa using this
 have hbx:jb W w.heap.size p (.slice A0 n0 c0) (.slice A p.cs.length c):=by rw [<- hW]; exact (jb.new w p _ _ _).ext ((Ext.refl _).alloc _) (by simp)
 obtain ⟨b0,b1,b2,b3⟩:=hbx;have HCO:=Lib.hid (vaf _ hl hl4 hp hE hD (HP.out.ext hWx));have HWX:=Lib.hid hWx;have HZ:=Lib.hid hz;unfold plV at HCO;unfold plV;obtain ⟨X,hX⟩:∃ X,uq l k p=X:=⟨_,rfl⟩;rw [hX];have HXX:=Lib.hid hX;clear h hp hWx hz hX;go_enter Tryz.func41,Tryz.ntmps41;go_wp2_with fail;clear hW b0 b1 b2 b3;refine HCO.out.mono ?_;rintro e w1 ⟨v1,rfl,⟨A1,k1,rfl,hk1,hk2,hR⟩,x1⟩;have hzn:=HZ.out.ext x1 (by omega);have hs1:=x1.size
 by_cases hk0:k < 0
 · have hzr:uq l k p=Pl.zero:=by unfold uq; rw [if_pos hk0]
   have HF:=Lib.hid (jf.congr (HXX.out.symm.trans hzr) <| yg (q:=fun _=>False) (q':=fun b=>w.heap.size<=b) (HWX.out.trans x1) (Nat.le_succ _) hzn (Pl.zero_v w1 _ none 0 (by omega)) (fun b _ hb=>hb.elim));obtain ⟨⟨z0,z1,z2,z3⟩,zf⟩:=hzn;clear hzr x1 HCO hR;go_wp2_with fail;exact bodyPost_ret (v:=plV Pl.zero (.slice none 0 0) (.slice none 0 0)) (by simp [results,Tryz.results41,go_sem,z0,z1,z2,z3,plV,Pl.zero,Pl.lv,Pl.neg,Pl.cs]) rfl HF.out
 by_cases hkn:((p.cfL l).length:Int)<=k
 · have hzr:uq l k p=Pl.zero:=by
    unfold uq;rw [if_neg hk0,List.getD_eq_getElem?_getD,List.getElem?_eq_none (by omega)]; rfl
   have hmE:=qy (l:=l) HFT.out.can HFT.out.ex;generalize (p.cfL l).length=m at *;have HF:=Lib.hid (jf.congr (HXX.out.symm.trans hzr) <| yg (q:=fun _=>False) (q':=fun b=>w.heap.size<=b) (HWX.out.trans x1) (Nat.le_succ _) hzn (Pl.zero_v w1 _ none 0 (by omega)) (fun b _ hb=>hb.elim));obtain ⟨⟨z0,z1,z2,z3⟩,zf⟩:=hzn;clear hzr x1 HCO hR;go_wp2_with fail;exact bodyPost_ret (v:=plV Pl.zero (.slice none 0 0) (.slice none 0 0)) (by simp [results,Tryz.results41,go_sem,z0,z1,z2,z3,plV,Pl.zero,Pl.lv,Pl.neg,Pl.cs]) rfl HF.out
 · obtain ⟨R,rfl,hRw,hrow⟩:=hR (by intro e; rw [e] at hkn; simp at hkn; omega);have hmE:=qy (l:=l) HFT.out.can HFT.out.ex;obtain ⟨m,rfl⟩:∃ m:Nat,k=m:=⟨k.toNat,by omega⟩;have hml:m < (p.cfL l).length:=by omega
   obtain ⟨D0,dn0,dc0,D1,dn1,dc1,⟨r0,r1,r2,r3⟩,hpv⟩:=hrow.2.2 m hml;have hld:uq l m p=(p.cfL l)[m]:=by
    unfold uq;rw [if_neg hk0,Int.toNat_natCast,List.getD_eq_getElem?_getD,List.getElem?_eq_getElem hml]; rfl
   have HF:=Lib.hid (jf.congr (HXX.out.symm.trans hld) <| yg (q':=fun b=>w.heap.size<=b) (HWX.out.trans x1) (Nat.le_succ _) hzn hpv (fun b _ hb=>⟨by omega,by omega⟩));obtain ⟨⟨z0,z1,z2,z3⟩,zf⟩:=hzn;generalize (p.cfL l)[m]=x at *;clear hld x1 HCO hR hrow hpv;go_wp2_with fail;exact bodyPost_ret (v:=plV x (.slice D0 dn0 dc0) (.slice D1 dn1 dc1)) (by simp [results,Tryz.results41,go_sem,z0,z1,z2,z3,plV]) rfl HF.out
theorem xba {L:List Pl} {E D:Nat} (h:∀ c ∈ L,Fit c E D) (hl:L.length<=E+1) (hE:E<=62):uj L<=1073741823:=by
 have h1:∀ L:List Pl,(∀ c ∈ L,Fit c E D)->uj L<=L.length * (E+2) ^ 4:=fun L=>by
  induction L with
  | nil=>intro _; rw [uj]; exact Nat.zero_le _
  | cons c r ih =>
    intro h;have a:=ih fun d hd=>h d (by simp [hd])
    have b:=(h c (by simp)).sz;rw [uj,List.length_cons,Nat.succ_mul];omega
 have h2:(E+2) ^ 4<=64 ^ 4:=Nat.pow_le_pow_left (by omega) 4;have h3:L.length * (E+2) ^ 4<=63 * 64 ^ 4:=Nat.mul_le_mul (by omega) h2;have h4:63 * 64 ^ 4<=1073741823:=by decide
 have:=h1 L h;omega
theorem jh.take {W:World} {q:Nat->Prop} {R:Nat} {l:List Pl} (h:jh W q R l) (m:Nat):jh W q R (l.take m):=by
 obtain ⟨h1,h2,h3⟩:=h;refine ⟨h1,h2,fun i hi=>?_⟩;rw [List.length_take] at hi;rw [List.getElem_take];exact h3 i (by omega)
theorem jax {w:World} {q:Nat->Prop} {L:List Pl} {l:Int} {A:Option Addr} {c:Nat} (hl:1<=l) (hl4:l<=4) (hA:jd w q L A 0) (hc:L.length<=c) (hc2:c<=9223372036854775807) (hsz:uj L<=1073741823) (hdm:ku L<=1099511627776) (hnf:(joinL l L).sz<=1099511627776) :
 Calls Tryz.prog 28 #[.slice A L.length c,.int .i64 l] w (jf (fun b=>w.heap.size<=b) (joinL l L) w):=by
 obtain ⟨W,hW⟩:∃ W,w.alloc (.cells #[.int .i64 0,.bool false,.slice none 0 0,.slice none 0 0] 35)=W:=⟨_,rfl⟩;have hWx:Ext w W:=by rw [<- hW]; exact (Ext.refl w).alloc _
 have hWs:W.heap.size=w.heap.size+1:=by rw [<- hW]; simp
 have hz:yf W w.heap.size:=by rw [<- hW]; exact yf.new w _
 have hj:joinL l L=(Pl.mk l false [] L).nf:=by unfold joinL; rw [if_pos ⟨hl,hl4⟩]
 have HN:=Lib.hid (wak (Pl.mk l false [] L) (plV (.mk l false [] L) (.slice none 0 0) (.slice A L.length c)) (PlV.mk (t:=.mk l false [] L) (jc.nil W) hc hc2 (hA.ext hWx)) (by rw [Pl.sz]; omega) (by rw [<- hj]; exact hnf) (by rw [Pl.dm]; simp only [List.length_nil]; omega));rw [<- hj] at HN;unfold plV at HN;simp only [Pl.lv,Pl.neg] at HN;have HWX:=Lib.hid hWx;have HZ:=Lib.hid hz;generalize joinL l L=X at *;clear hz hWx hA hj hsz hdm hnf;go_enter Tryz.func28,Tryz.ntmps28;go_wp2_with fail
 try rw [hW]
 refine (uai l _).mono ?_;rintro e w0 ⟨rfl,rfl⟩;rw [show (decide (1<=l) && decide (l<=4))=true by simp [hl,hl4]];go_wp2_with fail;clear hW;refine HN.out.mono ?_;rintro e w1 ⟨v1,rfl,m1,x1⟩;obtain ⟨D0,dn0,dc0,D1,dc1,rfl,-⟩:=id m1.open_;have hzn:=HZ.out.ext x1 (by omega);have hs1:=x1.size;have HF:=Lib.hid (yg (q':=fun b=>w.heap.size<=b) (HWX.out.trans x1) (Nat.le_refl _) hzn m1 (fun b _ hb=>⟨by omega,by omega⟩));obtain ⟨⟨z0,z1,z2,z3⟩,zf⟩:=hzn;clear m1 x1 HN;unfold plV;go_wp2_with fail;exact bodyPost_ret (v:=plV X (.slice D0 dn0 dc0) (.slice D1 X.cs.length dc1)) (by simp [results,Tryz.results28,go_sem,z0,z1,z2,z3,plV]) rfl HF.out
theorem ga3 {L:List Pl} {E D:Nat} (h:∀ c ∈ L,Fit c E D):ku L<=D:=by
 induction L with
 | nil=>rw [ku]; exact Nat.zero_le _
 | cons c r ih =>
   have a:=ih fun d hd=>h d (by simp [hd])
   have b:=(h c (by simp)).dm;rw [ku];omega
theorem wbi {w:World} {q:Nat->Prop} {p:Pl} {l:Int} {E D:Nat} (v:Value) (hl:1<=l) (hl4:l<=4) (hp:Fit p E D) (hE0:E<=62) (hD:D<=1099511627776) (h:PlV w q p v):Calls Tryz.prog 55 #[v,.int .i64 l] w (jf (fun b=>w.heap.size<=b) (jy l p) w):=by
 have HP:=Lib.hid h;have HFT:=Lib.hid hp;obtain ⟨A0,n0,c0,A,c,rfl,-⟩:=h.open_;obtain ⟨W,hW⟩:∃ W,(w.alloc (.cells #[.int .i64 p.lv,.bool p.neg,.slice A0 n0 c0,.slice A p.cs.length c] 35)).alloc (.cells #[.int .i64 0,.bool false,.slice none 0 0,.slice none 0 0] 35)=W:=⟨_,rfl⟩;have hWx:Ext w W:=by rw [<- hW]; exact ((Ext.refl w).alloc _).alloc _
 have hWs:W.heap.size=w.heap.size+1+1:=by rw [<- hW]; simp
 have hz:yf W (w.heap.size+1):=by
  have:=yf.new (w.alloc (.cells #[.int .i64 p.lv,.bool p.neg,.slice A0 n0 c0,.slice A p.cs.length c] 35)) 35;rw [hW] at this;simpa using this
 have hbx:jb W w.heap.size p (.slice A0 n0 c0) (.slice A p.cs.length c):=by rw [<- hW]; exact (jb.new w p _ _ _).ext ((Ext.refl _).alloc _) (by simp)
 obtain ⟨b0,b1,b2,b3⟩:=hbx;have HCO:=Lib.hid (vaf _ hl hl4 hp (by omega) hD (HP.out.ext hWx));have HWX:=Lib.hid hWx;have HZ:=Lib.hid hz;unfold plV at HCO;unfold plV;obtain ⟨X,hX⟩:∃ X,jy l p=X:=⟨_,rfl⟩;rw [hX];have HXX:=Lib.hid hX;clear h hp hWx hz hX;go_enter Tryz.func55,Tryz.ntmps55;go_wp2_with fail;clear hW b0 b1 b2 b3;refine HCO.out.mono ?_;rintro e w1 ⟨v1,rfl,⟨A1,k1,rfl,hk1,hk2,hR⟩,x1⟩;have hzn:=HZ.out.ext x1 (by omega);have hs1:=x1.size
 by_cases hne:p.cfL l=[]
 · have hlen:(p.cfL l).length=0:=by rw [hne]; rfl
   have hzr:jy l p=Pl.zero:=by
    unfold jy;rw [hne];exact Pl.val_uniq (kal _ _) Pl.zero_can fun ρ=>by rw [List.dropLast_nil,gag hl hl4,Pl.zero_val]; rfl
   rw [hlen];have HF:=Lib.hid (jf.congr (HXX.out.symm.trans hzr) <| yg (q:=fun _=>False) (q':=fun b=>w.heap.size<=b) (HWX.out.trans x1) (Nat.le_succ _) hzn (Pl.zero_v w1 _ none 0 (by omega)) (fun b _ hb=>hb.elim));obtain ⟨⟨z0,z1,z2,z3⟩,zf⟩:=hzn;clear hne hlen hzr x1 HCO hR;go_wp2_with fail;exact bodyPost_ret (v:=plV Pl.zero (.slice none 0 0) (.slice none 0 0)) (by simp [results,Tryz.results55,go_sem,z0,z1,z2,z3,plV,Pl.zero,Pl.lv,Pl.neg,Pl.cs]) rfl HF.out
 · obtain ⟨R,rfl,hRw,hrow⟩:=hR hne;obtain ⟨m,hm⟩:∃ m,(p.cfL l).length=m+1:=⟨(p.cfL l).length - 1,by have:=List.length_pos_iff.2 hne; omega⟩;have hmE:=qy (l:=l) HFT.out.can HFT.out.ex;have hdl:(p.cfL l).dropLast=(p.cfL l).take m:=by rw [List.dropLast_eq_take,hm,Nat.add_sub_cancel]
   have hfl:∀ c ∈ (p.cfL l).take m,Fit c E D:=fun c hc=>Pl.cfL_fit HFT.out c (List.mem_of_mem_take hc)
   have htl:((p.cfL l).take m).length=m:=by rw [List.length_take]; omega
   have HJ:=Lib.hid (jax (l:=l) (c:=k1) hl hl4 ((hrow.take m).fin (by omega)) (by omega) hk2 (xba hfl (by omega) hE0) (by have:=ga3 hfl; omega) (by
    have:=kat (l:=l) HFT.out (by have:B32=4294967296:=rfl; omega);unfold jy at this;rw [hdl] at this
    exact this.copy_ (by omega)))
   rw [htl] at HJ;have HRD:Hid (X=joinL l ((p.cfL l).take m)):=Lib.hid (by rw [<- hdl]; exact HXX.out.symm);rw [<- HRD.out] at HJ;have hwm:IntKind.i64.wrap (((m:Int)+1) - 1)=(m:Int):=by rw [IntKind.wrap_i64]; omega
   have hm0:(((m:Int)+1) == 0)=false:=by simp; omega
   have hmc:(m:Int)<=(k1:Int):=by omega
   have X1:=Lib.hid (HWX.out.trans x1);have HZ1:=Lib.hid hzn;have hs1':w.heap.size+1 < w1.heap.size:=by omega
   rw [hm];clear hne hm hdl hfl htl hrow hR HCO x1 hzn;go_wp2_with fail;refine HJ.out.mono ?_;rintro e w2 ⟨v2,rfl,m2,x2⟩;obtain ⟨D0,dn0,dc0,D1,dc1,rfl,-⟩:=id m2.open_;have hzn:=HZ1.out.ext x2 hs1';have HF:=Lib.hid (yg (q':=fun b=>w.heap.size<=b) (X1.out.trans x2) (Nat.le_succ _) hzn m2 (fun b _ hb=>⟨by omega,by omega⟩));obtain ⟨⟨z0,z1,z2,z3⟩,zf⟩:=hzn;clear m2 x2 HJ;unfold plV;go_wp2_with fail;exact bodyPost_ret (v:=plV X (.slice D0 dn0 dc0) (.slice D1 X.cs.length dc1)) (by simp [results,Tryz.results55,go_sem,z0,z1,z2,z3,plV]) rfl HF.out
end Go.Proofs.YtklnlgnnlmdibaaGreat
