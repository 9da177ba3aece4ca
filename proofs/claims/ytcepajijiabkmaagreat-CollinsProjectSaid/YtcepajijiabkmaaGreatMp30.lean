/- Layer 23: mainvar.Coefs. -/
import Derived.Test.YtcepajijiabkmaaGreatMp27
import Derived.Test.YtcepajijiabkmaaGreatMp29
set_option linter.unusedSimpArgs false
set_option linter.unusedVariables false
set_option maxRecDepth 100000
set_option maxHeartbeats 8000000
namespace Go.Proofs.YtcepajijiabkmaaGreat
open Lib (hid)
open Go.RowKit
def jaf (W:World) (q:Nat->Prop) (v:Value) (L:List Pl):Prop:=∃ A c,v=.slice A L.length c/\L.length<=c/\c<=9223372036854775807/\(L ≠ []->∃ R,A=some ⟨R,0,none⟩/\q R/\xh W q R L)
theorem jaf.mono {W:World} {q q':Nat->Prop} {v:Value} {L:List Pl} (h:jaf W q v L) (hq:∀ b,q b->q' b):jaf W q' v L:=by
 obtain ⟨A,c,e,h1,h2,h3⟩:=h;exact ⟨A,c,e,h1,h2,fun hn=>by obtain ⟨R,e,h4,h5⟩:=h3 hn; exact ⟨R,e,hq R h4,h5.mono hq⟩⟩
theorem jaf.at_ {W:World} {q:Nat->Prop} {v:Value} {L:List Pl} (h:jaf W q v L):∃ A c,v=.slice A L.length c/\L.length<=c/\c<=9223372036854775807/\jd W q L A 0:=by
 obtain ⟨A,c,e,h1,h2,h3⟩:=h;refine ⟨A,c,e,h1,h2,?_⟩
 by_cases hn:L=[]
 · subst hn; unfold jd; trivial
 · obtain ⟨R,rfl,h4,h5⟩:=h3 hn;exact h5.fin h4
def kah (q:Nat->Prop) (L:List Pl) (w:World) (e:Ending) (w':World):Prop:=∃ v,e=.returned v/\jaf w' q v L/\Ext w w'
theorem Fit.copy_ {p:Pl} {E D:Nat} (h:Fit p E D) (hE:E<=170):p.sz<=1099511627776:=by have:=h.small hE; omega
def CoL (n k:Nat) (raw L:List Pl):Prop:=L.length=n+1/\∀ j (h:j < L.length),L[j]=if j < k then (raw.getD j Pl.zero).nf else raw.getD j Pl.zero
theorem uaj {w:World} {q:Nat->Prop} {p:Pl} {l:Int} {E D:Nat} (v:Value) (hl:1<=l) (ag:l<=4) (hp:Fit p E D) (hE:E<=170) (hD:D<=1099511627776) (h:PlV w q p v):Calls Tryz.prog 137 #[v,.int .i64 l] w (kah (fun b=>w.heap.size<=b) (p.xi l) w):=by
 have HP:=hid h;obtain ⟨A0,n0,c0,A,c,rfl,-⟩:=h.open_;obtain ⟨W,hW⟩:=n_m (w.alloc (.cells #[.int .i64 p.lv,.bool p.neg,.slice A0 n0 c0,.slice A p.cs.length c] 33));have ai:Ext w W:=by rw [<- hW]; exact (Ext.refl w).alloc _
 have Mc:PBx W (fun _=>True) w.heap.size p:=by rw [<- hW]; exact PBx.new (h.mono fun _ _=>trivial) _
 have HC:=hid hp;have HN:=hid (qab _ (HP.out.ext ai) hp.can (hp.copy_ hE) (by have:=hp.dm; omega));have aG:=hid ai;have qF:Hid (W.heap.size=w.heap.size+1):=hid (by rw [<- hW]; simp);have dJ:=hid Mc;have QF:=ai.size;obtain ⟨-,-,B0,b0n,b0c,B1,b1c,⟨b0,b1,b2,b3⟩,-⟩:=id Mc;have hE:W.cell? ⟨w.heap.size,0,none⟩=some (.int .i64 p.lv)/\W.cell? ⟨w.heap.size,1,none⟩=some (.bool p.neg)/\W.cell? ⟨w.heap.size,2,none⟩=some (.slice A0 n0 c0)/\W.cell? ⟨w.heap.size,3,none⟩=some (.slice A p.cs.length c):=by
  rw [<- hW]; exact ⟨by simp [go_sem],by simp [go_sem],by simp [go_sem],by simp [go_sem]⟩
 clear b0 b1 b2 b3 h hp Mc ai;obtain ⟨b0,b1,b2,b3⟩:=hE;unfold plV at HN;unfold plV;go_enter Tryz.func137,Tryz.ntmps137;go_wp2_with fail;clear hW b0 b1 b2 b3;refine HN.out.mono ?_;rintro e w1 ⟨v1,rfl,m1,x1⟩;obtain ⟨C0,j0,f0,C1,f1,rfl,-⟩:=id m1.open_;have qW:=dJ.out.ext x1;obtain ⟨-,bG,B0,b0n,b0c,B1,b1c,⟨b0,b1,b2,b3⟩,-⟩:=id qW;have hsW:w.heap.size < W.heap.size:=dJ.out.1;have xH:=qW.store (Q':=fun _=>True) (m1.mono fun b hb=>⟨trivial,by omega⟩);obtain ⟨W1,aV⟩:=n_m (((((w1.setCell ⟨w.heap.size,0,none⟩ (.int .i64 p.lv)).setCell ⟨w.heap.size,1,none⟩ (.bool p.neg)).setCell ⟨w.heap.size,2,none⟩ (.slice C0 j0 f0)).setCell ⟨w.heap.size,3,none⟩ (.slice C1 p.cs.length f1)));have X1:Hid (Ext w W1):=hid (by rw [<- aV]; exact ((((aG.out.trans x1).setCell (pj _) _).setCell (pj _) _).setCell (pj _) _).setCell (pj _) _);rw [aV] at xH;have yB:=hid xH;have Eh:=bG 0;have f1':=bG 1;have f2':=bG 2;have f3':=bG 3;have hd:W1.cell? ⟨w.heap.size,0,none⟩=some (.int .i64 p.lv)/\W1.cell? ⟨w.heap.size,1,none⟩=some (.bool p.neg)/\W1.cell? ⟨w.heap.size,2,none⟩=some (.slice C0 j0 f0)/\W1.cell? ⟨w.heap.size,3,none⟩=some (.slice C1 p.cs.length f1):=by
  rw [<- aV]; exact jb.set (dJ.out.ext x1).2.2.choose_spec.choose_spec.choose_spec.choose_spec.choose_spec.1
 have Dv:Hid (PlV W1 (fun b=>W.heap.size<=b) p (plV p (.slice C0 j0 f0) (.slice C1 p.cs.length f1))):=hid (by rw [<- aV]; exact qW.stays m1 (fun b hb=>by omega) _ _ _ _ _ _ _ _);have HD:Hid (∀ W',Ext W1 W'->W'.cell? ⟨w.heap.size,0,none⟩=some (.int .i64 p.lv)/\W'.cell? ⟨w.heap.size,1,none⟩=some (.bool p.neg)/\W'.cell? ⟨w.heap.size,2,none⟩=some (.slice C0 j0 f0)/\W'.cell? ⟨w.heap.size,3,none⟩=some (.slice C1 p.cs.length f1)):=hid (fun W' hx=>by
  have k:∀ i,W'.cell? ⟨w.heap.size,i,none⟩=W1.cell? ⟨w.heap.size,i,none⟩:=fun i=>hx.cell (p:=⟨w.heap.size,i,none⟩) yB.out.1
  exact ⟨(k 0).trans hd.1,(k 1).trans hd.2.1,(k 2).trans hd.2.2.1,(k 3).trans hd.2.2.2⟩)
 have fZ:=hid (kab _ Dv.out HC.out.can);unfold plV at fZ;unfold plV;clear qW xH bG m1 x1 HN;go_upto_region 2 with fail
 try rw [aV]
 clear aV b0 b1 b2 b3 Eh f1' f2' f3';obtain ⟨b0,b1,b2,b3⟩:=hd;go_wp2_with fail;clear b0 b1 b2 b3;refine fZ.out.mono ?_;rintro e w2 ⟨rfl,x2⟩
 by_cases hz:p.zp=true
 · have nV:p.xi l=[]:=by rw [Pl.xi,if_pos hz]
   rw [hz];have X2:=hid (X1.out.trans x2);have NG:=hid nV;clear x2 fZ hz nV;go_wp2_with fail;go_ret;rw [NG.out];exact ⟨_,rfl,⟨none,0,rfl,by simp,by omega,fun h=>absurd rfl h⟩,X2.out⟩
 · rw [show p.zp=false by simpa using hz];have X2:=hid (X1.out.trans x2);have Ye:=hid x2;have hdb:=Pl.kB hl p HC.out.can HC.out.ex;obtain ⟨n,wY⟩:∃ n:Nat,p.yq l=n:=⟨(p.yq l).toNat,by omega⟩;have hnE:n<=170:=by omega
   have nV:p.xi l=(p.zm l n).map Pl.nf:=by rw [Pl.Kl hl ag HC.out.can (fun e=>hz ((Pl.xj HC.out.can).2 e)),wY]; rfl
   have NG:=hid nV;have acV:Hid (∀ j,j < n+1->((p.zm l n).getD j Pl.zero).sz<=1073741824/\((p.zm l n).getD j Pl.zero).dm<=1099511627776/\((p.zm l n).getD j Pl.zero).nf.sz<=1099511627776):=hid (fun j hj=>by
    obtain ⟨h1,h2⟩:=Pl.ZS (l:=l) (n:=n) p j (by omega);obtain ⟨h3,h4⟩:=Pl.Jx (l:=l) (n:=n) p HC.out.can HC.out.ex j (by omega);have h5:=HC.out.small hE;have h6:=HC.out.dm;have h7:Fit ((p.zm l n).getD j Pl.zero).nf E D:=⟨Pl.xT _,h3,sw h4 HC.out.nr⟩
    exact ⟨by omega,by omega,h7.copy_ hE⟩)
   have oQ:=hid (fun (W':World) (hx:Ext W1 W')=>jb0 hl p _ HC.out.can (HC.out.copy_ hE) (Dv.out.ext hx));rw [wY] at oQ;have ou:=hid (fun (W':World) (hx:Ext W1 W')=>uc8 hl n (by omega) p _ HC.out.can (HC.out.copy_ hE) (Int.le_of_eq wY) (Dv.out.ext hx));unfold plV at oQ ou;clear x2 fZ hz wY nV hdb;go_wp2_with fail;refine (zao l _).mono ?_;rintro e w3 ⟨rfl,rfl⟩;rw [show (decide (1<=l) && decide (l<=4))=true by simp [hl,ag]];have aH:Hid (∀ W',Ext W1 W'->(Ext W1 W'/\W'.cell? ⟨w.heap.size,0,none⟩=some (.int .i64 p.lv)/\W'.cell? ⟨w.heap.size,1,none⟩=some (.bool p.neg)/\W'.cell? ⟨w.heap.size,2,none⟩=some (.slice C0 j0 f0)/\W'.cell? ⟨w.heap.size,3,none⟩=some (.slice C1 p.cs.length f1))):=hid (fun W' hx=>⟨hx,HD.out W' hx⟩);have Y0:=hid (Ye.out.drew);go_upto_region 6 with fail
   go_region_held3 (fun W' => Ext W1 W' /\ W'.cell? ⟨w.heap.size, 0, none⟩ = some (.int .i64 p.lv) /\ W'.cell? ⟨w.heap.size, 1, none⟩ = some (.bool p.neg) /\ W'.cell? ⟨w.heap.size, 2, none⟩ = some (.slice C0 j0 f0) /\ W'.cell? ⟨w.heap.size, 3, none⟩ = some (.slice C1 p.cs.length f1))
    (first | with_reducible exact aH.out _ Y0.out | with_reducible exact aH.out _ z1 | with_reducible exact aH.out _ z2)
    (first
      | (go_at_call 136
         refine (oQ.out _ Y0.out).mono ?_;rintro e w4 ⟨rfl,y4⟩
         have z1:Ext W1 w4:=Y0.out.trans y4)
      | (go_at_call 152
         refine (ou.out _ z1).mono ?_;rintro e w5 ⟨R,rfl,hR,ae,y5⟩;rw [Pl.xz]
         have z2:Ext W1 w5:=z1.trans y5))
   all_goals
    have X5:=hid (X1.out.trans z2);have uA:=(X1.out.trans z1).size;have bW:=X1.out.size;have dG:W.heap.size=w.heap.size+1:=qF.out;have gK:xh w5 (fun b=>w.heap.size<=b) R (p.zm l n):=ae.mono fun b hb=>by
     rcases hb with hb | hb <;> omega
    have mg:w.heap.size<=R:=by omega
    have acQ:Hid (∃ L,CoL n 0 (p.zm l n) L/\xh w5 (fun b=>w.heap.size<=b) R L):=hid ⟨p.zm l n,⟨Pl.xz l n p,fun j hj=>by rw [if_neg (by omega),pr,po hj]; rfl⟩,gK⟩;clear ae gK y4 y5 z1 z2 ou oQ aH hR;go_wp2_with fail
    go_loopw [26] (fun iv wr=>∃ k:Nat,k<=n+1/\iv=.int .i64 k/\Hid (Ext w wr/\∃ L,CoL n k (p.zm l n) L/\xh wr (fun b=>w.heap.size<=b) R L)) (fun iv _=>n+1 - (intOf iv).toNat)
    case atStart=>exact ⟨0,pS _,rfl,hid ⟨X5.out,acQ.out⟩⟩
    case round =>
     obtain ⟨k,hk,rfl,HI⟩:=hrel
     by_cases af:k < n+1
     · obtain ⟨nN,L,hL,bK⟩:=HI.out;have Ox:k < L.length:=by rw [hL.1]; exact af
       obtain ⟨D0,dY,ed,D1,lh,dZ,⟨r0,r1,r2,r3⟩,uY⟩:=bK.2.2 k Ox;have XN:=hL.2 k Ox;rw [if_neg (Nat.lt_irrefl k)] at XN;obtain ⟨rW,BJ,JO⟩:=acV.out k af;rw [<- XN] at rW BJ JO;have HNM:=hid (fun (W':World) (hx:Ext wr W')=>jay L[k] _ (uY.ext hx) rW JO BJ);have Jb:=hid bK;have nZ:=hid nN;have Nl:=hid hL;have VQ:=hid XN;generalize L[k]=x at *;unfold plV at HNM;have Hr:(k:Int) < (n:Int)+1:=by omega
       clear nN hL bK uY XN rW BJ JO HI;go_wp2_with fail;clear r0 r1 r2 r3;refine (HNM.out _ (Ext.refl wr)).mono ?_;rintro e w6 ⟨v6,rfl,m6,x6⟩;obtain ⟨G0,g0n,g0c,G1,g1c,rfl,-⟩:=id m6.open_;have dW:=Jb.out.ext x6;have hRr:R < wr.heap.size:=Jb.out.1;obtain ⟨I0,i0n,i0c,I1,i1n,i1c,⟨r0,r1,r2,r3⟩,-⟩:=dW.2.2 k Ox;have bG:=dW.2.1;have Eh:=bG (k * 4);have f1':=bG (k * 4+1);have f2':=bG (k * 4+2);have f3':=bG (k * 4+3);have dV:=(dW.xD k Ox x.nf (m6.mono fun b hb=>⟨by omega,by omega⟩)).1;have aA:=(((((nZ.out.trans x6).setCell mg (p:=⟨R,k * 4,none⟩) (.int .i64 x.nf.lv)).setCell mg (p:=⟨R,k * 4+1,none⟩) (.bool x.nf.neg)).setCell mg (p:=⟨R,k * 4+2,none⟩) (.slice G0 g0n g0c)).setCell mg (p:=⟨R,k * 4+3,none⟩) (.slice G1 x.nf.cs.length g1c));have hCo:CoL n (k+1) (p.zm l n) (L.set k x.nf):=by
        refine ⟨by rw [pH]; exact Nl.out.1,fun j hj=>?_⟩;rw [pH] at hj
        by_cases lJ:j=k
        · subst lJ;rw [rR,if_pos (tx _),VQ.out]
        · rw [sX (Ne.symm lJ),Nl.out.2 j hj]
          by_cases oH:j < k
          · rw [if_pos oH,if_pos (by omega)]
          · rw [if_neg oH,if_neg (by omega)]
       have uK:=hid (And.intro aA (⟨_,hCo,dV⟩:∃ L,CoL n (k+1) (p.zm l n) L/\xh _ (fun b=>w.heap.size<=b) R L));clear dW dV aA hCo bG m6 x6 HNM Nl VQ Jb nZ;unfold plV;go_wp2_with fail
       go_roundw
       case rel=>exact ⟨k+1,by omega,by go_num,uK⟩
       case measure=>simp only [intOf]; omega
     · have df:k=n+1:=by omega
       obtain ⟨nN,L,hL,bK⟩:=HI.out;have pJ:L=p.xi l:=by
        rw [NG.out];refine sR (by rw [hL.1,px,Pl.xz]) fun j h1 h2=>?_
        rw [hL.2 j h1,if_pos (by have:=hL.1; omega),rK,pr,po (by rw [px] at h2; exact h2)]
        rfl
       rw [pJ] at bK;have bT:Hid (kah (fun b=>w.heap.size<=b) (p.xi l) w (.returned (.slice (some ⟨R,0,none⟩) (n+1) (n+1))) wr):=hid ⟨_,rfl,⟨_,_,by rw [NG.out,px,Pl.xz],by rw [NG.out,px,Pl.xz]; exact pj _,by omega,fun _=>⟨R,rfl,mg,bK⟩⟩,nN⟩;clear nN hL bK pJ HI df;go_wp2_with fail;go_ret;exact bT.out
theorem gal {w:World} {q:Nat->Prop} {p:Pl} {l:Int} {E D:Nat} (v:Value) (hl:1<=l) (ag:l<=4) (hp:Fit p E D) (hE:E<=170) (hD:D<=1099511627776) (h:PlV w q p v):Calls Tryz.prog 111 #[v,.int .i64 l] w (uf (fun b=>w.heap.size<=b) (qo l p) w):=by
 have HP:=hid h;have rM:=hid hp;obtain ⟨A0,n0,c0,A,c,rfl,-⟩:=h.open_;obtain ⟨W,hW⟩:=n_m ((w.alloc (.cells #[.int .i64 p.lv,.bool p.neg,.slice A0 n0 c0,.slice A p.cs.length c] 33)).alloc (.cells #[.int .i64 0,.bool false,.slice none 0 0,.slice none 0 0] 33));have ai:Ext w W:=by rw [<- hW]; exact ((Ext.refl w).alloc _).alloc _
 have dG:W.heap.size=w.heap.size+1+1:=by rw [<- hW]; simp
 have hz:jf W (w.heap.size+1):=by
  have:=jf.new (w.alloc (.cells #[.int .i64 p.lv,.bool p.neg,.slice A0 n0 c0,.slice A p.cs.length c] 33)) 33;rw [hW] at this;simpa using this
 have bV:jb W w.heap.size p (.slice A0 n0 c0) (.slice A p.cs.length c):=by rw [<- hW]; exact (jb.new w p _ _ _).ext ((Ext.refl _).alloc _) (by simp)
 obtain ⟨b0,b1,b2,b3⟩:=bV;have ig:=hid (uaj _ hl ag hp hE hD (HP.out.ext ai));have aG:=hid ai;have HZ:=hid hz;unfold plV at ig;unfold plV;obtain ⟨X,hX⟩:=n_m (qo l p);rw [hX];have oO:=hid hX;clear h hp ai hz hX;go_enter Tryz.func111,Tryz.ntmps111;go_wp2_with fail;clear hW b0 b1 b2 b3;refine ig.out.mono ?_;rintro e w1 ⟨v1,rfl,⟨A1,k1,rfl,yY,hk2,hR⟩,x1⟩;have aQ:=HZ.out.ext x1 (by omega);have bW:=x1.size
 by_cases ax:p.xi l=[]
 · have hlen:(p.xi l).length=0:=by rw [ax]; rfl
   have wJ:qo l p=Pl.zero:=by unfold qo; rw [ax]; rfl
   rw [hlen];have HF:=hid (uf.congr (oO.out.symm.trans wJ) <| qf (q:=fun _=>False) (q':=fun b=>w.heap.size<=b) (aG.out.trans x1) (r6 _) aQ (Pl.xt w1 _ none 0 (by omega)) (fun b _ hb=>hb.elim));obtain ⟨⟨z0,z1,z2,z3⟩,zf⟩:=aQ;clear ax hlen wJ x1 ig hR;go_wp2_with fail;exact bodyPost_ret (v:=plV Pl.zero (.slice none 0 0) (.slice none 0 0)) (by simp [results,Tryz.results111,go_sem,z0,z1,z2,z3,plV,Pl.zero,Pl.lv,Pl.neg,Pl.cs]) rfl HF.out
 · obtain ⟨R,rfl,mg,ae⟩:=hR ax;obtain ⟨m,hm⟩:∃ m,(p.xi l).length=m+1:=⟨(p.xi l).length - 1,by have:=rA.2 ax; omega⟩;have Xl:=uu (l:=l) rM.out.can rM.out.ex;have lC:m < (p.xi l).length:=by omega
   obtain ⟨D0,dY,ed,D1,lh,dZ,⟨r0,r1,r2,r3⟩,uY⟩:=ae.2.2 m lC;have AV:qo l p=(p.xi l)[m]:=by
    unfold qo;rw [hm,ur,pr,po lC]; rfl
   have Qr:IntKind.i64.wrap (((m:Int)+1) - 1)=(m:Int):=by rw [rk]; omega
   have hm0:(((m:Int)+1) == 0)=false:=by simp; omega
   rw [hm];have HF:=hid (uf.congr (oO.out.symm.trans AV) <| qf (q':=fun b=>w.heap.size<=b) (aG.out.trans x1) (r6 _) aQ uY (fun b _ hb=>⟨by omega,by omega⟩));obtain ⟨⟨z0,z1,z2,z3⟩,zf⟩:=aQ;generalize (p.xi l)[m]=x at *;clear ax hm AV x1 ig hR ae uY;go_wp2_with fail;exact bodyPost_ret (v:=plV x (.slice D0 dY ed) (.slice D1 lh dZ)) (by simp [results,Tryz.results111,go_sem,z0,z1,z2,z3,plV]) rfl HF.out
theorem ybp {w:World} {q:Nat->Prop} {p:Pl} {l k:Int} {E D:Nat} (v:Value) (yY:-9223372036854775808<=k) (hk2:k<=9223372036854775807) (hl:1<=l) (ag:l<=4) (hp:Fit p E D) (hE:E<=170) (hD:D<=1099511627776) (h:PlV w q p v):Calls Tryz.prog 114 #[v,.int .i64 l,.int .i64 k] w (uf (fun b=>w.heap.size<=b) (ji l k p) w):=by
 have HP:=hid h;have rM:=hid hp;obtain ⟨A0,n0,c0,A,c,rfl,-⟩:=h.open_;obtain ⟨W,hW⟩:=n_m ((w.alloc (.cells #[.int .i64 p.lv,.bool p.neg,.slice A0 n0 c0,.slice A p.cs.length c] 33)).alloc (.cells #[.int .i64 0,.bool false,.slice none 0 0,.slice none 0 0] 33));have ai:Ext w W:=by rw [<- hW]; exact ((Ext.refl w).alloc _).alloc _
 have dG:W.heap.size=w.heap.size+1+1:=by rw [<- hW]; simp
 have hz:jf W (w.heap.size+1):=by
  have:=jf.new (w.alloc (.cells #[.int .i64 p.lv,.bool p.neg,.slice A0 n0 c0,.slice A p.cs.length c] 33)) 33;rw [hW] at this;simpa using this
 have bV:jb W w.heap.size p (.slice A0 n0 c0) (.slice A p.cs.length c):=by rw [<- hW]; exact (jb.new w p _ _ _).ext ((Ext.refl _).alloc _) (by simp)
 obtain ⟨b0,b1,b2,b3⟩:=bV;have ig:=hid (uaj _ hl ag hp hE hD (HP.out.ext ai));have aG:=hid ai;have HZ:=hid hz;unfold plV at ig;unfold plV;obtain ⟨X,hX⟩:=n_m (ji l k p);rw [hX];have oO:=hid hX;clear h hp ai hz hX;go_enter Tryz.func114,Tryz.ntmps114;go_wp2_with fail;clear hW b0 b1 b2 b3;refine ig.out.mono ?_;rintro e w1 ⟨v1,rfl,⟨A1,k1,rfl,yY,hk2,hR⟩,x1⟩;have aQ:=HZ.out.ext x1 (by omega);have bW:=x1.size
 by_cases qQ:k < 0
 · have wJ:ji l k p=Pl.zero:=by unfold ji; rw [if_pos qQ]
   have HF:=hid (uf.congr (oO.out.symm.trans wJ) <| qf (q:=fun _=>False) (q':=fun b=>w.heap.size<=b) (aG.out.trans x1) (r6 _) aQ (Pl.xt w1 _ none 0 (by omega)) (fun b _ hb=>hb.elim));obtain ⟨⟨z0,z1,z2,z3⟩,zf⟩:=aQ;clear wJ x1 ig hR;go_wp2_with fail;exact bodyPost_ret (v:=plV Pl.zero (.slice none 0 0) (.slice none 0 0)) (by simp [results,Tryz.results114,go_sem,z0,z1,z2,z3,plV,Pl.zero,Pl.lv,Pl.neg,Pl.cs]) rfl HF.out
 by_cases Hr:((p.xi l).length:Int)<=k
 · have wJ:ji l k p=Pl.zero:=by
    unfold ji;rw [if_neg qQ,pr,sA (by omega)]; rfl
   have Xl:=uu (l:=l) rM.out.can rM.out.ex;generalize (p.xi l).length=m at *;have HF:=hid (uf.congr (oO.out.symm.trans wJ) <| qf (q:=fun _=>False) (q':=fun b=>w.heap.size<=b) (aG.out.trans x1) (r6 _) aQ (Pl.xt w1 _ none 0 (by omega)) (fun b _ hb=>hb.elim));obtain ⟨⟨z0,z1,z2,z3⟩,zf⟩:=aQ;clear wJ x1 ig hR;go_wp2_with fail;exact bodyPost_ret (v:=plV Pl.zero (.slice none 0 0) (.slice none 0 0)) (by simp [results,Tryz.results114,go_sem,z0,z1,z2,z3,plV,Pl.zero,Pl.lv,Pl.neg,Pl.cs]) rfl HF.out
 · obtain ⟨R,rfl,mg,ae⟩:=hR (by intro e; rw [e] at Hr; simp at Hr; omega);have Xl:=uu (l:=l) rM.out.can rM.out.ex;obtain ⟨m,rfl⟩:∃ m:Nat,k=m:=⟨k.toNat,by omega⟩;have lC:m < (p.xi l).length:=by omega
   obtain ⟨D0,dY,ed,D1,lh,dZ,⟨r0,r1,r2,r3⟩,uY⟩:=ae.2.2 m lC;have AV:ji l m p=(p.xi l)[m]:=by
    unfold ji;rw [if_neg qQ,sT,pr,po lC]; rfl
   have HF:=hid (uf.congr (oO.out.symm.trans AV) <| qf (q':=fun b=>w.heap.size<=b) (aG.out.trans x1) (r6 _) aQ uY (fun b _ hb=>⟨by omega,by omega⟩));obtain ⟨⟨z0,z1,z2,z3⟩,zf⟩:=aQ;generalize (p.xi l)[m]=x at *;clear AV x1 ig hR ae uY;go_wp2_with fail;exact bodyPost_ret (v:=plV x (.slice D0 dY ed) (.slice D1 lh dZ)) (by simp [results,Tryz.results114,go_sem,z0,z1,z2,z3,plV]) rfl HF.out
theorem xau {L:List Pl} {E D:Nat} (h:∀ c ∈ L,Fit c E D) (hl:L.length<=E+1) (hE:E<=62):vk L<=1073741823:=by
 have h1:∀ L:List Pl,(∀ c ∈ L,Fit c E D)->vk L<=L.length * (E+2) ^ 4:=fun L=>by
  induction L with
  | nil=>intro _; rw [vk]; exact pS _
  | cons c r ih =>
    intro h;have a:=ih fun d hd=>h d (by simp [hd])
    have b:=(h c (by simp)).sz;rw [vk,pL,PJ];omega
 have h2:(E+2) ^ 4<=64 ^ 4:=Pc (by omega) 4;have h3:L.length * (E+2) ^ 4<=63 * 64 ^ 4:=Re (by omega) h2;have h4:63 * 64 ^ 4<=1073741823:=by decide
 have:=h1 L h;omega
theorem xh.take {W:World} {q:Nat->Prop} {R:Nat} {l:List Pl} (h:xh W q R l) (m:Nat):xh W q R (l.take m):=by
 obtain ⟨h1,h2,h3⟩:=h;refine ⟨h1,h2,fun i hi=>?_⟩;rw [pA] at hi;rw [tz];exact h3 i (by omega)
theorem wal {w:World} {q:Nat->Prop} {L:List Pl} {l:Int} {A:Option Addr} {c:Nat} (hl:1<=l) (ag:l<=4) (hA:jd w q L A 0) (hc:L.length<=c) (dO:c<=9223372036854775807) (hsz:vk L<=1073741823) (gY:ww L<=1099511627776) (vG:(joinL l L).sz<=1099511627776) :
 Calls Tryz.prog 13 #[.slice A L.length c,.int .i64 l] w (uf (fun b=>w.heap.size<=b) (joinL l L) w):=by
 obtain ⟨W,hW⟩:=n_m (w.alloc (.cells #[.int .i64 0,.bool false,.slice none 0 0,.slice none 0 0] 33));have ai:Ext w W:=by rw [<- hW]; exact (Ext.refl w).alloc _
 have dG:W.heap.size=w.heap.size+1:=by rw [<- hW]; simp
 have hz:jf W w.heap.size:=by rw [<- hW]; exact jf.new w _
 have hj:joinL l L=(Pl.mk l false [] L).nf:=by unfold joinL; rw [if_pos ⟨hl,ag⟩]
 have HN:=hid (jay (Pl.mk l false [] L) (plV (.mk l false [] L) (.slice none 0 0) (.slice A L.length c)) (PlV.mk (t:=.mk l false [] L) (jc.nil W) hc dO (hA.ext ai)) (by rw [Pl.sz]; omega) (by rw [<- hj]; exact vG) (by rw [Pl.dm]; simp only [r8]; omega));rw [<- hj] at HN;unfold plV at HN;simp only [Pl.lv,Pl.neg] at HN;have aG:=hid ai;have HZ:=hid hz;generalize joinL l L=X at *;clear hz ai hA hj hsz gY vG;go_enter Tryz.func13,Tryz.ntmps13;go_wp2_with fail
 try rw [hW]
 refine (zao l _).mono ?_;rintro e w0 ⟨rfl,rfl⟩;rw [show (decide (1<=l) && decide (l<=4))=true by simp [hl,ag]];go_wp2_with fail;clear hW;refine HN.out.mono ?_;rintro e w1 ⟨v1,rfl,m1,x1⟩;obtain ⟨D0,dY,ed,D1,dZ,rfl,-⟩:=id m1.open_;have aQ:=HZ.out.ext x1 (by omega);have bW:=x1.size;have HF:=hid (qf (q':=fun b=>w.heap.size<=b) (aG.out.trans x1) (pj _) aQ m1 (fun b _ hb=>⟨by omega,by omega⟩));obtain ⟨⟨z0,z1,z2,z3⟩,zf⟩:=aQ;clear m1 x1 HN;unfold plV;go_wp2_with fail;exact bodyPost_ret (v:=plV X (.slice D0 dY ed) (.slice D1 X.cs.length dZ)) (by simp [results,Tryz.results13,go_sem,z0,z1,z2,z3,plV]) rfl HF.out
theorem qap {L:List Pl} {E D:Nat} (h:∀ c ∈ L,Fit c E D):ww L<=D:=by
 induction L with
 | nil=>rw [ww]; exact pS _
 | cons c r ih =>
   have a:=ih fun d hd=>h d (by simp [hd])
   have b:=(h c (by simp)).dm;rw [ww];omega
theorem vcw {w:World} {q:Nat->Prop} {p:Pl} {l:Int} {E D:Nat} (v:Value) (hl:1<=l) (ag:l<=4) (hp:Fit p E D) (OY:E<=62) (hD:D<=1099511627776) (h:PlV w q p v):Calls Tryz.prog 110 #[v,.int .i64 l] w (uf (fun b=>w.heap.size<=b) (xak l p) w):=by
 have HP:=hid h;have rM:=hid hp;obtain ⟨A0,n0,c0,A,c,rfl,-⟩:=h.open_;obtain ⟨W,hW⟩:=n_m ((w.alloc (.cells #[.int .i64 p.lv,.bool p.neg,.slice A0 n0 c0,.slice A p.cs.length c] 33)).alloc (.cells #[.int .i64 0,.bool false,.slice none 0 0,.slice none 0 0] 33));have ai:Ext w W:=by rw [<- hW]; exact ((Ext.refl w).alloc _).alloc _
 have dG:W.heap.size=w.heap.size+1+1:=by rw [<- hW]; simp
 have hz:jf W (w.heap.size+1):=by
  have:=jf.new (w.alloc (.cells #[.int .i64 p.lv,.bool p.neg,.slice A0 n0 c0,.slice A p.cs.length c] 33)) 33;rw [hW] at this;simpa using this
 have bV:jb W w.heap.size p (.slice A0 n0 c0) (.slice A p.cs.length c):=by rw [<- hW]; exact (jb.new w p _ _ _).ext ((Ext.refl _).alloc _) (by simp)
 obtain ⟨b0,b1,b2,b3⟩:=bV;have ig:=hid (uaj _ hl ag hp (by omega) hD (HP.out.ext ai));have aG:=hid ai;have HZ:=hid hz;unfold plV at ig;unfold plV;obtain ⟨X,hX⟩:=n_m (xak l p);rw [hX];have oO:=hid hX;clear h hp ai hz hX;go_enter Tryz.func110,Tryz.ntmps110;go_wp2_with fail;clear hW b0 b1 b2 b3;refine ig.out.mono ?_;rintro e w1 ⟨v1,rfl,⟨A1,k1,rfl,yY,hk2,hR⟩,x1⟩;have aQ:=HZ.out.ext x1 (by omega);have bW:=x1.size
 by_cases ax:p.xi l=[]
 · have hlen:(p.xi l).length=0:=by rw [ax]; rfl
   have wJ:xak l p=Pl.zero:=by
    unfold xak;rw [ax];exact Pl.qz (qae _ _) Pl.qS fun ρ=>by rw [List.dropLast_nil,zad hl ag,Pl.qu]; rfl
   rw [hlen];have HF:=hid (uf.congr (oO.out.symm.trans wJ) <| qf (q:=fun _=>False) (q':=fun b=>w.heap.size<=b) (aG.out.trans x1) (r6 _) aQ (Pl.xt w1 _ none 0 (by omega)) (fun b _ hb=>hb.elim));obtain ⟨⟨z0,z1,z2,z3⟩,zf⟩:=aQ;clear ax hlen wJ x1 ig hR;go_wp2_with fail;exact bodyPost_ret (v:=plV Pl.zero (.slice none 0 0) (.slice none 0 0)) (by simp [results,Tryz.results110,go_sem,z0,z1,z2,z3,plV,Pl.zero,Pl.lv,Pl.neg,Pl.cs]) rfl HF.out
 · obtain ⟨R,rfl,mg,ae⟩:=hR ax;obtain ⟨m,hm⟩:∃ m,(p.xi l).length=m+1:=⟨(p.xi l).length - 1,by have:=rA.2 ax; omega⟩;have Xl:=uu (l:=l) rM.out.can rM.out.ex;have qB:(p.xi l).dropLast=(p.xi l).take m:=by rw [List.dropLast_eq_take,hm,ur]
   have kD:∀ c ∈ (p.xi l).take m,Fit c E D:=fun c hc=>Pl.zP rM.out c (tl hc)
   have GI:((p.xi l).take m).length=m:=by rw [pA]; omega
   have HJ:=hid (wal (l:=l) (c:=k1) hl ag ((ae.take m).fin (by omega)) (by omega) hk2 (xau kD (by omega) OY) (by have:=qap kD; omega) (by
    have:=gbd (l:=l) rM.out (by have:B32=4294967296:=rfl; omega);unfold xak at this;rw [qB] at this
    exact this.copy_ (by omega)))
   rw [GI] at HJ;have Jc:Hid (X=joinL l ((p.xi l).take m)):=hid (by rw [<- qB]; exact oO.out.symm);rw [<- Jc.out] at HJ;have Qr:IntKind.i64.wrap (((m:Int)+1) - 1)=(m:Int):=by rw [rk]; omega
   have hm0:(((m:Int)+1) == 0)=false:=by simp; omega
   have Oq:(m:Int)<=(k1:Int):=by omega
   have X1:=hid (aG.out.trans x1);have eX:=hid aQ;have rW:w.heap.size+1 < w1.heap.size:=by omega
   rw [hm];clear ax hm qB kD GI ae hR ig x1 aQ;go_wp2_with fail;refine HJ.out.mono ?_;rintro e w2 ⟨v2,rfl,m2,x2⟩;obtain ⟨D0,dY,ed,D1,dZ,rfl,-⟩:=id m2.open_;have aQ:=eX.out.ext x2 rW;have HF:=hid (qf (q':=fun b=>w.heap.size<=b) (X1.out.trans x2) (r6 _) aQ m2 (fun b _ hb=>⟨by omega,by omega⟩));obtain ⟨⟨z0,z1,z2,z3⟩,zf⟩:=aQ;clear m2 x2 HJ;unfold plV;go_wp2_with fail;exact bodyPost_ret (v:=plV X (.slice D0 dY ed) (.slice D1 X.cs.length dZ)) (by simp [results,Tryz.results110,go_sem,z0,z1,z2,z3,plV]) rfl HF.out
end Go.Proofs.YtcepajijiabkmaaGreat
