/- Layer 25: Chain and Psc, over a contract of descend. -/
import Derived.Test.YtklnlgnnlmdibaaGreatPscV
set_option linter.unusedSimpArgs false
set_option linter.unusedVariables false
set_option maxRecDepth 100000
set_option maxHeartbeats 8000000
namespace Go.Proofs.YtklnlgnnlmdibaaGreat
open Lib (hid)
open Go.RowKit
def uad (q:Nat->Prop) (L:List Pl) (w:World) (e:Ending) (w':World):Prop:=∃ v,e=.returned (.tuple #[v,.int .i64 0])/\wae w' q v L/\Ext w w'
def vcz (c:Pl):Prop:=c.Can/\c.sz<=1099511627776/\c.dm<=35184372088832
theorem ua4 {w : World} {q0 q1 : Nat -> Prop} {f g : Pl} {l : Int} {E D : Nat} {L : List Pl} (v0 v1 : Value) (hl : 1 <= l) (ag : l <= 4) (h0 : PlV w q0 f v0) (h1 : PlV w q1 g v1) (hf : Fit f E D) (hg : Fit g E D) (hE : E <= 62) (hD : D <= 1099511627776) (rH : 0 < mdg l f) (bI : 0 < mdg l g) (IV : mdg l f <= 1000) (IL : mdg l g <= 1000)
 (Vg:L.length<=1000) (Vj:∀ c ∈ L,vcz c)
 (HD:Hid ((mdg l g<=mdg l f/\∀ W',Ext w W'->Calls Tryz.prog 125 #[v0,v1,.int .i64 l,.int .i64 (mdg l f),.int .i64 (mdg l g)] W' (gag (fun b=>W'.heap.size<=b) L W'))\/(mdg l f=1/\mdg l g=2/\L.length=1/\∀ W',Ext w W'->Calls Tryz.prog 125 #[v1,v0,.int .i64 l,.int .i64 2,.int .i64 1] W' (gag (fun b=>W'.heap.size<=b) L W')))) :
 Calls Tryz.prog 99 #[v0,v1,.int .i64 l] w (uad (fun b=>w.heap.size<=b) L w):=by
 have H0:=hid h0;have H1:=hid h1;obtain ⟨A0,m0,e0,B0,f0,rfl,-⟩:=h0.open_;obtain ⟨A1,m1,e1,B1,f1,rfl,-⟩:=h1.open_;obtain ⟨DJ,W,fU,jY,fD,aC,bU,hx1,aV,aX⟩:=b_2 w f g (.slice A0 m0 e0) (.slice B0 f.cs.length f0) (.slice A1 m1 e1) (.slice B1 g.cs.length f1);have HX:=hid (aC.trans hx1);have dC:=hid aV;have dG:=hid aX;have eQ:W.heap.size=w.heap.size+1+1:=bU;clear h0 h1 aC hx1 aV aX;have HC:=hid (fun (W':World) (hx:Ext w W')=>check_any _ _ hl ag (H0.out.ext hx) (H1.out.ext hx) hf.can hg.can (vag (l:=l) (by omega)) (vag (l:=l) (by omega)));have Hf:=hid (fun (W':World) (hx:Ext w W')=>zad (l:=l) _ hf.can (hf.copy_ (by omega)) (by have:=hf.dm; omega) (H0.out.ext hx));have BN:=hid (fun (W':World) (hx:Ext w W')=>zad (l:=l) _ hg.can (hg.copy_ (by omega)) (by have:=hg.dm; omega) (H1.out.ext hx));have JB:=hid Vj;have aG:Hid (∀ W',Ext W W'->(Ext W W'/\(jb W' (w.heap.size) f (.slice A0 m0 e0) (.slice B0 f.cs.length f0))/\(jb W' (w.heap.size+1) g (.slice A1 m1 e1) (.slice B1 g.cs.length f1)))):=hid (fun W' hx=>⟨hx,dC.out.ext hx (by omega),dG.out.ext hx (by omega)⟩);obtain ⟨m,hm⟩:=n_m (mdg l f);obtain ⟨n,hn⟩:=n_m (mdg l g);rw [hm] at Hf rH IV HD;rw [hn] at BN bI IL HD;obtain ⟨b0,b1,b2,b3⟩:=dG.out;obtain ⟨a0,a1,a2,a3⟩:=dC.out;unfold plV at HC Hf BN HD ⊢;clear hf hg hm hn Vj hE hD;go_enter Tryz.func99,Tryz.ntmps99;go_wp2_with fail;clear fU jY;clear a0 a1 a2 a3 b0 b1 b2 b3;refine (HC.out _ HX.out).mono ?_;rintro e w1 ⟨rfl,x1⟩;have DL:=hid eQ;clear eQ fD bU HC;have y0:Ext W w1.drew:=x1.drew;go_upto_region 4 with fail;refine wp_region_held_drew (S:=fun W'=>Ext W W'/\(jb W' (w.heap.size) f (.slice A0 m0 e0) (.slice B0 f.cs.length f0))/\(jb W' (w.heap.size+1) g (.slice A1 m1 e1) (.slice B1 g.cs.length f1))) (by kernel_rfl) (aG.out _ y0) (fun hHeld=>?_);refine tk 0 ?_ (hy:=Or.inl ⟨by rfl,by intro w' aK; obtain ⟨-,⟨k0,k1,k2,k3⟩,k4,k5,k6,k7⟩:=aK; go_simp; (try (with_reducible rfl))⟩);refine tk 1 ?_;refine tk 3 ?_ (hy:=Or.inl ⟨by rfl,by intro w' aK; obtain ⟨-,⟨k0,k1,k2,k3⟩,k4,k5,k6,k7⟩:=aK; go_simp; (try (with_reducible rfl))⟩);refine tk 4 ?_;refine r_1 2 fun K hK=>?_
 go_simp
 go_at_call 21
 refine (Hf.out _ (HX.out.trans y0)).mono ?_;rintro e w2 ⟨rfl,x2⟩;have y2:=y0.trans x2;refine k_t hK (aG.out _ y2) fun hHeld=>?_
 clear hK K;refine r_1 5 fun K hK=>?_
 go_simp
 go_at_call 21
 refine (BN.out _ (HX.out.trans y2)).mono ?_;rintro e w3 ⟨rfl,x3⟩;have y3:=y2.trans x3;refine k_t hK (aG.out _ y3) fun hHeld=>?_
 clear hK K;refine tk 6 ?_;refine tk 7 ?_;refine w_d ?_;obtain ⟨-,⟨a0,a1,a2,a3⟩,b0,b1,b2,b3⟩:=hHeld;have Y3:=hid y3;clear x1 x2 x3 y0 y2 y3 aG Hf BN;have SI:¬ min m n=0:=by omega
 rcases HD.out with ⟨SH,hd⟩ | ⟨rfl,rfl,hL1,hd⟩
 · have W9:=hid (hd _ (HX.out.trans Y3.out));clear hd HD;go_wp2_with fail;refine W9.out.mono ?_;rintro e w5 ⟨v5,rfl,jR,x5⟩;clear W9;have jR:=jR.mono (q':=fun b=>W.heap.size<=b) (fun b hb=>by have:=Y3.out.size; omega);have x5:=Y3.out.trans x5;obtain ⟨Rv,rc,rfl,mX,pz,H6⟩:=id jR;have lC:=hid H6;have X5:=hid x5;clear H6 jR;go_wp2_with fail;clear a0 a1 a2 a3 b0 b1 b2 b3
   go_loopw [47] (fun iv wr=>∃ k:Nat,k<=L.length/\iv=.int .i64 k/\Hid (Ext W wr/\wae wr (fun b=>W.heap.size<=b) (.slice Rv L.length rc) L)) (fun iv _=>L.length - (intOf iv).toNat)
   case atStart=>exact ⟨0,Nat.zero_le _,rfl,hid ⟨X5.out,Rv,rc,rfl,mX,pz,lC.out⟩⟩
   case round =>
    obtain ⟨k,hk,rfl,HI⟩:=hrel
    by_cases af:k < L.length
    · obtain ⟨hx,Rv',rc',e',-,-,ae⟩:=HI.out;injection e' with e1 e2 e3
      subst e1 e3;obtain ⟨R,rfl,Jc,ae⟩:=ae (fun e=>by rw [e] at af; simp at af);obtain ⟨C0,j0,k0,C1,j1,k1,⟨g0,g1,g2,g3⟩,dD⟩:=ae.el k af;have zX:=ae.2.1;have HN:=hid (qaa _ dD (JB.out _ (List.getElem_mem af)).1 (JB.out _ (List.getElem_mem af)).2.1 (JB.out _ (List.getElem_mem af)).2.2);have dO:Hid (L.set k L[k]=L):=hid (List.set_getElem_self af);have aA:=hid ae;have mF:=hid hx;have rO:=hid Jc;have gZ:=ae.1;generalize L[k]=c at *;unfold plV at HN;clear dD ae hx Jc HI;go_wp2_with fail;clear g0 g1 g2 g3;refine HN.out.mono ?_;rintro e w6 ⟨v6,rfl,p6,x6⟩;obtain ⟨D0,i0,h0,D1,h1,rfl,-⟩:=id p6.open_;have aU:=((aA.out.ext x6).set_ k af c (p6.mono fun b hb=>by have:=aA.out.1; have:=mF.out.size; exact ⟨by omega,by omega⟩)).1;rw [dO.out] at aU;obtain ⟨E0,m0,n0,E1,m1,n1,⟨s0,s1,s2,s3⟩,-⟩:=(aA.out.ext x6).el k af;have U9:=(aA.out.ext x6).2.1;obtain ⟨V,hV⟩:=n_m (((((w6.setCell ⟨R,k * 4,none⟩ (.int .i64 c.lv)).setCell ⟨R,k * 4+1,none⟩ (.bool c.neg)).setCell ⟨R,k * 4+2,none⟩ (.slice D0 i0 h0)).setCell ⟨R,k * 4+3,none⟩ (.slice D1 c.cs.length h1)));have bV:Hid (Ext W V/\wae V (fun b=>W.heap.size<=b) (.slice (some ⟨R,0,none⟩) L.length rc) L):=hid (by
       have hq:=rO.out;refine ⟨by rw [<- hV]; exact (((((mF.out.trans x6).setCell hq _).setCell hq _).setCell hq _).setCell hq _),_,_,rfl,mX,pz,fun _=>⟨R,rfl,hq,?_⟩⟩
       rw [<- hV]; exact aU)
      unfold plV;clear aU p6 x6 HN aA dO;go_wp2_with fail;clear s0 s1 s2 s3
      go_roundw
      case rel=>exact ⟨k+1,by omega,by first | go_num | rfl,bV.out⟩
      case measure=>simp [intOf]; omega
    · obtain rfl:k=L.length:=by omega
      have HF:=hid HI.out;clear HI;go_wp2_with fail;exact bodyPost_ret (v:=.tuple #[.slice Rv L.length rc,.int .i64 0]) (by simp [results,Tryz.results99,go_sem]) rfl ⟨_,rfl,HF.out.2.mono fun b hb=>by have:=HX.out.size; omega,HX.out.trans HF.out.1⟩
 · have W9:=hid (hd _ (HX.out.trans Y3.out));have Zy:=hid hL1;clear hd HD hL1;go_wp2_with fail;refine W9.out.mono ?_;rintro e w5 ⟨v5,rfl,jR,x5⟩;clear W9;have jR:=jR.mono (q':=fun b=>W.heap.size<=b) (fun b hb=>by have:=Y3.out.size; omega);have x5:=Y3.out.trans x5;obtain ⟨Rv,rc,rfl,mX,pz,H6⟩:=id jR;have lC:=hid H6;have X5:=hid x5;clear H6 jR;go_wp2_with fail;clear a0 a1 a2 a3 b0 b1 b2 b3
   go_loopw [47] (fun iv wr=>∃ k:Nat,k<=L.length/\iv=.int .i64 k/\Hid (Ext W wr/\wae wr (fun b=>W.heap.size<=b) (.slice Rv L.length rc) L)) (fun iv _=>L.length - (intOf iv).toNat)
   case atStart=>exact ⟨0,Nat.zero_le _,rfl,hid ⟨X5.out,Rv,rc,rfl,mX,pz,lC.out⟩⟩
   case round =>
    obtain ⟨k,hk,rfl,HI⟩:=hrel
    by_cases af:k < L.length
    · obtain ⟨hx,Rv',rc',e',-,-,ae⟩:=HI.out;injection e' with e1 e2 e3
      subst e1 e3;obtain ⟨R,rfl,Jc,ae⟩:=ae (fun e=>by rw [e] at af; simp at af);obtain ⟨C0,j0,k0,C1,j1,k1,⟨g0,g1,g2,g3⟩,dD⟩:=ae.el k af;have zX:=ae.2.1;have HN:=hid (qaa _ dD (JB.out _ (List.getElem_mem af)).1 (JB.out _ (List.getElem_mem af)).2.1 (JB.out _ (List.getElem_mem af)).2.2);have dO:Hid (L.set k L[k]=L):=hid (List.set_getElem_self af);have aA:=hid ae;have mF:=hid hx;have rO:=hid Jc;have gZ:=ae.1;generalize L[k]=c at *;unfold plV at HN;clear dD ae hx Jc HI;have xH:k=0:=by have:=Zy.out; omega
      subst xH;simp only [Nat.zero_mul,Nat.zero_add] at g0 g1 g2 g3;go_wp2_with fail;clear g0 g1 g2 g3;refine HN.out.mono ?_;rintro e w6 ⟨v6,rfl,p6,x6⟩;obtain ⟨D0,i0,h0,D1,h1,rfl,-⟩:=id p6.open_;have aU:=((aA.out.ext x6).set_ 0 af c (p6.mono fun b hb=>by have:=aA.out.1; have:=mF.out.size; exact ⟨by omega,by omega⟩)).1;rw [dO.out] at aU;obtain ⟨E0,m0,n0,E1,m1,n1,⟨s0,s1,s2,s3⟩,-⟩:=(aA.out.ext x6).el 0 af;have U9:=(aA.out.ext x6).2.1;simp only [Nat.zero_mul,Nat.zero_add] at s0 s1 s2 s3 aU;obtain ⟨V,hV⟩:=n_m (((((w6.setCell ⟨R,0,none⟩ (.int .i64 c.lv)).setCell ⟨R,1,none⟩ (.bool c.neg)).setCell ⟨R,2,none⟩ (.slice D0 i0 h0)).setCell ⟨R,3,none⟩ (.slice D1 c.cs.length h1)));have bV:Hid (Ext W V/\wae V (fun b=>W.heap.size<=b) (.slice (some ⟨R,0,none⟩) L.length rc) L):=hid (by
       have hq:=rO.out;refine ⟨by rw [<- hV]; exact (((((mF.out.trans x6).setCell hq _).setCell hq _).setCell hq _).setCell hq _),_,_,rfl,mX,pz,fun _=>⟨R,rfl,hq,?_⟩⟩
       rw [<- hV]; exact aU)
      unfold plV;clear aU p6 x6 HN aA dO;go_wp2_with fail;clear s0 s1 s2 s3
      go_roundw
      case rel=>exact ⟨0+1,by omega,by first | go_num | rfl,bV.out⟩
      case measure=>simp [intOf]; omega
    · obtain rfl:k=L.length:=by omega
      have HF:=hid HI.out;clear HI;go_wp2_with fail;exact bodyPost_ret (v:=.tuple #[.slice Rv L.length rc,.int .i64 0]) (by simp [results,Tryz.results99,go_sem]) rfl ⟨_,rfl,HF.out.2.mono fun b hb=>by have:=HX.out.size; omega,HX.out.trans HF.out.1⟩
theorem chain_nil {w:World} {q0 q1:Nat->Prop} {f g:Pl} {l:Int} {E D:Nat} (v0 v1:Value) (hl:1<=l) (ag:l<=4) (h0:PlV w q0 f v0) (h1:PlV w q1 g v1) (hf:Fit f E D) (hg:Fit g E D) (hE:E<=62) (hD:D<=1099511627776) (rH:0<=mdg l f) (bI:0<=mdg l g) (uG:min (mdg l f) (mdg l g)=0) :
 Calls Tryz.prog 99 #[v0,v1,.int .i64 l] w (uad (fun b=>w.heap.size<=b) [] w):=by
 have H0:=hid h0;have H1:=hid h1;obtain ⟨A0,m0,e0,B0,f0,rfl,-⟩:=h0.open_;obtain ⟨A1,m1,e1,B1,f1,rfl,-⟩:=h1.open_;obtain ⟨DJ,W,fU,jY,fD,aC,bU,hx1,aV,aX⟩:=b_2 w f g (.slice A0 m0 e0) (.slice B0 f.cs.length f0) (.slice A1 m1 e1) (.slice B1 g.cs.length f1);have HX:=hid (aC.trans hx1);have dC:=hid aV;have dG:=hid aX;have eQ:W.heap.size=w.heap.size+1+1:=bU;clear h0 h1 aC hx1 aV aX;have HC:=hid (fun (W':World) (hx:Ext w W')=>check_any _ _ hl ag (H0.out.ext hx) (H1.out.ext hx) hf.can hg.can (vag (l:=l) (by omega)) (vag (l:=l) (by omega)));have Hf:=hid (fun (W':World) (hx:Ext w W')=>zad (l:=l) _ hf.can (hf.copy_ (by omega)) (by have:=hf.dm; omega) (H0.out.ext hx));have BN:=hid (fun (W':World) (hx:Ext w W')=>zad (l:=l) _ hg.can (hg.copy_ (by omega)) (by have:=hg.dm; omega) (H1.out.ext hx));have aG:Hid (∀ W',Ext W W'->(Ext W W'/\(jb W' (w.heap.size) f (.slice A0 m0 e0) (.slice B0 f.cs.length f0))/\(jb W' (w.heap.size+1) g (.slice A1 m1 e1) (.slice B1 g.cs.length f1)))):=hid (fun W' hx=>⟨hx,dC.out.ext hx (by omega),dG.out.ext hx (by omega)⟩);obtain ⟨m,hm⟩:=n_m (mdg l f);obtain ⟨n,hn⟩:=n_m (mdg l g);rw [hm] at Hf rH uG;rw [hn] at BN bI uG;obtain ⟨b0,b1,b2,b3⟩:=dG.out;obtain ⟨a0,a1,a2,a3⟩:=dC.out;unfold plV at HC Hf BN ⊢;clear hf hg hm hn hE hD;go_enter Tryz.func99,Tryz.ntmps99;go_wp2_with fail;clear fU jY;clear a0 a1 a2 a3 b0 b1 b2 b3;refine (HC.out _ HX.out).mono ?_;rintro e w1 ⟨rfl,x1⟩;have DL:=hid eQ;clear eQ fD bU HC;have y0:Ext W w1.drew:=x1.drew;go_upto_region 4 with fail;refine wp_region_held_drew (S:=fun W'=>Ext W W'/\(jb W' (w.heap.size) f (.slice A0 m0 e0) (.slice B0 f.cs.length f0))/\(jb W' (w.heap.size+1) g (.slice A1 m1 e1) (.slice B1 g.cs.length f1))) (by kernel_rfl) (aG.out _ y0) (fun hHeld=>?_);refine tk 0 ?_ (hy:=Or.inl ⟨by rfl,by intro w' aK; obtain ⟨-,⟨k0,k1,k2,k3⟩,k4,k5,k6,k7⟩:=aK; go_simp; (try (with_reducible rfl))⟩);refine tk 1 ?_;refine tk 3 ?_ (hy:=Or.inl ⟨by rfl,by intro w' aK; obtain ⟨-,⟨k0,k1,k2,k3⟩,k4,k5,k6,k7⟩:=aK; go_simp; (try (with_reducible rfl))⟩);refine tk 4 ?_;refine r_1 2 fun K hK=>?_
 go_simp
 go_at_call 21
 refine (Hf.out _ (HX.out.trans y0)).mono ?_;rintro e w2 ⟨rfl,x2⟩;have y2:=y0.trans x2;refine k_t hK (aG.out _ y2) fun hHeld=>?_
 clear hK K;refine r_1 5 fun K hK=>?_
 go_simp
 go_at_call 21
 refine (BN.out _ (HX.out.trans y2)).mono ?_;rintro e w3 ⟨rfl,x3⟩;have y3:=y2.trans x3;refine k_t hK (aG.out _ y3) fun hHeld=>?_
 clear hK K;refine tk 6 ?_;refine tk 7 ?_;refine w_d ?_;obtain ⟨-,⟨a0,a1,a2,a3⟩,b0,b1,b2,b3⟩:=hHeld;have Y3:=hid y3;clear x1 x2 x3 y0 y2 y3 aG Hf BN;go_wp2_with fail;exact bodyPost_ret (v:=.tuple #[.slice none 0 0,.int .i64 0]) (by simp [results,Tryz.results99,go_sem]) rfl ⟨_,rfl,⟨none,0,rfl,by simp,by omega,fun h=>absurd rfl h⟩,HX.out.trans Y3.out⟩
def pcf (l:Int) (L:List Pl):List Pl:=(List.range L.length).map fun (j:Nat)=>vg l (j:Int) (L.getD j Pl.zero)
theorem kan (l:Int) (L:List Pl):(pcf l L).length=L.length:=by simp [pcf]
theorem yct (l:Int) (L:List Pl) (k:Nat) (h:k < L.length) (h':k < (pcf l L).length):(pcf l L)[k]=vg l k L[k]:=by
 simp [pcf,List.getD_eq_getElem?_getD,List.getElem?_eq_getElem h]
theorem xbh {α:Type} {A L:List α} (h:A.length=L.length) (k:Nat):(A.take k ++ L.drop k).length=L.length:=by
 rw [List.length_append,List.length_take,List.length_drop]; omega
theorem qbh {α:Type} {A L:List α} (h:A.length=L.length) (k:Nat) (hk:k < L.length) (h':k < (A.take k ++ L.drop k).length):(A.take k ++ L.drop k)[k]=L[k]:=by
 rw [List.getElem_append_right (by rw [List.length_take]; omega),List.getElem_drop]
 congr 1
 rw [List.length_take]; omega
theorem qbz {α:Type} {A L:List α} (h:A.length=L.length) (k:Nat) (hk:k < L.length) (pI:k < A.length):(A.take k ++ L.drop k).set k A[k]=A.take (k+1) ++ L.drop (k+1):=by
 have ht:(A.take k).length=k:=by rw [List.length_take]; omega
 rw [List.set_append_right _ _ (by omega),ht,Nat.sub_self,List.drop_eq_getElem_cons hk,List.set_cons_zero,List.take_succ_eq_append_getElem pI,List.append_assoc]
 rfl
theorem qa5 {w : World} {q0 q1 : Nat -> Prop} {f g : Pl} {l : Int} {E D : Nat} {L : List Pl} (v0 v1 : Value) (hl : 1 <= l) (ag : l <= 4) (h0 : PlV w q0 f v0) (h1 : PlV w q1 g v1) (hE : E <= 170) (hD : D <= 1099511627776)
 (Vg:L.length<=1000) (Vj:∀ c ∈ L,Fit c E D)
 (HC:Hid (∀ W',Ext w W'->Calls Tryz.prog 99 #[v0,v1,.int .i64 l] W' (uad (fun b=>W'.heap.size<=b) L W'))) :
 Calls Tryz.prog 72 #[v0,v1,.int .i64 l] w (uad (fun b=>w.heap.size<=b) (pcf l L) w):=by
 have H0:=hid h0;have H1:=hid h1;obtain ⟨A0,m0,e0,B0,f0,rfl,-⟩:=h0.open_;obtain ⟨A1,m1,e1,B1,f1,rfl,-⟩:=h1.open_;obtain ⟨DJ,W,fU,jY,fD,aC,bU,hx1,aV,aX⟩:=b_2 w f g (.slice A0 m0 e0) (.slice B0 f.cs.length f0) (.slice A1 m1 e1) (.slice B1 g.cs.length f1);have HX:=hid (aC.trans hx1);have dC:=hid aV;have dG:=hid aX;have eQ:W.heap.size=w.heap.size+1+1:=bU;clear h0 h1 aC hx1 aV aX;have JB:=hid Vj;obtain ⟨b0,b1,b2,b3⟩:=dG.out;obtain ⟨a0,a1,a2,a3⟩:=dC.out;unfold plV at HC ⊢;clear Vj;go_enter Tryz.func72,Tryz.ntmps72;go_wp2_with fail;clear fU jY;clear a0 a1 a2 a3 b0 b1 b2 b3;refine (HC.out _ HX.out).mono ?_;rintro e w5 ⟨v5,rfl,jR,x5⟩;obtain ⟨Rv,rc,rfl,mX,pz,H6⟩:=id jR;have lC:=hid H6;have X5:=hid x5;have DL:=hid eQ;have Xx:=HX.out.size;clear H6 jR x5 HC fD bU eQ;go_wp2_with fail
 go_loopw [20] (fun iv wr=>∃ k:Nat,k<=L.length/\iv=.int .i64 k/\Hid (Ext W wr/\wae wr (fun b=>W.heap.size<=b) (.slice Rv L.length rc) ((pcf l L).take k ++ L.drop k))) (fun iv _=>L.length - (intOf iv).toNat)
 case atStart=>exact ⟨0,Nat.zero_le _,rfl,hid ⟨X5.out,Rv,rc,by simp,by simpa using mX,pz,by simpa using lC.out⟩⟩
 case round =>
  obtain ⟨k,hk,rfl,HI⟩:=hrel;have lu:=xbh (kan l L) k
  by_cases af:k < L.length
  · obtain ⟨hx,Rv',rc',e',-,-,ae⟩:=HI.out;rw [lu] at e';injection e' with e1 e2 e3
    subst e1 e3;obtain ⟨R,rfl,Jc,ae⟩:=ae (fun e=>by rw [e] at lu; simp at lu; omega);obtain ⟨C0,j0,k0,C1,j1,k1,g,dD⟩:=ae.el k (by rw [lu]; exact af);rw [qbh (kan l L) k af] at g dD;obtain ⟨g0,g1,g2,g3⟩:=g;have zX:=ae.2.1;have Eu:(k:Int)<=1000:=by omega
    have HN:=hid (ga3 (k:=(k:Int)) _ (by omega) (by omega) hl ag (JB.out _ (List.getElem_mem af)) hE hD dD);have Tz:k < (pcf l L).length:=by rw [kan]; exact af
    have dO:=hid (qbz (kan l L) k af Tz);rw [yct l L k af] at dO;have BI:=hid lu;have aA:=hid ae;have mF:=hid hx;have rO:=hid Jc;have Au:=hid (xbh (kan l L) (k+1));have gZ:=ae.1;obtain ⟨M,hM⟩:=n_m ((pcf l L).take k ++ L.drop k);obtain ⟨M',Jf⟩:=n_m ((pcf l L).take (k+1) ++ L.drop (k+1));rw [hM] at aA dO BI;rw [Jf] at dO Au;have EL:=hid Jf;obtain ⟨c,hc⟩:=n_m (L[k]);rw [hc] at HN dO g0 g1;obtain ⟨d,hd⟩:=n_m (vg l k c);rw [hd] at HN dO;unfold plV at HN;clear dD ae hx Jc HI lu hM Jf hc hd Tz;go_wp2_with fail;clear g0 g1 g2 g3;refine HN.out.mono ?_;rintro e w6 ⟨v6,rfl,p6,x6⟩;obtain ⟨D0,i0,h0,D1,h1,rfl,-⟩:=id p6.open_;have aU:=((aA.out.ext x6).set_ k (by rw [BI.out]; exact af) d (p6.mono fun b hb=>by have:=aA.out.1; have:=mF.out.size; exact ⟨by omega,by omega⟩)).1;rw [dO.out] at aU;obtain ⟨E0,m0,n0,E1,m1,n1,⟨s0,s1,s2,s3⟩,-⟩:=(aA.out.ext x6).el k (by rw [BI.out]; exact af);have U9:=(aA.out.ext x6).2.1;obtain ⟨V,hV⟩:=n_m (((((w6.setCell ⟨R,k * 4,none⟩ (.int .i64 d.lv)).setCell ⟨R,k * 4+1,none⟩ (.bool d.neg)).setCell ⟨R,k * 4+2,none⟩ (.slice D0 i0 h0)).setCell ⟨R,k * 4+3,none⟩ (.slice D1 d.cs.length h1)));have bV:Hid (Ext W V/\wae V (fun b=>W.heap.size<=b) (.slice (some ⟨R,0,none⟩) L.length rc) ((pcf l L).take (k+1) ++ L.drop (k+1))):=hid (by
     have hq:=rO.out;refine ⟨by rw [<- hV]; exact (((((mF.out.trans x6).setCell hq _).setCell hq _).setCell hq _).setCell hq _),_,_,by rw [EL.out,Au.out],by rw [EL.out,Au.out]; exact mX,pz,fun _=>⟨R,rfl,hq,?_⟩⟩
     rw [EL.out,<- hV]; exact aU)
    unfold plV;clear aU p6 x6 HN aA dO;go_wp2_with fail;clear s0 s1 s2 s3
    go_roundw
    case rel=>exact ⟨k+1,by omega,by go_num,bV.out⟩
    case measure=>simp [intOf]; omega
  · obtain rfl:k=L.length:=by omega
    have hf:=HI.out;rw [List.drop_length,List.append_nil,<- kan l L,List.take_length] at hf;have HF:=hid hf;rw [kan] at HF;clear HI hf lu;go_wp2_with fail;exact bodyPost_ret (v:=.tuple #[.slice Rv L.length rc,.int .i64 0]) (by simp [results,Tryz.results72,go_sem]) rfl ⟨_,rfl,HF.out.2.mono fun b hb=>by omega,HX.out.trans HF.out.1⟩
theorem jby {w : World} {q0 q1 : Nat -> Prop} {f g : Pl} {l : Int} {E D : Nat} (v0 v1 : Value) (hl : 1 <= l) (ag : l <= 4) (h0 : PlV w q0 f v0) (h1 : PlV w q1 g v1) (hf : Fit f E D) (hg : Fit g E D) (hE : E + (E + 1) * E + E <= 62) (hD : D + (E + 1) * (D + 3) + 1 <= 1099511627776) (rH : 0 <= mdg l f) (bI : 0 <= mdg l g)
 (hc:mdg l f=0\/mdg l g=0\/mdg l g=1\/mdg l f=1/\mdg l g=2):Calls Tryz.prog 72 #[v0,v1,.int .i64 l] w (uad (fun b=>w.heap.size<=b) (uj l f g) w):=by
 have hEE:=Nat.mul_le_mul_right E (show 1<=E+1 by omega);have hDD:=Nat.mul_le_mul_right (D+3) (show 1<=E+1 by omega);have hB:(B32:Nat)=4294967296:=rfl;have IV:=yai (l:=l) hf.can hf.ex;have IL:=yai (l:=l) hg.can hg.ex
 by_cases hz:mdg l f=0\/mdg l g=0
 · have e:uj l f g=pcf l []:=by unfold uj pcf; rw [if_pos (by omega)]; rfl
   rw [e];exact qa5 v0 v1 hl ag h0 h1 (E:=0) (D:=0) (by omega) (by omega) (by simp) (by simp) (hid fun W' hx=>chain_nil v0 v1 hl ag (h0.ext hx) (h1.ext hx) hf hg (by omega) (by omega) rH bI (by omega))
 · have CV:¬ (mdg l f<=0\/mdg l g<=0):=by omega
   have ok:∀ {p q:Pl},Fit p E D->Fit q E D->Fit (zi l p q) 170 1099511627776/\vcz (zi l p q):=fun hp hq=>by
    have h:=gaj hl ag hp hq (by omega);refine ⟨h.mono (by omega) (by omega),qx _ _ _,h.copy_ (by omega),?_⟩;have:=h.dm; omega
   by_cases jO:mdg l g=1
   · have e:uj l f g=pcf l [zi l f g]:=by unfold uj pcf; rw [if_neg CV,if_pos jO]; rfl
     rw [e];refine qa5 v0 v1 hl ag h0 h1 (E:=170) (D:=1099511627776) (by omega) (by omega) (by simp) (fun c hc=>by rw [List.mem_singleton.1 hc]; exact (ok hf hg).1) (hid fun W' hx=>ua4 v0 v1 hl ag (h0.ext hx) (h1.ext hx) hf hg (by omega) (by omega) (by omega) (by omega) (by omega) (by omega) (by simp) (fun c hc=>by rw [List.mem_singleton.1 hc]; exact (ok hf hg).2) (hid (Or.inl ⟨by omega,fun W2 aN=>?_⟩)));rw [jO];exact xbk v0 v1 hl ag (h0.ext (hx.trans aN)) (h1.ext (hx.trans aN)) hf hg (by omega) IV jO hE hD
   · obtain ⟨h2,h3⟩:mdg l f=1/\mdg l g=2:=by omega
     have e:uj l f g=pcf l [zi l g f]:=by unfold uj pcf; rw [if_neg CV,if_neg jO,if_pos h2]; rfl
     rw [e];refine qa5 v0 v1 hl ag h0 h1 (E:=170) (D:=1099511627776) (by omega) (by omega) (by simp) (fun c hc=>by rw [List.mem_singleton.1 hc]; exact (ok hg hf).1) (hid fun W' hx=>ua4 v0 v1 hl ag (h0.ext hx) (h1.ext hx) hf hg (by omega) (by omega) (by omega) (by omega) (by omega) (by omega) (by simp) (fun c hc=>by rw [List.mem_singleton.1 hc]; exact (ok hg hf).2) (hid (Or.inr ⟨h2,h3,rfl,fun W2 aN=>?_⟩)));exact xbk v1 v0 hl ag (h1.ext (hx.trans aN)) (h0.ext (hx.trans aN)) hg hf (by omega) (by omega) h2 hE hD
end Go.Proofs.YtklnlgnnlmdibaaGreat
