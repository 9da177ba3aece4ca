/- Layer 25: Chain and Psc, over a contract of descend. -/
import Derived.Test.YtcepajijiabkmaaGreatPscV
set_option linter.unusedSimpArgs false
set_option linter.unusedVariables false
set_option maxRecDepth 100000
set_option maxHeartbeats 8000000
namespace Go.Proofs.YtcepajijiabkmaaGreat
open Lib (hid)
open Go.RowKit
def qaj (q:Nat->Prop) (L:List Pl) (w:World) (e:Ending) (w':World):Prop:=∃ v,e=.returned (.tuple #[v,.int .i64 0])/\qae w' q v L/\Ext w w'
def qc7 (c:Pl):Prop:=c.Can/\c.sz<=1099511627776/\c.dm<=35184372088832
theorem vbn {w : World} {q0 q1 : Nat -> Prop} {f g : Pl} {l : Int} {E D : Nat} {L : List Pl} (v0 v1 : Value) (hl : 1 <= l) (aj : l <= 4) (h0 : PlV w q0 f v0) (h1 : PlV w q1 g v1) (hf : Fit f E D) (hg : Fit g E D) (hE : E <= 62) (hD : D <= 1099511627776) (DJ : 0 < mdg l f) (iy : 0 < mdg l g) (PR : mdg l f <= 1000) (IJ : mdg l g <= 1000)
 (QJ:L.length<=1000) (QL:∀ c ∈ L,qc7 c)
 (HD:Hid ((mdg l g<=mdg l f/\∀ W',Ext w W'->Calls Tryz.prog 158 #[v0,v1,.int .i64 l,.int .i64 (mdg l f),.int .i64 (mdg l g)] W' (qau (fun b=>W'.heap.size<=b) L W'))\/(mdg l f=1/\mdg l g=2/\L.length=1/\∀ W',Ext w W'->Calls Tryz.prog 158 #[v1,v0,.int .i64 l,.int .i64 2,.int .i64 1] W' (qau (fun b=>W'.heap.size<=b) L W')))) :
 Calls Tryz.prog 153 #[v0,v1,.int .i64 l] w (qaj (fun b=>w.heap.size<=b) L w):=by
 have H0:=hid h0;have H1:=hid h1;obtain ⟨A0,m0,e0,B0,f0,rfl,-⟩:=h0.open_;obtain ⟨A1,m1,e1,B1,f1,rfl,-⟩:=h1.open_;obtain ⟨Jy,W,fK,jI,iE,aF,bW,hx1,bU,cO⟩:=b_2 w f g (.slice A0 m0 e0) (.slice B0 f.cs.length f0) (.slice A1 m1 e1) (.slice B1 g.cs.length f1);have HX:=hid (aF.trans hx1);have fO:=hid bU;have fM:=hid cO;have jS:W.heap.size=w.heap.size+1+1:=bW;clear h0 h1 aF hx1 bU cO;have HC:=hid (fun (W':World) (hx:Ext w W')=>check_any _ _ hl aj (H0.out.ext hx) (H1.out.ext hx) hf.can hg.can (kat (l:=l) (by omega)) (kat (l:=l) (by omega)));have Ew:=hid (fun (W':World) (hx:Ext w W')=>jak (l:=l) _ hf.can (hf.copy_ (by omega)) (by have:=hf.dm; omega) (H0.out.ext hx));have Eu:=hid (fun (W':World) (hx:Ext w W')=>jak (l:=l) _ hg.can (hg.copy_ (by omega)) (by have:=hg.dm; omega) (H1.out.ext hx));have GL:=hid QL;have aN:Hid (∀ W',Ext W W'->(Ext W W'/\(jc W' (w.heap.size) f (.slice A0 m0 e0) (.slice B0 f.cs.length f0))/\(jc W' (w.heap.size+1) g (.slice A1 m1 e1) (.slice B1 g.cs.length f1)))):=hid (fun W' hx=>⟨hx,fO.out.ext hx (by omega),fM.out.ext hx (by omega)⟩);obtain ⟨m,hm⟩:=n_m (mdg l f);obtain ⟨n,hn⟩:=n_m (mdg l g);rw [hm] at Ew DJ PR HD;rw [hn] at Eu iy IJ HD;obtain ⟨b0,b1,b2,b3⟩:=fM.out;obtain ⟨a0,a1,a2,a3⟩:=fO.out;unfold plV at HC Ew Eu HD ⊢;clear hf hg hm hn QL hE hD;go_enter Tryz.func153,Tryz.ntmps153;go_wp2_with fail;clear fK jI;clear a0 a1 a2 a3 b0 b1 b2 b3;refine (HC.out _ HX.out).mono ?_;rintro e w1 ⟨rfl,x1⟩;have Rw:=hid jS;clear jS iE bW HC;have y0:Ext W w1.drew:=x1.drew;go_upto_region 4 with fail;refine wp_region_held_drew (S:=fun W'=>Ext W W'/\(jc W' (w.heap.size) f (.slice A0 m0 e0) (.slice B0 f.cs.length f0))/\(jc W' (w.heap.size+1) g (.slice A1 m1 e1) (.slice B1 g.cs.length f1))) (by kernel_rfl) (aN.out _ y0) (fun hHeld=>?_);refine tk 0 ?_ (hy:=Or.inl ⟨by rfl,by intro w' aZ; obtain ⟨-,⟨k0,k1,k2,k3⟩,k4,k5,k6,k7⟩:=aZ; go_simp; (try (with_reducible rfl))⟩);refine tk 1 ?_;refine tk 3 ?_ (hy:=Or.inl ⟨by rfl,by intro w' aZ; obtain ⟨-,⟨k0,k1,k2,k3⟩,k4,k5,k6,k7⟩:=aZ; go_simp; (try (with_reducible rfl))⟩);refine tk 4 ?_;refine r_1 2 fun K hK=>?_
 go_simp
 go_at_call 109
 refine (Ew.out _ (HX.out.trans y0)).mono ?_;rintro e w2 ⟨rfl,x2⟩;have y2:=y0.trans x2;refine k_t hK (aN.out _ y2) fun hHeld=>?_
 clear hK K;refine r_1 5 fun K hK=>?_
 go_simp
 go_at_call 109
 refine (Eu.out _ (HX.out.trans y2)).mono ?_;rintro e w3 ⟨rfl,x3⟩;have y3:=y2.trans x3;refine k_t hK (aN.out _ y3) fun hHeld=>?_
 clear hK K;refine tk 6 ?_;refine tk 7 ?_;refine w_d ?_;obtain ⟨-,⟨a0,a1,a2,a3⟩,b0,b1,b2,b3⟩:=hHeld;have Y3:=hid y3;clear x1 x2 x3 y0 y2 y3 aN Ew Eu;have OM:¬ min m n=0:=by omega
 rcases HD.out with ⟨Uc,hd⟩ | ⟨rfl,rfl,hL1,hd⟩
 · have Tc:=hid (hd _ (HX.out.trans Y3.out));clear hd HD;go_wp2_with fail;refine Tc.out.mono ?_;rintro e w5 ⟨v5,rfl,iL,x5⟩;clear Tc;have iL:=iL.mono (q':=fun b=>W.heap.size<=b) (fun b hb=>by have:=Y3.out.size; omega);have x5:=Y3.out.trans x5;obtain ⟨Rv,rc,rfl,mG,oq,EL⟩:=id iL;have oO:=hid EL;have X5:=hid x5;clear EL iL;go_wp2_with fail;clear a0 a1 a2 a3 b0 b1 b2 b3
   go_loopw [47] (fun iv wr=>∃ k:Nat,k<=L.length/\iv=.int .i64 k/\Hid (Ext W wr/\qae wr (fun b=>W.heap.size<=b) (.slice Rv L.length rc) L)) (fun iv _=>L.length - (intOf iv).toNat)
   case atStart=>exact ⟨0,Nat.zero_le _,rfl,hid ⟨X5.out,Rv,rc,rfl,mG,oq,oO.out⟩⟩
   case round =>
    obtain ⟨k,hk,rfl,HI⟩:=hrel
    by_cases af:k < L.length
    · obtain ⟨hx,Rv',rc',e',-,-,ae⟩:=HI.out;injection e' with e1 e2 e3
      subst e1 e3;obtain ⟨R,rfl,FO,ae⟩:=ae (fun e=>by rw [e] at af; simp at af);obtain ⟨C0,j0,k0,C1,j1,k1,⟨g0,g1,g2,g3⟩,gU⟩:=ae.el k af;have YK:=ae.2.1;have HN:=hid (wad _ gU (GL.out _ (List.getElem_mem af)).1 (GL.out _ (List.getElem_mem af)).2.1 (GL.out _ (List.getElem_mem af)).2.2);have dI:Hid (L.set k L[k]=L):=hid (List.set_getElem_self af);have aC:=hid ae;have rG:=hid hx;have nV:=hid FO;have oN:=ae.1;generalize L[k]=c at *;unfold plV at HN;clear gU ae hx FO HI;go_wp2_with fail;clear g0 g1 g2 g3;refine HN.out.mono ?_;rintro e w6 ⟨v6,rfl,p6,x6⟩;obtain ⟨D0,i0,h0,D1,h1,rfl,-⟩:=id p6.open_;have aT:=((aC.out.ext x6).set_ k af c (p6.mono fun b hb=>by have:=aC.out.1; have:=rG.out.size; exact ⟨by omega,by omega⟩)).1;rw [dI.out] at aT;obtain ⟨E0,m0,n0,E1,m1,n1,⟨s0,s1,s2,s3⟩,-⟩:=(aC.out.ext x6).el k af;have QI:=(aC.out.ext x6).2.1;obtain ⟨V,hV⟩:=n_m (((((w6.setCell ⟨R,k * 4,none⟩ (.int .i64 c.lv)).setCell ⟨R,k * 4+1,none⟩ (.bool c.neg)).setCell ⟨R,k * 4+2,none⟩ (.slice D0 i0 h0)).setCell ⟨R,k * 4+3,none⟩ (.slice D1 c.cs.length h1)));have bD:Hid (Ext W V/\qae V (fun b=>W.heap.size<=b) (.slice (some ⟨R,0,none⟩) L.length rc) L):=hid (by
       have hq:=nV.out;refine ⟨by rw [<- hV]; exact (((((rG.out.trans x6).setCell hq _).setCell hq _).setCell hq _).setCell hq _),_,_,rfl,mG,oq,fun _=>⟨R,rfl,hq,?_⟩⟩
       rw [<- hV]; exact aT)
      unfold plV;clear aT p6 x6 HN aC dI;go_wp2_with fail;clear s0 s1 s2 s3
      go_roundw
      case rel=>exact ⟨k+1,by omega,by first | go_num | rfl,bD.out⟩
      case measure=>simp [intOf]; omega
    · obtain rfl:k=L.length:=by omega
      have HF:=hid HI.out;clear HI;go_wp2_with fail;exact bodyPost_ret (v:=.tuple #[.slice Rv L.length rc,.int .i64 0]) (by simp [results,Tryz.results153,go_sem]) rfl ⟨_,rfl,HF.out.2.mono fun b hb=>by have:=HX.out.size; omega,HX.out.trans HF.out.1⟩
 · have Tc:=hid (hd _ (HX.out.trans Y3.out));have HL1:=hid hL1;clear hd HD hL1;go_wp2_with fail;refine Tc.out.mono ?_;rintro e w5 ⟨v5,rfl,iL,x5⟩;clear Tc;have iL:=iL.mono (q':=fun b=>W.heap.size<=b) (fun b hb=>by have:=Y3.out.size; omega);have x5:=Y3.out.trans x5;obtain ⟨Rv,rc,rfl,mG,oq,EL⟩:=id iL;have oO:=hid EL;have X5:=hid x5;clear EL iL;go_wp2_with fail;clear a0 a1 a2 a3 b0 b1 b2 b3
   go_loopw [47] (fun iv wr=>∃ k:Nat,k<=L.length/\iv=.int .i64 k/\Hid (Ext W wr/\qae wr (fun b=>W.heap.size<=b) (.slice Rv L.length rc) L)) (fun iv _=>L.length - (intOf iv).toNat)
   case atStart=>exact ⟨0,Nat.zero_le _,rfl,hid ⟨X5.out,Rv,rc,rfl,mG,oq,oO.out⟩⟩
   case round =>
    obtain ⟨k,hk,rfl,HI⟩:=hrel
    by_cases af:k < L.length
    · obtain ⟨hx,Rv',rc',e',-,-,ae⟩:=HI.out;injection e' with e1 e2 e3
      subst e1 e3;obtain ⟨R,rfl,FO,ae⟩:=ae (fun e=>by rw [e] at af; simp at af);obtain ⟨C0,j0,k0,C1,j1,k1,⟨g0,g1,g2,g3⟩,gU⟩:=ae.el k af;have YK:=ae.2.1;have HN:=hid (wad _ gU (GL.out _ (List.getElem_mem af)).1 (GL.out _ (List.getElem_mem af)).2.1 (GL.out _ (List.getElem_mem af)).2.2);have dI:Hid (L.set k L[k]=L):=hid (List.set_getElem_self af);have aC:=hid ae;have rG:=hid hx;have nV:=hid FO;have oN:=ae.1;generalize L[k]=c at *;unfold plV at HN;clear gU ae hx FO HI;have oJ:k=0:=by have:=HL1.out; omega
      subst oJ;simp only [Nat.zero_mul,Nat.zero_add] at g0 g1 g2 g3;go_wp2_with fail;clear g0 g1 g2 g3;refine HN.out.mono ?_;rintro e w6 ⟨v6,rfl,p6,x6⟩;obtain ⟨D0,i0,h0,D1,h1,rfl,-⟩:=id p6.open_;have aT:=((aC.out.ext x6).set_ 0 af c (p6.mono fun b hb=>by have:=aC.out.1; have:=rG.out.size; exact ⟨by omega,by omega⟩)).1;rw [dI.out] at aT;obtain ⟨E0,m0,n0,E1,m1,n1,⟨s0,s1,s2,s3⟩,-⟩:=(aC.out.ext x6).el 0 af;have QI:=(aC.out.ext x6).2.1;simp only [Nat.zero_mul,Nat.zero_add] at s0 s1 s2 s3 aT;obtain ⟨V,hV⟩:=n_m (((((w6.setCell ⟨R,0,none⟩ (.int .i64 c.lv)).setCell ⟨R,1,none⟩ (.bool c.neg)).setCell ⟨R,2,none⟩ (.slice D0 i0 h0)).setCell ⟨R,3,none⟩ (.slice D1 c.cs.length h1)));have bD:Hid (Ext W V/\qae V (fun b=>W.heap.size<=b) (.slice (some ⟨R,0,none⟩) L.length rc) L):=hid (by
       have hq:=nV.out;refine ⟨by rw [<- hV]; exact (((((rG.out.trans x6).setCell hq _).setCell hq _).setCell hq _).setCell hq _),_,_,rfl,mG,oq,fun _=>⟨R,rfl,hq,?_⟩⟩
       rw [<- hV]; exact aT)
      unfold plV;clear aT p6 x6 HN aC dI;go_wp2_with fail;clear s0 s1 s2 s3
      go_roundw
      case rel=>exact ⟨0+1,by omega,by first | go_num | rfl,bD.out⟩
      case measure=>simp [intOf]; omega
    · obtain rfl:k=L.length:=by omega
      have HF:=hid HI.out;clear HI;go_wp2_with fail;exact bodyPost_ret (v:=.tuple #[.slice Rv L.length rc,.int .i64 0]) (by simp [results,Tryz.results153,go_sem]) rfl ⟨_,rfl,HF.out.2.mono fun b hb=>by have:=HX.out.size; omega,HX.out.trans HF.out.1⟩
theorem chain_nil {w:World} {q0 q1:Nat->Prop} {f g:Pl} {l:Int} {E D:Nat} (v0 v1:Value) (hl:1<=l) (aj:l<=4) (h0:PlV w q0 f v0) (h1:PlV w q1 g v1) (hf:Fit f E D) (hg:Fit g E D) (hE:E<=62) (hD:D<=1099511627776) (DJ:0<=mdg l f) (iy:0<=mdg l g) (Lr:min (mdg l f) (mdg l g)=0) :
 Calls Tryz.prog 153 #[v0,v1,.int .i64 l] w (qaj (fun b=>w.heap.size<=b) [] w):=by
 have H0:=hid h0;have H1:=hid h1;obtain ⟨A0,m0,e0,B0,f0,rfl,-⟩:=h0.open_;obtain ⟨A1,m1,e1,B1,f1,rfl,-⟩:=h1.open_;obtain ⟨Jy,W,fK,jI,iE,aF,bW,hx1,bU,cO⟩:=b_2 w f g (.slice A0 m0 e0) (.slice B0 f.cs.length f0) (.slice A1 m1 e1) (.slice B1 g.cs.length f1);have HX:=hid (aF.trans hx1);have fO:=hid bU;have fM:=hid cO;have jS:W.heap.size=w.heap.size+1+1:=bW;clear h0 h1 aF hx1 bU cO;have HC:=hid (fun (W':World) (hx:Ext w W')=>check_any _ _ hl aj (H0.out.ext hx) (H1.out.ext hx) hf.can hg.can (kat (l:=l) (by omega)) (kat (l:=l) (by omega)));have Ew:=hid (fun (W':World) (hx:Ext w W')=>jak (l:=l) _ hf.can (hf.copy_ (by omega)) (by have:=hf.dm; omega) (H0.out.ext hx));have Eu:=hid (fun (W':World) (hx:Ext w W')=>jak (l:=l) _ hg.can (hg.copy_ (by omega)) (by have:=hg.dm; omega) (H1.out.ext hx));have aN:Hid (∀ W',Ext W W'->(Ext W W'/\(jc W' (w.heap.size) f (.slice A0 m0 e0) (.slice B0 f.cs.length f0))/\(jc W' (w.heap.size+1) g (.slice A1 m1 e1) (.slice B1 g.cs.length f1)))):=hid (fun W' hx=>⟨hx,fO.out.ext hx (by omega),fM.out.ext hx (by omega)⟩);obtain ⟨m,hm⟩:=n_m (mdg l f);obtain ⟨n,hn⟩:=n_m (mdg l g);rw [hm] at Ew DJ Lr;rw [hn] at Eu iy Lr;obtain ⟨b0,b1,b2,b3⟩:=fM.out;obtain ⟨a0,a1,a2,a3⟩:=fO.out;unfold plV at HC Ew Eu ⊢;clear hf hg hm hn hE hD;go_enter Tryz.func153,Tryz.ntmps153;go_wp2_with fail;clear fK jI;clear a0 a1 a2 a3 b0 b1 b2 b3;refine (HC.out _ HX.out).mono ?_;rintro e w1 ⟨rfl,x1⟩;have Rw:=hid jS;clear jS iE bW HC;have y0:Ext W w1.drew:=x1.drew;go_upto_region 4 with fail;refine wp_region_held_drew (S:=fun W'=>Ext W W'/\(jc W' (w.heap.size) f (.slice A0 m0 e0) (.slice B0 f.cs.length f0))/\(jc W' (w.heap.size+1) g (.slice A1 m1 e1) (.slice B1 g.cs.length f1))) (by kernel_rfl) (aN.out _ y0) (fun hHeld=>?_);refine tk 0 ?_ (hy:=Or.inl ⟨by rfl,by intro w' aZ; obtain ⟨-,⟨k0,k1,k2,k3⟩,k4,k5,k6,k7⟩:=aZ; go_simp; (try (with_reducible rfl))⟩);refine tk 1 ?_;refine tk 3 ?_ (hy:=Or.inl ⟨by rfl,by intro w' aZ; obtain ⟨-,⟨k0,k1,k2,k3⟩,k4,k5,k6,k7⟩:=aZ; go_simp; (try (with_reducible rfl))⟩);refine tk 4 ?_;refine r_1 2 fun K hK=>?_
 go_simp
 go_at_call 109
 refine (Ew.out _ (HX.out.trans y0)).mono ?_;rintro e w2 ⟨rfl,x2⟩;have y2:=y0.trans x2;refine k_t hK (aN.out _ y2) fun hHeld=>?_
 clear hK K;refine r_1 5 fun K hK=>?_
 go_simp
 go_at_call 109
 refine (Eu.out _ (HX.out.trans y2)).mono ?_;rintro e w3 ⟨rfl,x3⟩;have y3:=y2.trans x3;refine k_t hK (aN.out _ y3) fun hHeld=>?_
 clear hK K;refine tk 6 ?_;refine tk 7 ?_;refine w_d ?_;obtain ⟨-,⟨a0,a1,a2,a3⟩,b0,b1,b2,b3⟩:=hHeld;have Y3:=hid y3;clear x1 x2 x3 y0 y2 y3 aN Ew Eu;go_wp2_with fail;exact bodyPost_ret (v:=.tuple #[.slice none 0 0,.int .i64 0]) (by simp [results,Tryz.results153,go_sem]) rfl ⟨_,rfl,⟨none,0,rfl,by simp,by omega,fun h=>absurd rfl h⟩,HX.out.trans Y3.out⟩
def pcf (l:Int) (L:List Pl):List Pl:=(List.range L.length).map fun (j:Nat)=>ji l (j:Int) (L.getD j Pl.zero)
theorem van (l:Int) (L:List Pl):(pcf l L).length=L.length:=by simp [pcf]
theorem uc0 (l:Int) (L:List Pl) (k:Nat) (h:k < L.length) (h':k < (pcf l L).length):(pcf l L)[k]=ji l k L[k]:=by
 simp [pcf,List.getD_eq_getElem?_getD,List.getElem?_eq_getElem h]
theorem vbj {α:Type} {A L:List α} (h:A.length=L.length) (k:Nat):(A.take k ++ L.drop k).length=L.length:=by
 rw [List.length_append,List.length_take,List.length_drop]; omega
theorem ubj {α:Type} {A L:List α} (h:A.length=L.length) (k:Nat) (hk:k < L.length) (h':k < (A.take k ++ L.drop k).length):(A.take k ++ L.drop k)[k]=L[k]:=by
 rw [List.getElem_append_right (by rw [List.length_take]; omega),List.getElem_drop]
 congr 1
 rw [List.length_take]; omega
theorem gb6 {α:Type} {A L:List α} (h:A.length=L.length) (k:Nat) (hk:k < L.length) (lN:k < A.length):(A.take k ++ L.drop k).set k A[k]=A.take (k+1) ++ L.drop (k+1):=by
 have ht:(A.take k).length=k:=by rw [List.length_take]; omega
 rw [List.set_append_right _ _ (by omega),ht,Nat.sub_self,List.drop_eq_getElem_cons hk,List.set_cons_zero,List.take_succ_eq_append_getElem lN,List.append_assoc]
 rfl
theorem zbj {w : World} {q0 q1 : Nat -> Prop} {f g : Pl} {l : Int} {E D : Nat} {L : List Pl} (v0 v1 : Value) (hl : 1 <= l) (aj : l <= 4) (h0 : PlV w q0 f v0) (h1 : PlV w q1 g v1) (hE : E <= 170) (hD : D <= 1099511627776)
 (QJ:L.length<=1000) (QL:∀ c ∈ L,Fit c E D)
 (HC:Hid (∀ W',Ext w W'->Calls Tryz.prog 153 #[v0,v1,.int .i64 l] W' (qaj (fun b=>W'.heap.size<=b) L W'))) :
 Calls Tryz.prog 138 #[v0,v1,.int .i64 l] w (qaj (fun b=>w.heap.size<=b) (pcf l L) w):=by
 have H0:=hid h0;have H1:=hid h1;obtain ⟨A0,m0,e0,B0,f0,rfl,-⟩:=h0.open_;obtain ⟨A1,m1,e1,B1,f1,rfl,-⟩:=h1.open_;obtain ⟨Jy,W,fK,jI,iE,aF,bW,hx1,bU,cO⟩:=b_2 w f g (.slice A0 m0 e0) (.slice B0 f.cs.length f0) (.slice A1 m1 e1) (.slice B1 g.cs.length f1);have HX:=hid (aF.trans hx1);have fO:=hid bU;have fM:=hid cO;have jS:W.heap.size=w.heap.size+1+1:=bW;clear h0 h1 aF hx1 bU cO;have GL:=hid QL;obtain ⟨b0,b1,b2,b3⟩:=fM.out;obtain ⟨a0,a1,a2,a3⟩:=fO.out;unfold plV at HC ⊢;clear QL;go_enter Tryz.func138,Tryz.ntmps138;go_wp2_with fail;clear fK jI;clear a0 a1 a2 a3 b0 b1 b2 b3;refine (HC.out _ HX.out).mono ?_;rintro e w5 ⟨v5,rfl,iL,x5⟩;obtain ⟨Rv,rc,rfl,mG,oq,EL⟩:=id iL;have oO:=hid EL;have X5:=hid x5;have Rw:=hid jS;have VW:=HX.out.size;clear EL iL x5 HC iE bW jS;go_wp2_with fail
 go_loopw [20] (fun iv wr=>∃ k:Nat,k<=L.length/\iv=.int .i64 k/\Hid (Ext W wr/\qae wr (fun b=>W.heap.size<=b) (.slice Rv L.length rc) ((pcf l L).take k ++ L.drop k))) (fun iv _=>L.length - (intOf iv).toNat)
 case atStart=>exact ⟨0,Nat.zero_le _,rfl,hid ⟨X5.out,Rv,rc,by simp,by simpa using mG,oq,by simpa using oO.out⟩⟩
 case round =>
  obtain ⟨k,hk,rfl,HI⟩:=hrel;have jY:=vbj (van l L) k
  by_cases af:k < L.length
  · obtain ⟨hx,Rv',rc',e',-,-,ae⟩:=HI.out;rw [jY] at e';injection e' with e1 e2 e3
    subst e1 e3;obtain ⟨R,rfl,FO,ae⟩:=ae (fun e=>by rw [e] at jY; simp at jY; omega);obtain ⟨C0,j0,k0,C1,j1,k1,g,gU⟩:=ae.el k (by rw [jY]; exact af);rw [ubj (van l L) k af] at g gU;obtain ⟨g0,g1,g2,g3⟩:=g;have YK:=ae.2.1;have xA:(k:Int)<=1000:=by omega
    have HN:=hid (qbm (k:=(k:Int)) _ (by omega) (by omega) hl aj (GL.out _ (List.getElem_mem af)) hE hD gU);have O8:k < (pcf l L).length:=by rw [van]; exact af
    have dI:=hid (gb6 (van l L) k af O8);rw [uc0 l L k af] at dI;have yZ:=hid jY;have aC:=hid ae;have rG:=hid hx;have nV:=hid FO;have xZ:=hid (vbj (van l L) (k+1));have oN:=ae.1;obtain ⟨M,hM⟩:=n_m ((pcf l L).take k ++ L.drop k);obtain ⟨M',YR⟩:=n_m ((pcf l L).take (k+1) ++ L.drop (k+1));rw [hM] at aC dI yZ;rw [YR] at dI xZ;have CP:=hid YR;obtain ⟨c,hc⟩:=n_m (L[k]);rw [hc] at HN dI g0 g1;obtain ⟨d,hd⟩:=n_m (ji l k c);rw [hd] at HN dI;unfold plV at HN;clear gU ae hx FO HI jY hM YR hc hd O8;go_wp2_with fail;clear g0 g1 g2 g3;refine HN.out.mono ?_;rintro e w6 ⟨v6,rfl,p6,x6⟩;obtain ⟨D0,i0,h0,D1,h1,rfl,-⟩:=id p6.open_;have aT:=((aC.out.ext x6).set_ k (by rw [yZ.out]; exact af) d (p6.mono fun b hb=>by have:=aC.out.1; have:=rG.out.size; exact ⟨by omega,by omega⟩)).1;rw [dI.out] at aT;obtain ⟨E0,m0,n0,E1,m1,n1,⟨s0,s1,s2,s3⟩,-⟩:=(aC.out.ext x6).el k (by rw [yZ.out]; exact af);have QI:=(aC.out.ext x6).2.1;obtain ⟨V,hV⟩:=n_m (((((w6.setCell ⟨R,k * 4,none⟩ (.int .i64 d.lv)).setCell ⟨R,k * 4+1,none⟩ (.bool d.neg)).setCell ⟨R,k * 4+2,none⟩ (.slice D0 i0 h0)).setCell ⟨R,k * 4+3,none⟩ (.slice D1 d.cs.length h1)));have bD:Hid (Ext W V/\qae V (fun b=>W.heap.size<=b) (.slice (some ⟨R,0,none⟩) L.length rc) ((pcf l L).take (k+1) ++ L.drop (k+1))):=hid (by
     have hq:=nV.out;refine ⟨by rw [<- hV]; exact (((((rG.out.trans x6).setCell hq _).setCell hq _).setCell hq _).setCell hq _),_,_,by rw [CP.out,xZ.out],by rw [CP.out,xZ.out]; exact mG,oq,fun _=>⟨R,rfl,hq,?_⟩⟩
     rw [CP.out,<- hV]; exact aT)
    unfold plV;clear aT p6 x6 HN aC dI;go_wp2_with fail;clear s0 s1 s2 s3
    go_roundw
    case rel=>exact ⟨k+1,by omega,by go_num,bD.out⟩
    case measure=>simp [intOf]; omega
  · obtain rfl:k=L.length:=by omega
    have hf:=HI.out;rw [List.drop_length,List.append_nil,<- van l L,List.take_length] at hf;have HF:=hid hf;rw [van] at HF;clear HI hf jY;go_wp2_with fail;exact bodyPost_ret (v:=.tuple #[.slice Rv L.length rc,.int .i64 0]) (by simp [results,Tryz.results138,go_sem]) rfl ⟨_,rfl,HF.out.2.mono fun b hb=>by omega,HX.out.trans HF.out.1⟩
theorem qb6 {w : World} {q0 q1 : Nat -> Prop} {f g : Pl} {l : Int} {E D : Nat} (v0 v1 : Value) (hl : 1 <= l) (aj : l <= 4) (h0 : PlV w q0 f v0) (h1 : PlV w q1 g v1) (hf : Fit f E D) (hg : Fit g E D) (hE : E + (E + 1) * E + E <= 62) (hD : D + (E + 1) * (D + 3) + 1 <= 1099511627776) (DJ : 0 <= mdg l f) (iy : 0 <= mdg l g)
 (hc:mdg l f=0\/mdg l g=0\/mdg l g=1\/mdg l f=1/\mdg l g=2):Calls Tryz.prog 138 #[v0,v1,.int .i64 l] w (qaj (fun b=>w.heap.size<=b) (jy l f g) w):=by
 have hEE:=Nat.mul_le_mul_right E (show 1<=E+1 by omega);have hDD:=Nat.mul_le_mul_right (D+3) (show 1<=E+1 by omega);have hB:(B32:Nat)=4294967296:=rfl;have PR:=ya5 (l:=l) hf.can hf.ex;have IJ:=ya5 (l:=l) hg.can hg.ex
 by_cases hz:mdg l f=0\/mdg l g=0
 · have e:jy l f g=pcf l []:=by unfold jy pcf; rw [if_pos (by omega)]; rfl
   rw [e];exact zbj v0 v1 hl aj h0 h1 (E:=0) (D:=0) (by omega) (by omega) (by simp) (by simp) (hid fun W' hx=>chain_nil v0 v1 hl aj (h0.ext hx) (h1.ext hx) hf hg (by omega) (by omega) DJ iy (by omega))
 · have uM:¬ (mdg l f<=0\/mdg l g<=0):=by omega
   have ok:∀ {p q:Pl},Fit p E D->Fit q E D->Fit (ul l p q) 170 1099511627776/\qc7 (ul l p q):=fun hp hq=>by
    have h:=gaz hl aj hp hq (by omega);refine ⟨h.mono (by omega) (by omega),yah _ _ _,h.copy_ (by omega),?_⟩;have:=h.dm; omega
   by_cases iI:mdg l g=1
   · have e:jy l f g=pcf l [ul l f g]:=by unfold jy pcf; rw [if_neg uM,if_pos iI]; rfl
     rw [e];refine zbj v0 v1 hl aj h0 h1 (E:=170) (D:=1099511627776) (by omega) (by omega) (by simp) (fun c hc=>by rw [List.mem_singleton.1 hc]; exact (ok hf hg).1) (hid fun W' hx=>vbn v0 v1 hl aj (h0.ext hx) (h1.ext hx) hf hg (by omega) (by omega) (by omega) (by omega) (by omega) (by omega) (by simp) (fun c hc=>by rw [List.mem_singleton.1 hc]; exact (ok hf hg).2) (hid (Or.inl ⟨by omega,fun W2 aO=>?_⟩)));rw [iI];exact ybn v0 v1 hl aj (h0.ext (hx.trans aO)) (h1.ext (hx.trans aO)) hf hg (by omega) PR iI hE hD
   · obtain ⟨h2,h3⟩:mdg l f=1/\mdg l g=2:=by omega
     have e:jy l f g=pcf l [ul l g f]:=by unfold jy pcf; rw [if_neg uM,if_neg iI,if_pos h2]; rfl
     rw [e];refine zbj v0 v1 hl aj h0 h1 (E:=170) (D:=1099511627776) (by omega) (by omega) (by simp) (fun c hc=>by rw [List.mem_singleton.1 hc]; exact (ok hg hf).1) (hid fun W' hx=>vbn v0 v1 hl aj (h0.ext hx) (h1.ext hx) hf hg (by omega) (by omega) (by omega) (by omega) (by omega) (by omega) (by simp) (fun c hc=>by rw [List.mem_singleton.1 hc]; exact (ok hg hf).2) (hid (Or.inr ⟨h2,h3,rfl,fun W2 aO=>?_⟩)));exact ybn v1 v0 hl aj (h1.ext (hx.trans aO)) (h0.ext (hx.trans aO)) hg hf (by omega) (by omega) h2 hE hD
end Go.Proofs.YtcepajijiabkmaaGreat
