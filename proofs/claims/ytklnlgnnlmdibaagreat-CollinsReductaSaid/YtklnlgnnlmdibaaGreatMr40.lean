/- Layer 25: Chain and Psc, over a contract of descend. -/
import Derived.Test.YtklnlgnnlmdibaaGreatPscV
set_option linter.unusedSimpArgs false
set_option linter.unusedVariables false
set_option maxRecDepth 100000
set_option maxHeartbeats 8000000
namespace Go.Proofs.YtklnlgnnlmdibaaGreat
open Go.RowKit
def gaf (q:Nat->Prop) (L:List Pl) (w:World) (e:Ending) (w':World):Prop:=∃ v,e=.returned (.tuple #[v,.int .i64 0])/\uac w' q v L/\Ext w w'
def xcn (c:Pl):Prop:=c.Can/\c.sz<=1099511627776/\c.dm<=35184372088832
theorem ybd {w : World} {q0 q1 : Nat -> Prop} {f g : Pl} {l : Int} {E D : Nat} {L : List Pl} (v0 v1 : Value) (hl : 1 <= l) (hl4 : l <= 4) (h0 : PlV w q0 f v0) (h1 : PlV w q1 g v1) (hf : Fit f E D) (hg : Fit g E D) (hE : E <= 62) (hD : D <= 1099511627776) (hf0 : 0 < mdg l f) (hg0 : 0 < mdg l g) (hfb : mdg l f <= 1000) (hgb : mdg l g <= 1000)
 (hLn:L.length<=1000) (hLC:∀ c ∈ L,xcn c)
 (HD:Hid ((mdg l g<=mdg l f/\∀ W',Ext w W'->Calls Tryz.prog 125 #[v0,v1,.int .i64 l,.int .i64 (mdg l f),.int .i64 (mdg l g)] W' (wao (fun b=>W'.heap.size<=b) L W'))\/(mdg l f=1/\mdg l g=2/\L.length=1/\∀ W',Ext w W'->Calls Tryz.prog 125 #[v1,v0,.int .i64 l,.int .i64 2,.int .i64 1] W' (wao (fun b=>W'.heap.size<=b) L W')))) :
 Calls Tryz.prog 99 #[v0,v1,.int .i64 l] w (gaf (fun b=>w.heap.size<=b) L w):=by
 have H0:=Lib.hid h0;have H1:=Lib.hid h1;obtain ⟨A0,m0,e0,B0,f0,rfl,-⟩:=h0.open_;obtain ⟨A1,m1,e1,B1,f1,rfl,-⟩:=h1.open_;obtain ⟨Wx0,hV0⟩:∃ V,(w.alloc (.cells #[.int .i64 f.lv,.bool f.neg,.slice A0 m0 e0,.slice B0 f.cs.length f0] 35))=V:=⟨_,rfl⟩;obtain ⟨W,hV1⟩:∃ V,(Wx0.alloc (.cells #[.int .i64 g.lv,.bool g.neg,.slice A1 m1 e1,.slice B1 g.cs.length f1] 35))=V:=⟨_,rfl⟩;have hs0:Wx0.heap.size=w.heap.size+1:=by rw [<- hV0]; simp
 have hx0:Ext w Wx0:=by rw [<- hV0]; exact (Ext.refl w).alloc _
 have hs1:W.heap.size=w.heap.size+1+1:=by rw [<- hV1,<- hs0]; simp
 have hx1:Ext Wx0 W:=by rw [<- hV1]; exact (Ext.refl Wx0).alloc _
 have hb0:jb W (w.heap.size) f (.slice A0 m0 e0) (.slice B0 f.cs.length f0):=by
  have hh:jb Wx0 w.heap.size f (.slice A0 m0 e0) (.slice B0 f.cs.length f0):=by rw [<- hV0]; exact jb.new w f _ _ _
  exact hh.ext hx1 (by omega)
 have hb1:jb W (w.heap.size+1) g (.slice A1 m1 e1) (.slice B1 g.cs.length f1):=by
  have hh:jb W Wx0.heap.size g (.slice A1 m1 e1) (.slice B1 g.cs.length f1):=by rw [<- hV1]; exact jb.new Wx0 g _ _ _
  rw [hs0] at hh;exact hh
 have HX:=Lib.hid (hx0.trans hx1);have HB0:=Lib.hid hb0;have HB1:=Lib.hid hb1;have hsw:W.heap.size=w.heap.size+1+1:=hs1;clear h0 h1 hx0 hx1 hb0 hb1;have HC:=Lib.hid (fun (W':World) (hx:Ext w W')=>check_any _ _ hl hl4 (H0.out.ext hx) (H1.out.ext hx) hf.can hg.can (jar (l:=l) (by omega)) (jar (l:=l) (by omega)));have HD0:=Lib.hid (fun (W':World) (hx:Ext w W')=>vac (l:=l) _ hf.can (hf.copy_ (by omega)) (by have:=hf.dm; omega) (H0.out.ext hx));have HD1:=Lib.hid (fun (W':World) (hx:Ext w W')=>vac (l:=l) _ hg.can (hg.copy_ (by omega)) (by have:=hg.dm; omega) (H1.out.ext hx));have HLC:=Lib.hid hLC;have HSS:Hid (∀ W',Ext W W'->(Ext W W'/\(W'.cell? ⟨w.heap.size,0,none⟩=some (.int .i64 f.lv)/\W'.cell? ⟨w.heap.size,1,none⟩=some (.bool f.neg)/\W'.cell? ⟨w.heap.size,2,none⟩=some (.slice A0 m0 e0)/\W'.cell? ⟨w.heap.size,3,none⟩=some (.slice B0 f.cs.length f0))/\(W'.cell? ⟨w.heap.size+1,0,none⟩=some (.int .i64 g.lv)/\W'.cell? ⟨w.heap.size+1,1,none⟩=some (.bool g.neg)/\W'.cell? ⟨w.heap.size+1,2,none⟩=some (.slice A1 m1 e1)/\W'.cell? ⟨w.heap.size+1,3,none⟩=some (.slice B1 g.cs.length f1)))):=Lib.hid (fun W' hx=>⟨hx,HB0.out.ext hx (by omega),HB1.out.ext hx (by omega)⟩);obtain ⟨m,hm⟩:∃ m,mdg l f=m:=⟨_,rfl⟩;obtain ⟨n,hn⟩:∃ n,mdg l g=n:=⟨_,rfl⟩;rw [hm] at HD0 hf0 hfb HD;rw [hn] at HD1 hg0 hgb HD;obtain ⟨b0,b1,b2,b3⟩:=HB1.out;obtain ⟨a0,a1,a2,a3⟩:=HB0.out;unfold plV at HC HD0 HD1 HD ⊢;clear hf hg hm hn hLC hE hD;go_enter Tryz.func99,Tryz.ntmps99;go_wp2_with fail;clear hV0 hV1;clear a0 a1 a2 a3 b0 b1 b2 b3;refine (HC.out _ HX.out).mono ?_;rintro e w1 ⟨rfl,x1⟩;have HSW:=Lib.hid hsw;clear hsw hs0 hs1 HC;have y0:Ext W w1.drew:=x1.drew;go_upto_region 4 with fail;refine wp_region_held_drew (S:=fun W'=>Ext W W'/\(W'.cell? ⟨w.heap.size,0,none⟩=some (.int .i64 f.lv)/\W'.cell? ⟨w.heap.size,1,none⟩=some (.bool f.neg)/\W'.cell? ⟨w.heap.size,2,none⟩=some (.slice A0 m0 e0)/\W'.cell? ⟨w.heap.size,3,none⟩=some (.slice B0 f.cs.length f0))/\(W'.cell? ⟨w.heap.size+1,0,none⟩=some (.int .i64 g.lv)/\W'.cell? ⟨w.heap.size+1,1,none⟩=some (.bool g.neg)/\W'.cell? ⟨w.heap.size+1,2,none⟩=some (.slice A1 m1 e1)/\W'.cell? ⟨w.heap.size+1,3,none⟩=some (.slice B1 g.cs.length f1))) (by kernel_rfl) (HSS.out _ y0) (fun hHeld=>?_);refine tk 0 ?_ (hy:=Or.inl ⟨by rfl,by intro w' hSw; obtain ⟨-,⟨k0,k1,k2,k3⟩,k4,k5,k6,k7⟩:=hSw; go_simp; (try (with_reducible rfl))⟩);refine tk 1 ?_;refine tk 3 ?_ (hy:=Or.inl ⟨by rfl,by intro w' hSw; obtain ⟨-,⟨k0,k1,k2,k3⟩,k4,k5,k6,k7⟩:=hSw; go_simp; (try (with_reducible rfl))⟩);refine tk 4 ?_;refine wpAnyH_ready (rs:=[2]) (by kernel_rfl) (by simp) ?_;refine AllReadyH.cons rfl (fun K hK=>?_) AllReadyH.nil;go_simp
 go_at_call 21
 refine (HD0.out _ (HX.out.trans y0)).mono ?_;rintro e w2 ⟨rfl,x2⟩;have y2:=y0.trans x2;refine hK.out _ _ (HSS.out _ y2) (fun hHeld=>?_);clear hK K
 try simp only [Act.put,List.getElem_toArray,List.getElem_cons_zero,List.getElem_cons_succ,List.setIfInBounds_toArray,List.set_cons_zero,List.set_cons_succ]
 refine wpAnyH_ready (rs:=[5]) (by kernel_rfl) (by simp) ?_;refine AllReadyH.cons rfl (fun K hK=>?_) AllReadyH.nil;go_simp
 go_at_call 21
 refine (HD1.out _ (HX.out.trans y2)).mono ?_;rintro e w3 ⟨rfl,x3⟩;have y3:=y2.trans x3;refine hK.out _ _ (HSS.out _ y3) (fun hHeld=>?_);clear hK K
 try simp only [Act.put,List.getElem_toArray,List.getElem_cons_zero,List.getElem_cons_succ,List.setIfInBounds_toArray,List.set_cons_zero,List.set_cons_succ]
 refine tk 6 ?_;refine tk 7 ?_;refine wpAnyH_done (by kernel_rfl) ?_ _;obtain ⟨-,⟨a0,a1,a2,a3⟩,b0,b1,b2,b3⟩:=hHeld;have Y3:=Lib.hid y3;clear x1 x2 x3 y0 y2 y3 HSS HD0 HD1;have hmin:¬ min m n=0:=by omega
 rcases HD.out with ⟨hmn,hd⟩ | ⟨rfl,rfl,hL1,hd⟩
 · have HDC:=Lib.hid (hd _ (HX.out.trans Y3.out));clear hd HD;go_wp2_with fail;refine HDC.out.mono ?_;rintro e w5 ⟨v5,rfl,row5,x5⟩;clear HDC;have row5:=row5.mono (q':=fun b=>W.heap.size<=b) (fun b hb=>by have:=Y3.out.size; omega);have x5:=Y3.out.trans x5;obtain ⟨Rv,rc,rfl,hrc1,hrc2,hrr⟩:=id row5;have HRR:=Lib.hid hrr;have X5:=Lib.hid x5;clear hrr row5;go_wp2_with fail;clear a0 a1 a2 a3 b0 b1 b2 b3
   go_loopw [47] (fun iv wr=>∃ k:Nat,k<=L.length/\iv=.int .i64 k/\Hid (Ext W wr/\uac wr (fun b=>W.heap.size<=b) (.slice Rv L.length rc) L)) (fun iv _=>L.length - (intOf iv).toNat)
   case atStart=>exact ⟨0,Nat.zero_le _,rfl,Lib.hid ⟨X5.out,Rv,rc,rfl,hrc1,hrc2,HRR.out⟩⟩
   case round =>
    obtain ⟨k,hk,rfl,HI⟩:=hrel
    by_cases hlt:k < L.length
    · obtain ⟨hx,Rv',rc',e',-,-,hrow⟩:=HI.out;injection e' with e1 e2 e3
      subst e1 e3;obtain ⟨R,rfl,hRq,hrow⟩:=hrow (fun e=>by rw [e] at hlt; simp at hlt);obtain ⟨C0,j0,k0,C1,j1,k1,⟨g0,g1,g2,g3⟩,hpk⟩:=hrow.el k hlt;have hRf:=hrow.2.1;have HN:=Lib.hid (yab _ hpk (HLC.out _ (List.getElem_mem hlt)).1 (HLC.out _ (List.getElem_mem hlt)).2.1 (HLC.out _ (List.getElem_mem hlt)).2.2);have HSET:Hid (L.set k L[k]=L):=Lib.hid (List.set_getElem_self hlt);have HROWk:=Lib.hid hrow;have HXR:=Lib.hid hx;have HRQ:=Lib.hid hRq;have hRlt:=hrow.1;generalize L[k]=c at *;unfold plV at HN;clear hpk hrow hx hRq HI;go_wp2_with fail;clear g0 g1 g2 g3;refine HN.out.mono ?_;rintro e w6 ⟨v6,rfl,p6,x6⟩;obtain ⟨D0,i0,h0,D1,h1,rfl,-⟩:=id p6.open_;have hset:=((HROWk.out.ext x6).set_ k hlt c (p6.mono fun b hb=>by have:=HROWk.out.1; have:=HXR.out.size; exact ⟨by omega,by omega⟩)).1;rw [HSET.out] at hset;obtain ⟨E0,m0,n0,E1,m1,n1,⟨s0,s1,s2,s3⟩,-⟩:=(HROWk.out.ext x6).el k hlt;have hRf6:=(HROWk.out.ext x6).2.1;obtain ⟨V,hV⟩:∃ V,((((w6.setCell ⟨R,k * 4,none⟩ (.int .i64 c.lv)).setCell ⟨R,k * 4+1,none⟩ (.bool c.neg)).setCell ⟨R,k * 4+2,none⟩ (.slice D0 i0 h0)).setCell ⟨R,k * 4+3,none⟩ (.slice D1 c.cs.length h1))=V:=⟨_,rfl⟩;have HFIN:Hid (Ext W V/\uac V (fun b=>W.heap.size<=b) (.slice (some ⟨R,0,none⟩) L.length rc) L):=Lib.hid (by
       have hq:=HRQ.out;refine ⟨by rw [<- hV]; exact (((((HXR.out.trans x6).setCell hq _).setCell hq _).setCell hq _).setCell hq _),_,_,rfl,hrc1,hrc2,fun _=>⟨R,rfl,hq,?_⟩⟩
       rw [<- hV]; exact hset)
      unfold plV;clear hset p6 x6 HN HROWk HSET;go_wp2_with fail;clear s0 s1 s2 s3
      go_roundw
      case rel=>exact ⟨k+1,by omega,by first | go_num | rfl,HFIN.out⟩
      case measure=>simp [intOf]; omega
    · obtain rfl:k=L.length:=by omega
      have HF:=Lib.hid HI.out;clear HI;go_wp2_with fail;exact bodyPost_ret (v:=.tuple #[.slice Rv L.length rc,.int .i64 0]) (by simp [results,Tryz.results99,go_sem]) rfl ⟨_,rfl,HF.out.2.mono fun b hb=>by have:=HX.out.size; omega,HX.out.trans HF.out.1⟩
 · have HDC:=Lib.hid (hd _ (HX.out.trans Y3.out));have HL1:=Lib.hid hL1;clear hd HD hL1;go_wp2_with fail;refine HDC.out.mono ?_;rintro e w5 ⟨v5,rfl,row5,x5⟩;clear HDC;have row5:=row5.mono (q':=fun b=>W.heap.size<=b) (fun b hb=>by have:=Y3.out.size; omega);have x5:=Y3.out.trans x5;obtain ⟨Rv,rc,rfl,hrc1,hrc2,hrr⟩:=id row5;have HRR:=Lib.hid hrr;have X5:=Lib.hid x5;clear hrr row5;go_wp2_with fail;clear a0 a1 a2 a3 b0 b1 b2 b3
   go_loopw [47] (fun iv wr=>∃ k:Nat,k<=L.length/\iv=.int .i64 k/\Hid (Ext W wr/\uac wr (fun b=>W.heap.size<=b) (.slice Rv L.length rc) L)) (fun iv _=>L.length - (intOf iv).toNat)
   case atStart=>exact ⟨0,Nat.zero_le _,rfl,Lib.hid ⟨X5.out,Rv,rc,rfl,hrc1,hrc2,HRR.out⟩⟩
   case round =>
    obtain ⟨k,hk,rfl,HI⟩:=hrel
    by_cases hlt:k < L.length
    · obtain ⟨hx,Rv',rc',e',-,-,hrow⟩:=HI.out;injection e' with e1 e2 e3
      subst e1 e3;obtain ⟨R,rfl,hRq,hrow⟩:=hrow (fun e=>by rw [e] at hlt; simp at hlt);obtain ⟨C0,j0,k0,C1,j1,k1,⟨g0,g1,g2,g3⟩,hpk⟩:=hrow.el k hlt;have hRf:=hrow.2.1;have HN:=Lib.hid (yab _ hpk (HLC.out _ (List.getElem_mem hlt)).1 (HLC.out _ (List.getElem_mem hlt)).2.1 (HLC.out _ (List.getElem_mem hlt)).2.2);have HSET:Hid (L.set k L[k]=L):=Lib.hid (List.set_getElem_self hlt);have HROWk:=Lib.hid hrow;have HXR:=Lib.hid hx;have HRQ:=Lib.hid hRq;have hRlt:=hrow.1;generalize L[k]=c at *;unfold plV at HN;clear hpk hrow hx hRq HI;have hk0:k=0:=by have:=HL1.out; omega
      subst hk0;simp only [Nat.zero_mul,Nat.zero_add] at g0 g1 g2 g3;go_wp2_with fail;clear g0 g1 g2 g3;refine HN.out.mono ?_;rintro e w6 ⟨v6,rfl,p6,x6⟩;obtain ⟨D0,i0,h0,D1,h1,rfl,-⟩:=id p6.open_;have hset:=((HROWk.out.ext x6).set_ 0 hlt c (p6.mono fun b hb=>by have:=HROWk.out.1; have:=HXR.out.size; exact ⟨by omega,by omega⟩)).1;rw [HSET.out] at hset;obtain ⟨E0,m0,n0,E1,m1,n1,⟨s0,s1,s2,s3⟩,-⟩:=(HROWk.out.ext x6).el 0 hlt;have hRf6:=(HROWk.out.ext x6).2.1;simp only [Nat.zero_mul,Nat.zero_add] at s0 s1 s2 s3 hset;obtain ⟨V,hV⟩:∃ V,((((w6.setCell ⟨R,0,none⟩ (.int .i64 c.lv)).setCell ⟨R,1,none⟩ (.bool c.neg)).setCell ⟨R,2,none⟩ (.slice D0 i0 h0)).setCell ⟨R,3,none⟩ (.slice D1 c.cs.length h1))=V:=⟨_,rfl⟩;have HFIN:Hid (Ext W V/\uac V (fun b=>W.heap.size<=b) (.slice (some ⟨R,0,none⟩) L.length rc) L):=Lib.hid (by
       have hq:=HRQ.out;refine ⟨by rw [<- hV]; exact (((((HXR.out.trans x6).setCell hq _).setCell hq _).setCell hq _).setCell hq _),_,_,rfl,hrc1,hrc2,fun _=>⟨R,rfl,hq,?_⟩⟩
       rw [<- hV]; exact hset)
      unfold plV;clear hset p6 x6 HN HROWk HSET;go_wp2_with fail;clear s0 s1 s2 s3
      go_roundw
      case rel=>exact ⟨0+1,by omega,by first | go_num | rfl,HFIN.out⟩
      case measure=>simp [intOf]; omega
    · obtain rfl:k=L.length:=by omega
      have HF:=Lib.hid HI.out;clear HI;go_wp2_with fail;exact bodyPost_ret (v:=.tuple #[.slice Rv L.length rc,.int .i64 0]) (by simp [results,Tryz.results99,go_sem]) rfl ⟨_,rfl,HF.out.2.mono fun b hb=>by have:=HX.out.size; omega,HX.out.trans HF.out.1⟩
theorem chain_nil {w:World} {q0 q1:Nat->Prop} {f g:Pl} {l:Int} {E D:Nat} (v0 v1:Value) (hl:1<=l) (hl4:l<=4) (h0:PlV w q0 f v0) (h1:PlV w q1 g v1) (hf:Fit f E D) (hg:Fit g E D) (hE:E<=62) (hD:D<=1099511627776) (hf0:0<=mdg l f) (hg0:0<=mdg l g) (hfg:min (mdg l f) (mdg l g)=0) :
 Calls Tryz.prog 99 #[v0,v1,.int .i64 l] w (gaf (fun b=>w.heap.size<=b) [] w):=by
 have H0:=Lib.hid h0;have H1:=Lib.hid h1;obtain ⟨A0,m0,e0,B0,f0,rfl,-⟩:=h0.open_;obtain ⟨A1,m1,e1,B1,f1,rfl,-⟩:=h1.open_;obtain ⟨Wx0,hV0⟩:∃ V,(w.alloc (.cells #[.int .i64 f.lv,.bool f.neg,.slice A0 m0 e0,.slice B0 f.cs.length f0] 35))=V:=⟨_,rfl⟩;obtain ⟨W,hV1⟩:∃ V,(Wx0.alloc (.cells #[.int .i64 g.lv,.bool g.neg,.slice A1 m1 e1,.slice B1 g.cs.length f1] 35))=V:=⟨_,rfl⟩;have hs0:Wx0.heap.size=w.heap.size+1:=by rw [<- hV0]; simp
 have hx0:Ext w Wx0:=by rw [<- hV0]; exact (Ext.refl w).alloc _
 have hs1:W.heap.size=w.heap.size+1+1:=by rw [<- hV1,<- hs0]; simp
 have hx1:Ext Wx0 W:=by rw [<- hV1]; exact (Ext.refl Wx0).alloc _
 have hb0:jb W (w.heap.size) f (.slice A0 m0 e0) (.slice B0 f.cs.length f0):=by
  have hh:jb Wx0 w.heap.size f (.slice A0 m0 e0) (.slice B0 f.cs.length f0):=by rw [<- hV0]; exact jb.new w f _ _ _
  exact hh.ext hx1 (by omega)
 have hb1:jb W (w.heap.size+1) g (.slice A1 m1 e1) (.slice B1 g.cs.length f1):=by
  have hh:jb W Wx0.heap.size g (.slice A1 m1 e1) (.slice B1 g.cs.length f1):=by rw [<- hV1]; exact jb.new Wx0 g _ _ _
  rw [hs0] at hh;exact hh
 have HX:=Lib.hid (hx0.trans hx1);have HB0:=Lib.hid hb0;have HB1:=Lib.hid hb1;have hsw:W.heap.size=w.heap.size+1+1:=hs1;clear h0 h1 hx0 hx1 hb0 hb1;have HC:=Lib.hid (fun (W':World) (hx:Ext w W')=>check_any _ _ hl hl4 (H0.out.ext hx) (H1.out.ext hx) hf.can hg.can (jar (l:=l) (by omega)) (jar (l:=l) (by omega)));have HD0:=Lib.hid (fun (W':World) (hx:Ext w W')=>vac (l:=l) _ hf.can (hf.copy_ (by omega)) (by have:=hf.dm; omega) (H0.out.ext hx));have HD1:=Lib.hid (fun (W':World) (hx:Ext w W')=>vac (l:=l) _ hg.can (hg.copy_ (by omega)) (by have:=hg.dm; omega) (H1.out.ext hx));have HSS:Hid (∀ W',Ext W W'->(Ext W W'/\(W'.cell? ⟨w.heap.size,0,none⟩=some (.int .i64 f.lv)/\W'.cell? ⟨w.heap.size,1,none⟩=some (.bool f.neg)/\W'.cell? ⟨w.heap.size,2,none⟩=some (.slice A0 m0 e0)/\W'.cell? ⟨w.heap.size,3,none⟩=some (.slice B0 f.cs.length f0))/\(W'.cell? ⟨w.heap.size+1,0,none⟩=some (.int .i64 g.lv)/\W'.cell? ⟨w.heap.size+1,1,none⟩=some (.bool g.neg)/\W'.cell? ⟨w.heap.size+1,2,none⟩=some (.slice A1 m1 e1)/\W'.cell? ⟨w.heap.size+1,3,none⟩=some (.slice B1 g.cs.length f1)))):=Lib.hid (fun W' hx=>⟨hx,HB0.out.ext hx (by omega),HB1.out.ext hx (by omega)⟩);obtain ⟨m,hm⟩:∃ m,mdg l f=m:=⟨_,rfl⟩;obtain ⟨n,hn⟩:∃ n,mdg l g=n:=⟨_,rfl⟩;rw [hm] at HD0 hf0 hfg;rw [hn] at HD1 hg0 hfg;obtain ⟨b0,b1,b2,b3⟩:=HB1.out;obtain ⟨a0,a1,a2,a3⟩:=HB0.out;unfold plV at HC HD0 HD1 ⊢;clear hf hg hm hn hE hD;go_enter Tryz.func99,Tryz.ntmps99;go_wp2_with fail;clear hV0 hV1;clear a0 a1 a2 a3 b0 b1 b2 b3;refine (HC.out _ HX.out).mono ?_;rintro e w1 ⟨rfl,x1⟩;have HSW:=Lib.hid hsw;clear hsw hs0 hs1 HC;have y0:Ext W w1.drew:=x1.drew;go_upto_region 4 with fail;refine wp_region_held_drew (S:=fun W'=>Ext W W'/\(W'.cell? ⟨w.heap.size,0,none⟩=some (.int .i64 f.lv)/\W'.cell? ⟨w.heap.size,1,none⟩=some (.bool f.neg)/\W'.cell? ⟨w.heap.size,2,none⟩=some (.slice A0 m0 e0)/\W'.cell? ⟨w.heap.size,3,none⟩=some (.slice B0 f.cs.length f0))/\(W'.cell? ⟨w.heap.size+1,0,none⟩=some (.int .i64 g.lv)/\W'.cell? ⟨w.heap.size+1,1,none⟩=some (.bool g.neg)/\W'.cell? ⟨w.heap.size+1,2,none⟩=some (.slice A1 m1 e1)/\W'.cell? ⟨w.heap.size+1,3,none⟩=some (.slice B1 g.cs.length f1))) (by kernel_rfl) (HSS.out _ y0) (fun hHeld=>?_);refine tk 0 ?_ (hy:=Or.inl ⟨by rfl,by intro w' hSw; obtain ⟨-,⟨k0,k1,k2,k3⟩,k4,k5,k6,k7⟩:=hSw; go_simp; (try (with_reducible rfl))⟩);refine tk 1 ?_;refine tk 3 ?_ (hy:=Or.inl ⟨by rfl,by intro w' hSw; obtain ⟨-,⟨k0,k1,k2,k3⟩,k4,k5,k6,k7⟩:=hSw; go_simp; (try (with_reducible rfl))⟩);refine tk 4 ?_;refine wpAnyH_ready (rs:=[2]) (by kernel_rfl) (by simp) ?_;refine AllReadyH.cons rfl (fun K hK=>?_) AllReadyH.nil;go_simp
 go_at_call 21
 refine (HD0.out _ (HX.out.trans y0)).mono ?_;rintro e w2 ⟨rfl,x2⟩;have y2:=y0.trans x2;refine hK.out _ _ (HSS.out _ y2) (fun hHeld=>?_);clear hK K
 try simp only [Act.put,List.getElem_toArray,List.getElem_cons_zero,List.getElem_cons_succ,List.setIfInBounds_toArray,List.set_cons_zero,List.set_cons_succ]
 refine wpAnyH_ready (rs:=[5]) (by kernel_rfl) (by simp) ?_;refine AllReadyH.cons rfl (fun K hK=>?_) AllReadyH.nil;go_simp
 go_at_call 21
 refine (HD1.out _ (HX.out.trans y2)).mono ?_;rintro e w3 ⟨rfl,x3⟩;have y3:=y2.trans x3;refine hK.out _ _ (HSS.out _ y3) (fun hHeld=>?_);clear hK K
 try simp only [Act.put,List.getElem_toArray,List.getElem_cons_zero,List.getElem_cons_succ,List.setIfInBounds_toArray,List.set_cons_zero,List.set_cons_succ]
 refine tk 6 ?_;refine tk 7 ?_;refine wpAnyH_done (by kernel_rfl) ?_ _;obtain ⟨-,⟨a0,a1,a2,a3⟩,b0,b1,b2,b3⟩:=hHeld;have Y3:=Lib.hid y3;clear x1 x2 x3 y0 y2 y3 HSS HD0 HD1;go_wp2_with fail;exact bodyPost_ret (v:=.tuple #[.slice none 0 0,.int .i64 0]) (by simp [results,Tryz.results99,go_sem]) rfl ⟨_,rfl,⟨none,0,rfl,by simp,by omega,fun h=>absurd rfl h⟩,HX.out.trans Y3.out⟩
/- Layer 25: Psc over a contract of Chain; Psc where one degree is 1, or 0. -/
set_option maxRecDepth 100000
set_option maxHeartbeats 8000000
def pcf (l:Int) (L:List Pl):List Pl:=(List.range L.length).map fun (j:Nat)=>uq l (j:Int) (L.getD j Pl.zero)
theorem uaj (l:Int) (L:List Pl):(pcf l L).length=L.length:=by simp [pcf]
theorem vch (l:Int) (L:List Pl) (k:Nat) (h:k < L.length) (h':k < (pcf l L).length):(pcf l L)[k]=uq l k L[k]:=by
 simp [pcf,List.getD_eq_getElem?_getD,List.getElem?_eq_getElem h]
theorem ga9 {α:Type} {A L:List α} (h:A.length=L.length) (k:Nat):(A.take k ++ L.drop k).length=L.length:=by
 rw [List.length_append,List.length_take,List.length_drop]; omega
theorem wa9 {α:Type} {A L:List α} (h:A.length=L.length) (k:Nat) (hk:k < L.length) (h':k < (A.take k ++ L.drop k).length):(A.take k ++ L.drop k)[k]=L[k]:=by
 rw [List.getElem_append_right (by rw [List.length_take]; omega),List.getElem_drop]
 congr 1
 rw [List.length_take]; omega
theorem ubr {α:Type} {A L:List α} (h:A.length=L.length) (k:Nat) (hk:k < L.length) (hk':k < A.length):(A.take k ++ L.drop k).set k A[k]=A.take (k+1) ++ L.drop (k+1):=by
 have ht:(A.take k).length=k:=by rw [List.length_take]; omega
 rw [List.set_append_right _ _ (by omega),ht,Nat.sub_self,List.drop_eq_getElem_cons hk,List.set_cons_zero,List.take_succ_eq_append_getElem hk',List.append_assoc]
 rfl
theorem va9 {w : World} {q0 q1 : Nat -> Prop} {f g : Pl} {l : Int} {E D : Nat} {L : List Pl} (v0 v1 : Value) (hl : 1 <= l) (hl4 : l <= 4) (h0 : PlV w q0 f v0) (h1 : PlV w q1 g v1) (hE : E <= 170) (hD : D <= 1099511627776)
 (hLn:L.length<=1000) (hLC:∀ c ∈ L,Fit c E D)
 (HC:Hid (∀ W',Ext w W'->Calls Tryz.prog 99 #[v0,v1,.int .i64 l] W' (gaf (fun b=>W'.heap.size<=b) L W'))) :
 Calls Tryz.prog 72 #[v0,v1,.int .i64 l] w (gaf (fun b=>w.heap.size<=b) (pcf l L) w):=by
 have H0:=Lib.hid h0;have H1:=Lib.hid h1;obtain ⟨A0,m0,e0,B0,f0,rfl,-⟩:=h0.open_;obtain ⟨A1,m1,e1,B1,f1,rfl,-⟩:=h1.open_;obtain ⟨Wx0,hV0⟩:∃ V,(w.alloc (.cells #[.int .i64 f.lv,.bool f.neg,.slice A0 m0 e0,.slice B0 f.cs.length f0] 35))=V:=⟨_,rfl⟩;obtain ⟨W,hV1⟩:∃ V,(Wx0.alloc (.cells #[.int .i64 g.lv,.bool g.neg,.slice A1 m1 e1,.slice B1 g.cs.length f1] 35))=V:=⟨_,rfl⟩;have hs0:Wx0.heap.size=w.heap.size+1:=by rw [<- hV0]; simp
 have hx0:Ext w Wx0:=by rw [<- hV0]; exact (Ext.refl w).alloc _
 have hs1:W.heap.size=w.heap.size+1+1:=by rw [<- hV1,<- hs0]; simp
 have hx1:Ext Wx0 W:=by rw [<- hV1]; exact (Ext.refl Wx0).alloc _
 have hb0:jb W (w.heap.size) f (.slice A0 m0 e0) (.slice B0 f.cs.length f0):=by
  have hh:jb Wx0 w.heap.size f (.slice A0 m0 e0) (.slice B0 f.cs.length f0):=by rw [<- hV0]; exact jb.new w f _ _ _
  exact hh.ext hx1 (by omega)
 have hb1:jb W (w.heap.size+1) g (.slice A1 m1 e1) (.slice B1 g.cs.length f1):=by
  have hh:jb W Wx0.heap.size g (.slice A1 m1 e1) (.slice B1 g.cs.length f1):=by rw [<- hV1]; exact jb.new Wx0 g _ _ _
  rw [hs0] at hh;exact hh
 have HX:=Lib.hid (hx0.trans hx1);have HB0:=Lib.hid hb0;have HB1:=Lib.hid hb1;have hsw:W.heap.size=w.heap.size+1+1:=hs1;clear h0 h1 hx0 hx1 hb0 hb1;have HLC:=Lib.hid hLC;obtain ⟨b0,b1,b2,b3⟩:=HB1.out;obtain ⟨a0,a1,a2,a3⟩:=HB0.out;unfold plV at HC ⊢;clear hLC;go_enter Tryz.func72,Tryz.ntmps72;go_wp2_with fail;clear hV0 hV1;clear a0 a1 a2 a3 b0 b1 b2 b3;refine (HC.out _ HX.out).mono ?_;rintro e w5 ⟨v5,rfl,row5,x5⟩;obtain ⟨Rv,rc,rfl,hrc1,hrc2,hrr⟩:=id row5;have HRR:=Lib.hid hrr;have X5:=Lib.hid x5;have HSW:=Lib.hid hsw;have hwW:=HX.out.size;clear hrr row5 x5 HC hs0 hs1 hsw;go_wp2_with fail
 go_loopw [20] (fun iv wr=>∃ k:Nat,k<=L.length/\iv=.int .i64 k/\Hid (Ext W wr/\uac wr (fun b=>W.heap.size<=b) (.slice Rv L.length rc) ((pcf l L).take k ++ L.drop k))) (fun iv _=>L.length - (intOf iv).toNat)
 case atStart=>exact ⟨0,Nat.zero_le _,rfl,Lib.hid ⟨X5.out,Rv,rc,by simp,by simpa using hrc1,hrc2,by simpa using HRR.out⟩⟩
 case round =>
  obtain ⟨k,hk,rfl,HI⟩:=hrel;have hml:=ga9 (uaj l L) k
  by_cases hlt:k < L.length
  · obtain ⟨hx,Rv',rc',e',-,-,hrow⟩:=HI.out;rw [hml] at e';injection e' with e1 e2 e3
    subst e1 e3;obtain ⟨R,rfl,hRq,hrow⟩:=hrow (fun e=>by rw [e] at hml; simp at hml; omega);obtain ⟨C0,j0,k0,C1,j1,k1,g,hpk⟩:=hrow.el k (by rw [hml]; exact hlt);rw [wa9 (uaj l L) k hlt] at g hpk;obtain ⟨g0,g1,g2,g3⟩:=g;have hRf:=hrow.2.1;have hk1:(k:Int)<=1000:=by omega
    have HN:=Lib.hid (ybc (k:=(k:Int)) _ (by omega) (by omega) hl hl4 (HLC.out _ (List.getElem_mem hlt)) hE hD hpk);have hkp:k < (pcf l L).length:=by rw [uaj]; exact hlt
    have HSET:=Lib.hid (ubr (uaj l L) k hlt hkp);rw [vch l L k hlt] at HSET;have HML:=Lib.hid hml;have HROWk:=Lib.hid hrow;have HXR:=Lib.hid hx;have HRQ:=Lib.hid hRq;have HML2:=Lib.hid (ga9 (uaj l L) (k+1));have hRlt:=hrow.1;obtain ⟨M,hM⟩:∃ M,(pcf l L).take k ++ L.drop k=M:=⟨_,rfl⟩;obtain ⟨M',hM'⟩:∃ M',(pcf l L).take (k+1) ++ L.drop (k+1)=M':=⟨_,rfl⟩;rw [hM] at HROWk HSET HML;rw [hM'] at HSET HML2;have HMM:=Lib.hid hM';obtain ⟨c,hc⟩:∃ c,L[k]=c:=⟨_,rfl⟩;rw [hc] at HN HSET g0 g1;obtain ⟨d,hd⟩:∃ d,uq l k c=d:=⟨_,rfl⟩;rw [hd] at HN HSET;unfold plV at HN;clear hpk hrow hx hRq HI hml hM hM' hc hd hkp;go_wp2_with fail;clear g0 g1 g2 g3;refine HN.out.mono ?_;rintro e w6 ⟨v6,rfl,p6,x6⟩;obtain ⟨D0,i0,h0,D1,h1,rfl,-⟩:=id p6.open_;have hset:=((HROWk.out.ext x6).set_ k (by rw [HML.out]; exact hlt) d (p6.mono fun b hb=>by have:=HROWk.out.1; have:=HXR.out.size; exact ⟨by omega,by omega⟩)).1;rw [HSET.out] at hset;obtain ⟨E0,m0,n0,E1,m1,n1,⟨s0,s1,s2,s3⟩,-⟩:=(HROWk.out.ext x6).el k (by rw [HML.out]; exact hlt);have hRf6:=(HROWk.out.ext x6).2.1;obtain ⟨V,hV⟩:∃ V,((((w6.setCell ⟨R,k * 4,none⟩ (.int .i64 d.lv)).setCell ⟨R,k * 4+1,none⟩ (.bool d.neg)).setCell ⟨R,k * 4+2,none⟩ (.slice D0 i0 h0)).setCell ⟨R,k * 4+3,none⟩ (.slice D1 d.cs.length h1))=V:=⟨_,rfl⟩;have HFIN:Hid (Ext W V/\uac V (fun b=>W.heap.size<=b) (.slice (some ⟨R,0,none⟩) L.length rc) ((pcf l L).take (k+1) ++ L.drop (k+1))):=Lib.hid (by
     have hq:=HRQ.out;refine ⟨by rw [<- hV]; exact (((((HXR.out.trans x6).setCell hq _).setCell hq _).setCell hq _).setCell hq _),_,_,by rw [HMM.out,HML2.out],by rw [HMM.out,HML2.out]; exact hrc1,hrc2,fun _=>⟨R,rfl,hq,?_⟩⟩
     rw [HMM.out,<- hV]; exact hset)
    unfold plV;clear hset p6 x6 HN HROWk HSET;go_wp2_with fail;clear s0 s1 s2 s3
    go_roundw
    case rel=>exact ⟨k+1,by omega,by go_num,HFIN.out⟩
    case measure=>simp [intOf]; omega
  · obtain rfl:k=L.length:=by omega
    have hf:=HI.out;rw [List.drop_length,List.append_nil,<- uaj l L,List.take_length] at hf;have HF:=Lib.hid hf;rw [uaj] at HF;clear HI hf hml;go_wp2_with fail;exact bodyPost_ret (v:=.tuple #[.slice Rv L.length rc,.int .i64 0]) (by simp [results,Tryz.results72,go_sem]) rfl ⟨_,rfl,HF.out.2.mono fun b hb=>by omega,HX.out.trans HF.out.1⟩
theorem jch {w : World} {q0 q1 : Nat -> Prop} {f g : Pl} {l : Int} {E D : Nat} (v0 v1 : Value) (hl : 1 <= l) (hl4 : l <= 4) (h0 : PlV w q0 f v0) (h1 : PlV w q1 g v1) (hf : Fit f E D) (hg : Fit g E D) (hE : E + (E + 1) * E + E <= 62) (hD : D + (E + 1) * (D + 3) + 1 <= 1099511627776) (hf0 : 0 <= mdg l f) (hg0 : 0 <= mdg l g)
 (hc:mdg l f=0\/mdg l g=0\/mdg l g=1\/mdg l f=1/\mdg l g=2):Calls Tryz.prog 72 #[v0,v1,.int .i64 l] w (gaf (fun b=>w.heap.size<=b) (xaa l f g) w):=by
 have hEE:=Nat.mul_le_mul_right E (show 1<=E+1 by omega);have hDD:=Nat.mul_le_mul_right (D+3) (show 1<=E+1 by omega);have hB:(B32:Nat)=4294967296:=rfl;have hfb:=xal (l:=l) hf.can hf.ex;have hgb:=xal (l:=l) hg.can hg.ex
 by_cases hz:mdg l f=0\/mdg l g=0
 · have e:xaa l f g=pcf l []:=by unfold xaa pcf; rw [if_pos (by omega)]; rfl
   rw [e];exact va9 v0 v1 hl hl4 h0 h1 (E:=0) (D:=0) (by omega) (by omega) (by simp) (by simp) (Lib.hid fun W' hx=>chain_nil v0 v1 hl hl4 (h0.ext hx) (h1.ext hx) hf hg (by omega) (by omega) hf0 hg0 (by omega))
 · have hnz:¬ (mdg l f<=0\/mdg l g<=0):=by omega
   have ok:∀ {p q:Pl},Fit p E D->Fit q E D->Fit (zu l p q) 170 1099511627776/\xcn (zu l p q):=fun hp hq=>by
    have h:=ua2 hl hl4 hp hq (by omega);refine ⟨h.mono (by omega) (by omega),xat _ _ _,h.copy_ (by omega),?_⟩;have:=h.dm; omega
   by_cases h1':mdg l g=1
   · have e:xaa l f g=pcf l [zu l f g]:=by unfold xaa pcf; rw [if_neg hnz,if_pos h1']; rfl
     rw [e];refine va9 v0 v1 hl hl4 h0 h1 (E:=170) (D:=1099511627776) (by omega) (by omega) (by simp) (fun c hc=>by rw [List.mem_singleton.1 hc]; exact (ok hf hg).1) (Lib.hid fun W' hx=>ybd v0 v1 hl hl4 (h0.ext hx) (h1.ext hx) hf hg (by omega) (by omega) (by omega) (by omega) (by omega) (by omega) (by simp) (fun c hc=>by rw [List.mem_singleton.1 hc]; exact (ok hf hg).2) (Lib.hid (Or.inl ⟨by omega,fun W2 hx2=>?_⟩)));rw [h1'];exact gbc v0 v1 hl hl4 (h0.ext (hx.trans hx2)) (h1.ext (hx.trans hx2)) hf hg (by omega) hfb h1' hE hD
   · obtain ⟨h2,h3⟩:mdg l f=1/\mdg l g=2:=by omega
     have e:xaa l f g=pcf l [zu l g f]:=by unfold xaa pcf; rw [if_neg hnz,if_neg h1',if_pos h2]; rfl
     rw [e];refine va9 v0 v1 hl hl4 h0 h1 (E:=170) (D:=1099511627776) (by omega) (by omega) (by simp) (fun c hc=>by rw [List.mem_singleton.1 hc]; exact (ok hg hf).1) (Lib.hid fun W' hx=>ybd v0 v1 hl hl4 (h0.ext hx) (h1.ext hx) hf hg (by omega) (by omega) (by omega) (by omega) (by omega) (by omega) (by simp) (fun c hc=>by rw [List.mem_singleton.1 hc]; exact (ok hg hf).2) (Lib.hid (Or.inr ⟨h2,h3,rfl,fun W2 hx2=>?_⟩)));exact gbc v1 v0 hl hl4 (h1.ext (hx.trans hx2)) (h0.ext (hx.trans hx2)) hg hf (by omega) (by omega) h2 hE hD
end Go.Proofs.YtklnlgnnlmdibaaGreat
