/- Layer 41: collins.required's collecting closure. -/
import Derived.Test.YtcepajijiabkmaaGreatMq46
set_option linter.unusedSimpArgs false
set_option linter.unusedVariables false

set_option maxRecDepth 100000
set_option maxHeartbeats 8000000
namespace Go.Proofs.YtcepajijiabkmaaGreat
open Lib (hid)
open Go.RowKit
structure ja6 (T base : Nat) (acc : List Pl) (w w' : World) : Prop where
 fs:FS T base w' acc
 keep:xg T w w'
 other:∀ (i:Nat) (o:Obj),w.heap[i]?=some o->o.isCells=false->w'.heap[i]?=some o
 ext:∀ w0,Ext w0 w->w0.heap.size<=T->Ext w0 w'
theorem ja6.of_ext {T base:Nat} {acc:List Pl} {w w':World} (h:FS T base w acc) (hx:Ext w w'):ja6 T base acc w w':=
 ⟨h.ext hx,xg.of_ext h.lt hx,fun i o hi _=>(hx.below.block i (lt_of_some hi)).trans hi,fun w0 h0 _=>h0.trans hx⟩
theorem kal {W:World} {a b:Addr} {u v:Value} (h:a.block ≠ b.block):(W.setCell a u).setCell b v=(W.setCell b v).setCell a u:=by
 unfold World.setCell
 congr 1
 refine Array.ext (by simp) fun i h1 h2=>?_
 simp only [Array.getElem_modify]
 by_cases e1:a.block=i <;> by_cases e2:b.block=i
 · omega
 · simp [e1,e2]
 · simp [e1,e2]
 · simp [e1,e2]
theorem yh.pos {base:Nat} {q:Nat->Prop} {W:World} {v:Value} {l:List Pl} (h:yh base q W v l) (hl:0 < l.length):∃ g c,v=.slice (some ⟨g,0,none⟩) l.length c/\l.length<=c/\c<=9223372036854775807/\base<=g/\g < W.heap.size/\∀ i,W.frozen? ⟨g,i,none⟩=false:=by
 obtain ⟨rs,rfl,h2,-⟩:=h;rw [List.length_map] at hl ⊢;exact h2.pos hl
theorem yh.obj {base:Nat} {q:Nat->Prop} {W:World} {v:Value} {l:List Pl} (h:yh base q W v l) {R:Nat} (hR:v.ownBlock=some R):∃ cur T fr,W.heap[R]?=some (.cells cur T fr):=by
 obtain ⟨rs,-,h2,-⟩:=h;exact yae h2.1 R hR
theorem ucc {T base g c : Nat} {acc : List Pl} {P : Pl} {w wr w4 w5 Wf : World} {fv : Value} {A0 A1 : Option Addr} {n0 c0 n1 c1 : Nat} (UJ : FS T base w acc) (hx : Ext w wr) (Az : wr.heap[T]? = some (.cells #[fv] 31 (0, 0))) (hq : yh base (fun b => base <= b) wr fv acc) (nN : wr.grownBy w4 fv.ownBlock) (ik : ∀ v ds, jb wr v ds -> jb w4 v ds)
 (bM:yh base (fun b=>base<=b) w4 (.slice (some ⟨g,0,none⟩) (acc ++ [Pl.zero]).length c) (acc ++ [Pl.zero])) (lL:some g=fv.ownBlock\/wr.heap.size<=g) (hp:PlV w4 (fun b=>b ≠ g/\base<=b) P (plV P (.slice A0 n0 c0) (.slice A1 n1 c1)))
 (h5:((((w4.setCell ⟨g,acc.length * 4,none⟩ (.int .i64 P.lv)).setCell ⟨g,acc.length * 4+1,none⟩ (.bool P.neg)).setCell ⟨g,acc.length * 4+2,none⟩ (.slice A0 n0 c0)).setCell ⟨g,acc.length * 4+3,none⟩ (.slice A1 n1 c1))=w5) (hf:w5.setCell ⟨T,0,none⟩ (.slice (some ⟨g,0,none⟩) (acc ++ [Pl.zero]).length c)=Wf):ja6 T base (acc ++ [P]) w Wf:=by
 have af:acc.length < (acc ++ [Pl.zero]).length:=by simp
 have aT:=bM.set_ acc.length af P hp;rw [h5] at aT;have hl:(acc ++ [Pl.zero]).set acc.length P=acc ++ [P]:=by rw [List.set_append_right _ _ (Nat.le_refl _),Nat.sub_self]; rfl
 rw [hl] at aT;obtain ⟨hs,mF⟩:=aT;have Ap:=bM.own (R:=g) rfl;obtain ⟨hTb,hbw,fw,fZ,-⟩:=id UJ;have hTw:T < w.heap.size:=by omega
 have e0:fw=fv:=by
  have:=(hx.below.block T hTw).trans fZ;rw [Az] at this;simp at this;exact this.symm
 subst e0;have hTg:T ≠ g:=by omega
 have hTo:fw.ownBlock ≠ some T:=fun e=>by have:=(hq.own e).1; omega
 have YX:∀ b,fw.ownBlock=some b->zad T w b:=fun b e=>⟨fw,box1 fZ,e⟩
 have b5:∀ k,k ≠ g->w5.heap[k]?=w4.heap[k]?:=fun k hk=>by rw [<- h5,Below.heap_setCell _ _ _ k hk,Below.heap_setCell _ _ _ k hk,Below.heap_setCell _ _ _ k hk,Below.heap_setCell _ _ _ k hk]
 have b4:∀ k,k < wr.heap.size->fw.ownBlock ≠ some k->w4.heap[k]?=wr.heap[k]?:=fun k hk hn=>World.grownBy.block nN k hk (fun e=>hn e.symm)
 have bf:∀ k,k ≠ T->Wf.heap[k]?=w5.heap[k]?:=fun k hk=>by rw [<- hf]; exact Below.heap_setCell _ _ _ k hk
 have s5:w5.heap.size=w4.heap.size:=by rw [<- h5]; simp [World.setCell]
 have sf:Wf.heap.size=w5.heap.size:=by rw [<- hf]; simp [World.setCell]
 have sx:=hx.size;have s4:=nN.size;have hT5:w5.heap[T]?=some (.cells #[fw] 31 (0,0)):=(b5 T hTg).trans ((b4 T (by omega) hTo).trans Az);have hTf:Wf.heap[T]?=some (.cells #[.slice (some ⟨g,0,none⟩) (acc ++ [Pl.zero]).length c] 31 (0,0)):=by rw [<- hf]; exact Boxed.set _ hT5
 have eG:qo fw=false:=by obtain ⟨A,c,rfl,-⟩:=hq.len; rfl
 have nf:∀ v ds,jb w5 v ds->jb Wf v ds:=fun v ds hv=>by rw [<- hf]; exact hv.box (box1 hT5) eG _
 have FC:∀ b,zad T Wf b->b=g:=fun b ⟨v,hv,e⟩=>by
  rw [box1 hTf] at hv;injection hv with hv
  subst hv;injection e with e; exact e.symm
 have Xw:∀ i,i < w.heap.size->¬ zad T w i->i ≠ g:=fun i hi hn e=>by
  rcases lL with h | h
  · exact hn (YX i (by rw [e]; exact h.symm))
  · omega
 have Ob:yh base (fun b=>base<=b) Wf (.slice (some ⟨g,0,none⟩) (acc ++ [Pl.zero]).length c) (acc ++ [P]):=
  hs.frr ⟨by omega,nf,fun b _ hb=>bf b hb⟩ (fun e=>by injection e with e; exact hTg e.symm) (fun b hb=>by omega)
 refine ⟨⟨hTb,by omega,_,hTf,Ob⟩,⟨by omega,fun i o hiT hn hi _=>?_,fun i hi e=>?_,fun _ b e=>?_,fun v ds hv=>nf _ _ (mF _ _ (ik _ _ (hv.ext hx)))⟩,fun i o hi ho=>?_,fun w0 h0 h0T=>?_⟩
 · have fF:=lt_of_some hi;exact (bf i hiT).trans ((b5 i (Xw i fF hn)).trans ((b4 i (by omega) (fun e=>hn (YX i e))).trans ((hx.below.block i fF).trans hi)))
 · have e1:=FC i e;rcases lL with h | h
   · exact YX i (by rw [e1]; exact h.symm)
   · omega
 · have e1:=FC b e;omega
 · have fF:=lt_of_some hi;have h1:=(hx.below.block i fF).trans hi;have n1:fw.ownBlock ≠ some i:=fun e=>by
    obtain ⟨cur,t,fr,hc⟩:=hq.obj e;rw [h1] at hc; injection hc with hc; rw [hc] at ho; cases ho
   have h2:=(b4 i (by omega) n1).trans h1;have n2:i ≠ g:=fun e=>by
    obtain ⟨cur,t,fr,hc⟩:=bM.obj (R:=g) rfl;rw [e,hc] at h2; injection h2 with h2; rw [<- h2] at ho; cases ho
   have n3:i ≠ T:=fun e=>by
    rw [e,fZ] at hi; injection hi with hi; rw [<- hi] at ho; cases ho
   exact (bf i n3).trans ((b5 i n2).trans h2)
 · have Hw:=h0.size;have h1:Ext w0 w4:=Below.grown (h0.trans hx).below nN (by omega) (fun k e=>by have:=(hq.own e).1; omega);have DD:w0.heap.size<=g:=by omega
   rw [<- hf,<- h5];exact ((((h1.setCell DD _).setCell DD _).setCell DD _).setCell DD _).setCell h0T _
theorem jcw {w:World} {T base E D:Nat} {q:Nat->Prop} {acc:List Pl} {p:Pl} (v:Value) (h0:PlV w q p v) (hp:Fit p E D) (hE:E<=170) (hD:D<=1099511627776) (UJ:FS T base w acc) (qO:∀ c ∈ acc,Fit c E D) (hn:acc.length<=100000) :
 Calls Tryz.prog 58 #[v,.pointer (some ⟨T,0,none⟩)] w fun e w'=>(∃ r,e=.returned r)/\ja6 T base (putL acc p) w w':=by
 have H0:=hid h0;obtain ⟨A0,m0,e0,B0,f0,rfl,-⟩:=h0.open_;obtain ⟨W,fK,iE,aF,bU⟩:=b_1 w p (.slice A0 m0 e0) (.slice B0 p.cs.length f0);have HX:=hid aF;have fO:=hid bU;have jS:W.heap.size=w.heap.size+1:=iE;clear h0 aF bU;have GV:=hid UJ;have aie:=hid qO;have HC:=hid (fun (W':World) (hx:Ext w W')=>ua5 p _ (H0.out.ext hx) (hp.small hE) (by have:=hp.dm; omega) (by rw [Pl.nf_of_can hp.can]; exact hp) (by omega));rw [Pl.nf_of_can hp.can] at HC;have HS:=hid (fun (W':World) (hx:Ext w W')=>jcz _ (H0.out.ext hx) hp hE hD);have wR:=jai hp;have Me:=hid (fun (W':World) (q' q'':Nat->Prop) (u u':Value) (c:Pl) (hc:c ∈ acc) (h1:PlV W' q' (snP p) u) (h2:PlV W' q'' c u')=>jbl u u' h1 h2 (wR.small hE) (by have:=wR.dm; omega) ((qO c hc).small hE) (by have:=(qO c hc).dm; omega) (by rw [Pl.nf_of_can wR.can]; exact wR) hE);have oP:Hid (∀ i,W.frozen? ⟨w.heap.size,i,none⟩=false):=hid (by rw [<- fK]; intro i; simp [go_sem]);have CU:=hid (And.intro wR.can fun c hc=>(qO c hc).can);obtain ⟨b0,b1,b2,b3⟩:=fO.out;unfold plV at HC HS ⊢;clear hp UJ qO iE;go_enter Tryz.func58,Tryz.ntmps58;go_wp2_with fail;clear b0 b1 b2 b3;refine (HC.out _ HX.out).mono ?_;rintro e w1 ⟨x1,rfl,i1,y1⟩;obtain ⟨bx,Bx,nx,cx,rfl⟩:=i1.unpack;obtain ⟨W1,aP⟩:=n_m ((w1.alloc (.cells #[.bool bx,.slice Bx nx cx] 30)));have wK:Ext W W1:=by rw [<- aP]; exact y1.alloc _
 have qW:=hid wK;obtain ⟨b0,b1,b2,b3⟩:=fO.out.ext wK (by omega);clear i1 y1 HC wK
 by_cases dJ:p.lv=0
 · have HF:Hid (ja6 T base (putL acc p) w W1):=hid (by unfold putL; rw [if_pos dJ]; exact ja6.of_ext GV.out (HX.out.trans qW.out));have nP:decide (p.lv=0)=true:=by simpa using dJ
   clear dJ;go_wp2_with fail;exact bodyPost_ret (v:=.tuple #[]) (by simp [results,Tryz.results58,go_sem]) rfl ⟨⟨_,rfl⟩,HF.out⟩
 · have nP:decide (p.lv=0)=false:=by simpa using dJ
   have fH:Hid (putL acc p=if acc.any (nT (snP p))=true then acc else acc ++ [snP p]):=hid (by unfold putL; rw [if_neg dJ]);have HSN:=hid (HS.out W1 (HX.out.trans qW.out));clear dJ HS;go_wp2_with fail;clear aP b0 b1 b2 b3 fK;refine HSN.out.mono ?_;rintro e w2 ⟨v2,rfl,p2,x2⟩;obtain ⟨C0,j0,k0,C1,j1,rfl,-⟩:=id p2.open_;obtain ⟨P,hP⟩:=n_m (snP p);rw [hP] at p2 Me fH CU ⊢;have hbW:PBx W (fun b=>b < w.heap.size) w.heap.size p:=⟨by omega,oP.out,A0,m0,e0,B0,f0,fO.out,(H0.out.below_.ext HX.out).mono fun b hb=>⟨hb.2,by have:=hb.2; omega⟩⟩;have bT:=(hbW.ext qW.out).ext x2;obtain ⟨-,hbf,Z0,zn,zc,Z1,CV,⟨g0,g1,g2,g3⟩,-⟩:=id bT;obtain ⟨V,hV⟩:=n_m (((((w2.setCell ⟨w.heap.size,0,none⟩ (.int .i64 P.lv)).setCell ⟨w.heap.size,1,none⟩ (.bool P.neg)).setCell ⟨w.heap.size,2,none⟩ (.slice C0 j0 k0)).setCell ⟨w.heap.size,3,none⟩ (.slice C1 P.cs.length j1)));have di:Ext w V:=by rw [<- hV]; exact (((((HX.out.trans qW.out).trans x2).setCell (Nat.le_refl _) _).setCell (Nat.le_refl _) _).setCell (Nat.le_refl _) _).setCell (Nat.le_refl _) _
   have bW:=qW.out.size;have Jd:PBx V (fun b=>w.heap.size < b) w.heap.size P:=by rw [<- hV]; exact bT.store (p2.mono fun b hb=>⟨by omega,by omega⟩)
   have vO:=hid di;have MS:=hid Jd;obtain ⟨hTb,hbs,fv,Az,Cc⟩:=GV.out.ext di;obtain ⟨F0,fc,rfl,AB,nO⟩:=Cc.len;have hT0:=box1 Az;have HQ:=hid Cc;have hbw:base<=w.heap.size:=GV.out.2.1;obtain ⟨n0,gV⟩:=n_m (acc.length);have yY:=hid gV;have CS:=hid Az;clear hbW bT di Jd x2 hP HSN Cc Az;unfold plV;go_wp2_with fail;clear g0 g1 g2 g3 hbf hV hT0;rw [yY.out] at AB
   go_loopw [17] (fun iv wr=>∃ k:Nat,k<=n0/\iv=.int .i64 k/\Hid ((∀ c ∈ acc.take k,c ≠ P)/\Ext V wr)) (fun iv _=>n0 - (intOf iv).toNat)
   case atStart=>exact ⟨0,Nat.zero_le _,rfl,hid ⟨by simp,Ext.refl V⟩⟩
   case round =>
    obtain ⟨k,hk,rfl,HI⟩:=hrel;obtain ⟨au,hx⟩:=HI.out;obtain ⟨-,-,yD,wJ,k0',wH,j1',⟨b0,b1,b2,b3⟩,TZ⟩:=MS.out.ext hx
    by_cases af:k < n0
    · have fF:k < acc.length:=by rw [yY.out]; exact af
      have aK:=(HQ.out.ext hx).at_;obtain ⟨ad,G0,i0,h0,G1,i1,h1,rfl,ah,⟨g0,g1,g2,g3⟩,gU⟩:=aK.kid k fF;have CB:=hid hx;have Gy:=hid au;obtain ⟨U,hU⟩:=n_m ((wr.alloc (.cells #[.int .i64 acc[k].lv,.bool acc[k].neg,.slice G0 i0 h0,.slice G1 i1 h1] 33)));have hxU:Ext wr U:=by rw [<- hU]; exact (Ext.refl wr).alloc _
      obtain ⟨s0,s1,s2,s3⟩:jc U wr.heap.size acc[k] (.slice G0 i0 h0) (.slice G1 i1 h1):=by rw [<- hU]; exact jc.new wr acc[k] _ _ _
      have Xw:w.heap.size < wr.heap.size:=Nat.lt_of_lt_of_le MS.out.1 hx.size;obtain ⟨y0,y1,y2,y3⟩:jc U w.heap.size P (.slice yD wJ k0') (.slice wH P.cs.length j1'):=(show jc wr w.heap.size P _ _ from ⟨b0,b1,b2,b3⟩).ext hxU Xw;have hsm:=Me.out U _ _ _ _ acc[k] (List.getElem_mem fF) (TZ.ext hxU) (gU.ext hxU);rw [Pl.nf_of_can CU.out.1,Pl.nf_of_can (CU.out.2 acc[k] (List.getElem_mem fF))] at hsm;have Gg:=hid (hx.trans hxU);have lF:=hid (List.getElem_mem fF);have vP:Hid (∀ c ∈ acc.take (k+1),c ∈ acc.take k\/c=acc[k]):=hid (fun c hc=>by
       rw [List.take_succ_eq_append_getElem fF,List.mem_append,List.mem_singleton] at hc; exact hc)
      generalize acc[k]=ck at *;unfold plV at hsm;clear au hx TZ aK ah gU hxU HI
      by_cases he:P=ck
      · rw [uam he] at hsm;have HF:Hid (∀ w',Ext U w'->ja6 T base (putL acc p) w w'):=hid (fun w' hx=>by
         rw [fH.out,if_pos (List.any_eq_true.2 ⟨ck,lF.out,uam he⟩)]
         exact ja6.of_ext GV.out (vO.out.trans (Gg.out.trans hx)))
        clear he;go_wp2_with fail;clear b0 b1 b2 b3 g0 g1 g2 g3 s0 s1 s2 s3 y0 y1 y2 y3 hU;refine hsm.mono ?_;rintro e w5 ⟨rfl,x5⟩;have J4:=hid (HF.out _ x5);clear x5 hsm;go_wp2_with fail;exact bodyPost_ret (v:=.tuple #[]) (by simp [results,Tryz.results58,go_sem]) rfl ⟨⟨_,rfl⟩,J4.out⟩
      · rw [kap he] at hsm;have Z4:Hid (∀ c ∈ acc.take (k+1),c ≠ P):=hid (fun c hc=>by
         rcases vP.out c hc with h | h
         · exact Gy.out c h
         · rw [h]; exact fun e=>he e.symm)
        clear he;go_wp2_with fail;clear b0 b1 b2 b3 g0 g1 g2 g3 s0 s1 s2 s3 y0 y1 y2 y3 hU;refine hsm.mono ?_;rintro e w5 ⟨rfl,x5⟩;have Bg:=hid (Gg.out.trans x5);clear x5 hsm;go_wp2_with fail
        go_roundw
        case rel=>exact ⟨k+1,by omega,by go_num,Z4.out,Bg.out⟩
        case measure=>simp [intOf]; omega
    · obtain rfl:k=n0:=by omega
      have EW:acc.any (nT P)=false:=by
       rw [<- Bool.not_eq_true];intro h;obtain ⟨c,hc,he⟩:=List.any_eq_true.1 h;refine au c ?_ (ya7.1 he).symm;rw [show k=acc.length from yY.out.symm,List.take_length]; exact hc
      rw [EW,if_neg (by simp)] at fH;obtain ⟨D,hD⟩:=n_m (wr.drew);have yG:Ext V D:=by rw [<- hD]; exact hx.drew
      have Ho:Ext wr D:=by rw [<- hD]; exact (Ext.refl wr).drew
      have TU:=HQ.out.ext yG;have Px:=MS.out.1;have hgD:w.heap.size < D.heap.size:=Nat.lt_of_lt_of_le Px yG.size;have FN:=(yG.below.block T (by omega)).trans CS.out;obtain ⟨v4,w4,ax,nN,ik,bM,lL⟩:=TU.push (x:=Pl.zero) (A0:=none) (n0:=0) (c0:=0) (A1:=none) (n1:=0) (c1:=0) (by omega) (Pl.zero_v _ _ none 0 (by omega)) (by rw [yY.out]; omega) 31;obtain ⟨g,c4,rfl,Ym,Yl,IJ,Lp,PE⟩:=bM.pos (by simp);have nJ:(acc ++ [Pl.zero]).length=k+1:=by rw [List.length_append,yY.out]; rfl
      have Fv:¬ g=T:=by omega
      have Jn:w4.heap[T]?=D.heap[T]?:=World.grownBy.block nN T (by omega) (fun e=>by have:=(TU.own e.symm).1; omega);have Qn:w4.heap[w.heap.size]?=D.heap[w.heap.size]?:=World.grownBy.block nN _ hgD (fun e=>by
       have:=GV.out.fresh w.heap.size ⟨_,(by
        have h1:=(vO.out.trans yG).below.block T (by omega);rw [FN] at h1
        exact box1 h1.symm),e.symm⟩
       omega)
      have hT4:w4.cell? ⟨T,0,none⟩=some (.slice F0 acc.length fc):=by rw [World.cell?_of_block (a:=⟨T,0,none⟩) Jn]; exact box1 FN
      have YD:∀ i,w4.frozen? ⟨T,i,none⟩=false:=fun i=>by rw [World.frozen?_of_block (a:=⟨T,i,none⟩) Jn]; simp [World.frozen?,FN]
      obtain ⟨rF,Z0',zn',zc',Z1',aes,aeu,e4,-,⟨q0,q1,q2,q3⟩,-⟩:=bM.at_.kid k (by rw [nJ]; omega);injection e4 with e4
      subst e4;rw [uq,Nat.zero_add] at q0 q1 q2 q3;simp only at q1 q2 q3;have NC:¬ w.heap.size=g:=fun e=>by
       rcases lL with h | h
       · have:=GV.out.fresh g ⟨_,(by
          have h1:=(vO.out.trans yG).below.block T (by omega);rw [FN] at h1
          exact box1 h1.symm),h.symm⟩
         omega
       · injection h with h; (try dsimp only at h); omega
      have hpD:PlV w4 (fun b=>b ≠ g/\base<=b) P (plV P (.slice yD wJ k0') (.slice wH P.cs.length j1')):=by
       refine PlV.turn_ nN.size ik (fun b hb hq=>?_) ((TZ.below_.ext Ho));have cO:=hq.1.1;have bT:=hq.2;have KZ:(Value.slice F0 acc.length fc).ownBlock ≠ some b:=fun e=>by
        have:=GV.out.fresh b ⟨_,(by
         have h1:=(vO.out.trans yG).below.block T (by omega);rw [FN] at h1
         exact box1 h1.symm),e⟩
        omega
       refine ⟨⟨fun e=>?_,by omega⟩,World.grownBy.block nN b hb (fun e=>KZ e.symm)⟩;rcases lL with h | h
       · exact KZ (by rw [<- h,e]; rfl)
       · injection h with h; (try dsimp only at h); have:=Ho.size; omega
      have aQ:=fun (w5 Wf:World)=>ucc (w5:=w5) (Wf:=Wf) GV.out (vO.out.trans yG) FN TU nN ik bM (by rcases lL with h | h; exact Or.inl h; injection h with h; exact Or.inr (by (try dsimp only at h); omega)) hpD
      rw [<- fH.out,yY.out,nJ] at aQ;have bD:=hid aQ;have t0:D.cell? ⟨T,0,none⟩=some (.slice F0 acc.length fc):=box1 FN;obtain ⟨d0,d1,d2,d3⟩:=(show jc wr w.heap.size P (.slice yD wJ k0') (.slice wH P.cs.length j1') from ⟨b0,b1,b2,b3⟩).ext Ho (Nat.lt_of_lt_of_le Px hx.size);have QZ:∀ i,w4.cell? ⟨w.heap.size,i,none⟩=D.cell? ⟨w.heap.size,i,none⟩:=fun i=>World.cell?_of_block (a:=⟨w.heap.size,i,none⟩) Qn
      obtain ⟨Ci,f1',f2',f3'⟩:jc w4 w.heap.size P (.slice yD wJ k0') (.slice wH P.cs.length j1'):=⟨(QZ 0).trans d0,(QZ 1).trans d1,(QZ 2).trans d2,(QZ 3).trans d3⟩;clear aQ hpD nN ik bM lL TU Jn Qn QZ FN TZ au EW HI Ym Yl;rw [nJ] at ax;go_upto_region 9 with fail;have YH:jc D (w.heap.size) P (.slice yD wJ k0') (.slice wH P.cs.length j1'):=⟨d0,d1,d2,d3⟩;have zS:(Builtin.append_ #[31,31] 31 #[.slice F0 k fc,.slice (some ⟨D.heap.size,0,none⟩) 1 1]).run Tryz.prog (D.alloc (.cells #[.int .i64 0,.bool false,.slice none 0 0,.slice none 0 0] 33))=.ok (.slice (some ⟨g,0,none⟩) (k+1) c4) w4:=by rw [yY.out] at ax; exact ax
      have Ux:=(show jc D w.heap.size P (.slice yD wJ k0') (.slice wH P.cs.length j1') from YH).ext ((Ext.refl D).alloc (.cells #[.int .i64 0,.bool false,.slice none 0 0,.slice none 0 0] 33)) hgD;obtain ⟨DA,QQ⟩:=n_m (D.alloc (.cells #[.int .i64 0,.bool false,.slice none 0 0,.slice none 0 0] 33));rw [QQ] at zS Ux;have tA:DA.cell? ⟨T,0,none⟩=some (.slice F0 acc.length fc):=by
       have Nv:Ext D DA:=by rw [<- QQ]; exact (Ext.refl D).alloc _
       exact (Nv.cell (p:=⟨T,0,none⟩) (by show T < _; omega)).trans t0
      clear ax;refine wp_region_held_drew (S:=fun W'=>jc W' (w.heap.size) P (.slice yD wJ k0') (.slice wH P.cs.length j1')) (by kernel_rfl) (by rw [hD]; exact YH) (fun hHeld=>?_);rw [hD];rw [hD] at hHeld;clear hD;refine tk 1 ?_ (hy:=Or.inl ⟨by rfl,by intro w' aZ; obtain ⟨k0,k1,k2,k3⟩:=aZ; go_simp; (try (with_reducible rfl))⟩);refine r_2 0 3 (fun K hK=>?brA) fun K hK=>?brB
      case' brA =>
       go_simp;refine k_t hK YH fun hHeld=>?_
       clear hK K;refine tk 2 ?_;refine r_1 3 fun K hK=>?_
       go_simp
       (try rw [QQ])
       refine k_t hK Ux fun hHeld=>?_
       clear hK K
      case' brB =>
       go_simp
       (try rw [QQ])
       refine k_t hK Ux fun hHeld=>?_
       clear hK K;refine r_1 0 fun K hK=>?_
       go_simp;refine k_t hK Ux fun hHeld=>?_
       clear hK K;refine tk 2 ?_
      all_goals
       clear QQ tA;have hkk:(k:Int) < (k:Int)+1:=by omega
       refine r_1 4 fun K hK=>?_
       refine wag rfl (.tmp 25) (.tmp 28) 31 31 rfl _ _ _ _ (by simp [Act.eval,Act.put]) (by simp [Act.eval,Act.put]) zS ?_;refine k_t hK ⟨Ci,f1',f2',f3'⟩ fun hHeld=>?_
       clear hK K zS;refine tk 5 ?_;have QG:¬ T=w.heap.size:=by omega
       refine r_2 6 7 (fun K hK=>?_) fun K hK=>?_
       · go_simp;clear q0 q1 q2 q3;refine xae (P:=fun V=>((((w4.setCell ⟨g,k * 4,none⟩ (.int .i64 P.lv)).setCell ⟨g,k * 4+1,none⟩ (.bool P.neg)).setCell ⟨g,k * 4+2,none⟩ (.slice yD wJ k0')).setCell ⟨g,k * 4+3,none⟩ (.slice wH P.cs.length j1'))=V) rfl (fun V5 Jl=>?_);have b5:∀ b,b ≠ g->V5.heap[b]?=w4.heap[b]?:=fun b hb=>by rw [<- Jl,Below.heap_setCell _ _ _ b hb,Below.heap_setCell _ _ _ b hb,Below.heap_setCell _ _ _ b hb,Below.heap_setCell _ _ _ b hb]
         have x0:∀ i,V5.cell? ⟨w.heap.size,i,none⟩=w4.cell? ⟨w.heap.size,i,none⟩:=fun i=>World.cell?_of_block (a:=⟨w.heap.size,i,none⟩) (b5 _ NC)
         have z0:V5.cell? ⟨T,0,none⟩=some (.slice F0 acc.length fc):=(World.cell?_of_block (a:=⟨T,0,none⟩) (b5 _ (fun e=>Fv e.symm))).trans hT4;have z1:∀ i,V5.frozen? ⟨T,i,none⟩=false:=fun i=>(World.frozen?_of_block (a:=⟨T,i,none⟩) (b5 _ (fun e=>Fv e.symm))).trans (YD i)
         have xO:jc V5 (w.heap.size) P (.slice yD wJ k0') (.slice wH P.cs.length j1'):=⟨(x0 0).trans Ci,(x0 1).trans f1',(x0 2).trans f2',(x0 3).trans f3'⟩;have FX:=bD.out V5 _ Jl rfl;refine k_t hK xO fun hHeld=>?_
         clear hK K b5 x0 Jl;refine r_1 7 fun K hK=>?_
         go_simp;refine xae (P:=fun V=>V5.setCell ⟨T,0,none⟩ (.slice (some ⟨g,0,none⟩) (k+1) c4)=V) rfl (fun V6 xN=>?_);rw [xN] at FX;have x6:∀ i,V6.cell? ⟨w.heap.size,i,none⟩=V5.cell? ⟨w.heap.size,i,none⟩:=fun i=>World.cell?_of_block (a:=⟨w.heap.size,i,none⟩) (by rw [<- xN]; exact Below.heap_setCell _ _ _ _ (fun e=>QG e.symm))
         refine k_t hK ⟨(x6 0).trans xO.1,(x6 1).trans xO.2.1,(x6 2).trans xO.2.2.1,(x6 3).trans xO.2.2.2⟩ fun hHeld=>?_
         clear hK K;refine w_d ?_;have HF6:=hid FX;clear FX xN x6 z0 z1 xO;go_wp2_with fail
         go_end0
         exact ⟨⟨_,rfl⟩,HF6.out⟩
       · go_simp;refine xae (P:=fun V=>w4.setCell ⟨T,0,none⟩ (.slice (some ⟨g,0,none⟩) (k+1) c4)=V) rfl (fun V5 Jl=>?_);have b5:∀ b,b ≠ T->V5.heap[b]?=w4.heap[b]?:=fun b hb=>by rw [<- Jl,Below.heap_setCell _ _ _ b hb]
         have x0:∀ i,V5.cell? ⟨w.heap.size,i,none⟩=w4.cell? ⟨w.heap.size,i,none⟩:=fun i=>World.cell?_of_block (a:=⟨w.heap.size,i,none⟩) (b5 _ (fun e=>QG e.symm))
         have z0:∀ i,V5.cell? ⟨g,i,none⟩=w4.cell? ⟨g,i,none⟩:=fun i=>World.cell?_of_block (a:=⟨g,i,none⟩) (b5 _ Fv)
         have z1:∀ i,V5.frozen? ⟨g,i,none⟩=false:=fun i=>(World.frozen?_of_block (a:=⟨g,i,none⟩) (b5 _ Fv)).trans (PE i)
         rw [<- z0] at q0 q1 q2 q3;have xO:jc V5 (w.heap.size) P (.slice yD wJ k0') (.slice wH P.cs.length j1'):=⟨(x0 0).trans Ci,(x0 1).trans f1',(x0 2).trans f2',(x0 3).trans f3'⟩;have FX:=bD.out _ _ rfl rfl;have fC:((((w4.setCell ⟨g,k * 4,none⟩ (.int .i64 P.lv)).setCell ⟨g,k * 4+1,none⟩ (.bool P.neg)).setCell ⟨g,k * 4+2,none⟩ (.slice yD wJ k0')).setCell ⟨g,k * 4+3,none⟩ (.slice wH P.cs.length j1')).setCell ⟨T,0,none⟩ (.slice (some ⟨g,0,none⟩) (k+1) c4)=((((V5.setCell ⟨g,k * 4,none⟩ (.int .i64 P.lv)).setCell ⟨g,k * 4+1,none⟩ (.bool P.neg)).setCell ⟨g,k * 4+2,none⟩ (.slice yD wJ k0')).setCell ⟨g,k * 4+3,none⟩ (.slice wH P.cs.length j1')):=by
          rw [<- Jl,kal (by exact Fv),kal (b:=⟨T,0,none⟩) (a:=⟨g,k * 4+2,none⟩) (by exact Fv),kal (b:=⟨T,0,none⟩) (a:=⟨g,k * 4+1,none⟩) (by exact Fv),kal (b:=⟨T,0,none⟩) (a:=⟨g,k * 4,none⟩) (by exact Fv)]
         rw [fC] at FX;refine k_t hK xO fun hHeld=>?_
         clear hK K b5 x0 Jl z0 fC;refine r_1 6 fun K hK=>?_
         go_simp;clear q0 q1 q2 q3;refine xae (P:=fun V=>((((V5.setCell ⟨g,k * 4,none⟩ (.int .i64 P.lv)).setCell ⟨g,k * 4+1,none⟩ (.bool P.neg)).setCell ⟨g,k * 4+2,none⟩ (.slice yD wJ k0')).setCell ⟨g,k * 4+3,none⟩ (.slice wH P.cs.length j1'))=V) rfl (fun V6 xN=>?_);rw [xN] at FX;have x6:∀ i,V6.cell? ⟨w.heap.size,i,none⟩=V5.cell? ⟨w.heap.size,i,none⟩:=fun i=>World.cell?_of_block (a:=⟨w.heap.size,i,none⟩) (by rw [<- xN,Below.heap_setCell _ _ _ _ NC,Below.heap_setCell _ _ _ _ NC,Below.heap_setCell _ _ _ _ NC,Below.heap_setCell _ _ _ _ NC])
         refine k_t hK ⟨(x6 0).trans xO.1,(x6 1).trans xO.2.1,(x6 2).trans xO.2.2.1,(x6 3).trans xO.2.2.2⟩ fun hHeld=>?_
         clear hK K;refine w_d ?_;have HF6:=hid FX;clear FX xN x6 z1 xO;go_wp2_with fail
         go_end0
         exact ⟨⟨_,rfl⟩,HF6.out⟩
open Go.Shelf
attribute [local go_sem] Oper.semAt_some
theorem kb9 {P:Program} {w:World} {a:Addr} {m:Mode} (fn:Fn) (first captured:Array Value):(store a (.func fn first captured) m).run P w=stored P w a (.func fn first captured) m:=run_store P w a _ m rfl
attribute [local go_sem] kb9
theorem PlV.kept {W W':World} {row:Option Nat} {q:Nat->Prop} {p:Pl} {v:Value} (h:PlV W q p v) (hg:W.grownBy W' row) (hr:∀ r,row=some r->∃ o:Obj,W.heap[r]?=some o/\o.isCells=false):PlV W' q p v:=
 PlV.turnC hg.size (fun v ds hv=>qar hg hr hv) (fun a v hp hv=>⟨hp,by
  obtain ⟨o,ho,hc⟩:=cells_of_cell hv;obtain ⟨c,t,f,rfl⟩:∃ c t f,o=.cells c t f:=by cases o <;> simp_all [Obj.isCells]
  exact (World.cell?_of_block ((cells_kept hg hr ho).trans ho.symm)).trans hv⟩) _ _ h
theorem uci {M acc:List Pl} {k:Nat} (hk:k < M.length):putA acc (M.take (k+1))=putL (putA acc (M.take k)) M[k]:=by
 unfold putA;rw [List.take_succ_eq_append_getElem hk,List.foldl_append]; rfl
theorem xbt : ∀ (M acc : List Pl), ∀ c ∈ putA acc M, c ∈ acc \/ ∃ p ∈ M, c = snP p
 | [],acc,c,h=>.inl h
 | p :: M,acc,c,h=>by
   have h':c ∈ putA (putL acc p) M:=h;rcases xbt M _ c h' with h1 | ⟨x,hx,e⟩
   · unfold putL at h1
     split at h1
     · exact .inl h1
     · split at h1
       · exact .inl h1
       · rw [List.mem_append,List.mem_singleton] at h1;rcases h1 with h1 | h1
         · exact .inl h1
         · exact .inr ⟨p,List.mem_cons_self,h1⟩
   · exact .inr ⟨x,List.mem_cons_of_mem _ hx,e⟩
theorem ybc : ∀ (M acc : List Pl), (putA acc M).length <= acc.length + M.length
 | [],acc=>by simp [putA]
 | p :: M,acc=>by
   have h:=ybc M (putL acc p);have h2:(putL acc p).length<=acc.length+1:=by unfold putL; split <;> (try split) <;> simp
   show (putA (putL acc p) M).length<=_;simp only [List.length_cons]; omega
theorem vbx {w:World} {D0:Option Addr} {n c0:Nat} {l:Int} :
 Calls Tryz.prog 61 #[.slice D0 n c0,.int .i64 l] w fun e w'=>e=.returned (.func (.func 85) #[] #[.pointer (some ⟨w.heap.size,0,none⟩),.pointer (some ⟨w.heap.size+1,0,none⟩)])/\w'.cell? ⟨w.heap.size,0,none⟩=some (.slice D0 n c0)/\w'.cell? ⟨w.heap.size+1,0,none⟩=some (.int .i64 l)/\w'.heap.size=w.heap.size+2/\Ext w w':=by
 have HF:Hid (Ext w ((w.alloc (.cells #[.slice D0 n c0] 31)).alloc (.cells #[.int .i64 l] 3))):=hid (((Ext.refl w).alloc _).alloc _);go_enter Tryz.func61,Tryz.ntmps61;go_wp2_with fail;go_ret;exact ⟨rfl,by simp [go_sem],by simp [go_sem],by simp,HF.out⟩
def gc3 (L:List Pl) (w:World) (e:Ending) (w':World):Prop:=∃ v,e=.returned v/\yh w.heap.size (fun b=>w.heap.size<=b) w' v L/\Ext w w'
theorem yh.mono {base:Nat} {q q':Nat->Prop} {W:World} {v:Value} {l:List Pl} (h:yh base q W v l) (hq:∀ b,q b->q' b):yh base q' W v l:=by
 obtain ⟨rs,e,h2,h3⟩:=h;exact ⟨rs,e,h2,fun r hr=>⟨(h3 r hr).1,(h3 r hr).2.mono fun b hb=>⟨hb.1,hq b hb.2⟩⟩⟩
theorem kca {w:World} {E D E2 D2 c0:Nat} {q:Nat->Prop} {D0:Option Addr} {l:Int} {fs:List Pl} (hl:1<=l) (aj:l<=4) (aK:jd w q fs D0 0) (bZ:fs.length<=c0) (dw:c0<=9223372036854775807) (Ce:fs.length<=1000) (aI:∀ f ∈ fs,Fit f E D) (hE:E<=60) (hD:D<=100000000000) (HP:Hid (ja7 l fs)) (lT:∀ p ∈ elems l fs,Fit p E2 D2) (QP:E2<=170) (QR:D2<=1099511627776) (iV:(elems l fs).length<=90000) :
 Calls Tryz.prog 34 #[.slice D0 fs.length c0,.int .i64 l] w (gc3 (df l fs) w):=by
 have kX:∀ k:Nat,(Fence.wide.depth.isSome=true->1<=k):=fun k h=>by cases h
 obtain ⟨WN,QD⟩:=n_m (((w.alloc (.cells #[.slice none 0 0] 31)).alloc (.cells #[.nilFunc] 88)));have EG:Ext w WN:=by rw [<- QD]; exact ((Ext.refl w).alloc _).alloc _
 have mF:WN.heap.size=w.heap.size+2:=by rw [<- QD]; simp
 have Qq:WN.heap[w.heap.size]?=some (.cells #[.slice none 0 0] 31 (0,0)):=by
  rw [<- QD,Below.heap_alloc _ _ _ (by simp)]; exact heap_alloc_new w _
 have DV:WN.heap[w.heap.size+1]?=some (.cells #[.nilFunc] 88 (0,0)):=by
  rw [<- QD];have:=heap_alloc_new (w.alloc (.cells #[.slice none 0 0] 31)) (.cells #[.nilFunc] 88)
  rwa [World.size_alloc] at this
 have cn:=box1 DV;have fn:WN.frozen? ⟨w.heap.size+1,0,none⟩=false:=by simp [World.frozen?,DV]
 obtain ⟨W1,aP⟩:=n_m (WN.setCell ⟨w.heap.size+1,0,none⟩ (.func (.func 58) #[] #[.pointer (some ⟨w.heap.size,0,none⟩)]));have hx1:Ext w W1:=by rw [<- aP]; exact EG.setCell (by show w.heap.size<=w.heap.size+1; omega) _
 have bW:W1.heap.size=w.heap.size+2:=by rw [<- aP]; simp only [World.setCell,Array.size_modify]; exact mF
 have DU:W1.heap[w.heap.size]?=some (.cells #[.slice none 0 0] 31 (0,0)):=by
  rw [<- aP,Below.heap_setCell _ _ _ _ (by show w.heap.size ≠ w.heap.size+1; omega)]; exact Qq
 have hbF:W1.heap[w.heap.size+1]?=some (.cells #[.func (.func 58) #[] #[.pointer (some ⟨w.heap.size,0,none⟩)]] 88 (0,0)):=by
  rw [<- aP]; exact Boxed.set _ DV
 have SK:Hid (FS w.heap.size (w.heap.size+2) W1 []):=hid ⟨by omega,by omega,_,DU,yh.nil _ _ _⟩;have HBF:=hid hbF;have EC:=hid DU;have qW:=hid hx1;have lJ:=hid aK;have nC:=hid aI;have MQ:=hid lT;clear hx1 DU hbF aK aI lT Qq DV EG mF;refine (callsIn_wide (n:=5)).1 ?_;refine callsIn_of_wp_marks Tryz.func34 rfl trivial ?_ rfl;simp only [Tryz.ntmps34,List.size_toArray,List.length_cons,List.length_nil,Nat.reduceAdd,Nat.reduceSub,Array.replicate_succ,Array.replicate_zero,List.push_toArray,List.append_toArray,List.nil_append,List.cons_append]
 gi_wp2_with fail
 clear QD aP cn fn;refine ⟨trivial,?_⟩;refine (callsIn_wide.2 (vbx (w:=W1))).mono ?_;rintro e w2 ⟨rfl,cL,cV,jT,x2⟩;have X2:=hid (qW.out.trans x2);have SI:=hid (SK.out.ext x2);have aau:=hid ((x2.below.block _ (by omega)).trans HBF.out);have fZ:Fw w.heap.size w2:=⟨by omega,SI.out.fresh⟩;have hT2:w2.cell? ⟨w.heap.size,0,none⟩=some (.slice none 0 0):=(x2.cell (p:=⟨w.heap.size,0,none⟩) (by show w.heap.size < _; omega)).trans (box1 EC.out);have fP:∀ b,b < w2.heap.size->b ≠ w.heap.size->Safe w.heap.size w2 b:=fun b hb hn=>⟨hb,hn,fun e=>by
  obtain ⟨v,hv,e'⟩:=e;rw [hT2] at hv;injection hv with hv
  subst hv
  cases e'⟩
 have tH:=hid (fun n=>kbx (T:=w.heap.size) (lo:=w2.heap.size) hl aj fZ (Nat.le_refl _) (fP W1.heap.size (by omega) (by omega)) (fP (W1.heap.size+1) (by omega) (by omega)) cL cV bZ dw ((lJ.out.below_.ext X2.out).mono fun b hb hq=>fP b hb (by omega)) Ce nC.out hE hD HP n);have HKO:=hid (fun (W:World) (l:Nat) (o o':Obj) (h1:w2.heap.size<=l) (h2:W.heap[l]?=some o) (h3:o.isCells=false)=>xg.putObj w.heap.size W l o o' (by omega) h2 h3);obtain ⟨M,hM⟩:=n_m (elems l fs);have ZL:Hid (df l fs=putA [] M):=hid (by rw [<- hM]; rfl);rw [hM] at tH MQ iV;rw [bW] at tH;clear x2 cL cV fZ fP hT2 EC SK HBF qW hM
 gi_wp2_with fail
 refine qcr (by omega) (gf := 85) (lb := #[.pointer (some ⟨w.heap.size + 2, 0, none⟩), .pointer (some ⟨w.heap.size + 2 + 1, 0, none⟩)]) rfl (enters_of Tryz.func85 (by kernel_rfl) rfl) (tH.out _) (fun A B h => h.other) xg.trans (fun W l o o' h1 h2 h3 _ => HKO.out W l o o' h1 h2 h3) (Below.refl _ _) (fun _ => rfl)
  (fun k W=>Ext w W/\w2.heap.size<=W.heap.size/\FS w.heap.size (w.heap.size+2) W (putA [] (M.take k))/\W.heap[w.heap.size+1]?=some (.cells #[.func (.func 58) #[] #[.pointer (some ⟨w.heap.size,0,none⟩)]] 88 (0,0)))
  ?ownI ?relI ?startI
  (fun k x a' W=>(∃ g A0 m0 e0 A1 e1,a'={ tmps:=#[.slice D0 fs.length c0,.int .i64 l,undef,undef,.slice none 0 0,.pointer (some ⟨w.heap.size,0,none⟩),.pointer (some ⟨w.heap.size+1,0,none⟩),.pointer (some ⟨g,0,none⟩),.func (.func 58) #[] #[.pointer (some ⟨w.heap.size,0,none⟩)],.slice D0 fs.length c0,.int .i64 l,.func (.func 85) #[] #[.pointer (some ⟨w.heap.size+2,0,none⟩),.pointer (some ⟨w.heap.size+2+1,0,none⟩)],x,undef,undef,undef,undef],defers:=[] }/\w2.heap.size<=g/\W.heap[g]?=some (.cells #[.int .i64 (M.getD k Pl.zero).lv,.bool (M.getD k Pl.zero).neg,.slice A0 m0 e0,.slice A1 (M.getD k Pl.zero).cs.length e1] 33 (0,0))/\∃ q,PlV W q (M.getD k Pl.zero) (plV (M.getD k Pl.zero) (.slice A0 m0 e0) (.slice A1 (M.getD k Pl.zero).cs.length e1)))/\Ext w W/\w2.heap.size<=W.heap.size/\FS w.heap.size (w.heap.size+2) W (putA [] (M.take k))/\W.heap[w.heap.size+1]?=some (.cells #[.func (.func 58) #[] #[.pointer (some ⟨w.heap.size,0,none⟩)]] 88 (0,0)))
  ?ownA ?assign ?body ?done
 case ownI =>
  rintro k W W' row ⟨h1,h2,h3,h4⟩ hg hr;have fA:=fun r e=>(hr r e).2
  exact ⟨Below.grown h1.below hg h1.size (fun r e=>by have:=(hr r e).1; have:=h1.size; have:=X2.out.size; omega),Nat.le_trans h2 hg.size,h3.kept hg fA,cells_kept hg fA h4⟩
 case relI =>
  rintro k A B ⟨h1,h2,h3,h4⟩ hr;have hk:=hr.keep.2;refine ⟨hr.ext h1 X2.out.size,by omega,h3.rel hr,?_⟩;obtain ⟨R,i,u,D,n,c,r1,-,-,-,-,rfl⟩:=hr;rw [Below.heap_setCell _ _ _ _ (by show w.heap.size+1 ≠ R; omega)]; exact h4
 case startI=>exact ⟨X2.out,Nat.le_refl _,SI.out,aau.out⟩
 case ownA =>
  rintro k x a' s W W' row ⟨⟨g,A0,m0,e0,A1,e1,ha,iH,dL,q,hq⟩,h1,h2,h3,h4⟩ hg hr;have fA:=fun r e=>(hr r e).2
  exact ⟨⟨g,A0,m0,e0,A1,e1,ha,iH,cells_kept hg fA dL,q,hq.kept hg fA⟩,Below.grown h1.below hg h1.size (fun r e=>by have:=(hr r e).1; have:=h1.size; have:=X2.out.size; omega),Nat.le_trans h2 hg.size,h3.kept hg fA,cells_kept hg fA h4⟩
 case assign =>
  rintro mm lp k x W K hk ⟨h1,h2,h3,h4⟩ ⟨lN,q,hq⟩ hK;have qI:M[k]=M.getD k Pl.zero:=by rw [List.getD_eq_getElem?_getD,List.getElem?_eq_getElem lN]; rfl
  rw [qI] at hq;obtain ⟨A0,m0,e0,A1,e1,rfl,-⟩:=id hq.open_;generalize M.getD k Pl.zero=p at *;have hx1:Ext W (W.alloc (.cells #[.int .i64 p.lv,.bool p.neg,.slice A0 m0 e0,.slice A1 p.cs.length e1] 33)):=(Ext.refl W).alloc _;have HK:=hK { tmps:=#[.slice D0 fs.length c0,.int .i64 l,undef,undef,.slice none 0 0,.pointer (some ⟨w.heap.size,0,none⟩),.pointer (some ⟨w.heap.size+1,0,none⟩),.pointer (some ⟨W.heap.size,0,none⟩),.func (.func 58) #[] #[.pointer (some ⟨w.heap.size,0,none⟩)],.slice D0 fs.length c0,.int .i64 l,.func (.func 85) #[] #[.pointer (some ⟨w.heap.size+2,0,none⟩),.pointer (some ⟨w.heap.size+2+1,0,none⟩)],plV p (.slice A0 m0 e0) (.slice A1 p.cs.length e1),undef,undef,undef,undef],defers:=[] } _ (yaq hx1) (xg.of_ext h3.lt hx1) ⟨⟨W.heap.size,A0,m0,e0,A1,e1,rfl,h2,heap_alloc_new W _,q,hq.ext hx1⟩,h1.trans hx1,Nat.le_trans h2 hx1.size,h3.ext hx1,(hx1.below.block _ (by omega)).trans h4⟩;have ML:=hid HK;clear HK hK h1 h2 h3 h4 hx1 hq;simp only [yc6];unfold plV at ML ⊢
  gi_wp2
  exact ML.out
 case body =>
  rintro mm lp k x a' W hk ⟨⟨g,A0,m0,e0,A1,e1,rfl,iH,dL,q,hq⟩,h1,h2,h3,h4⟩;have qI:M[k]=M.getD k Pl.zero:=by rw [List.getD_eq_getElem?_getD,List.getElem?_eq_getElem hk]; rfl
  have bP:M.getD k Pl.zero ∈ M:=by rw [<- qI]; exact List.getElem_mem hk
  have qO:∀ c ∈ putA [] (M.take k),Fit c E2 D2:=fun c hc=>by
   rcases xbt _ _ c hc with h | ⟨p,hp,rfl⟩
   · cases h
   · exact jai (MQ.out p (List.mem_of_mem_take hp))
  have hlen:(putA [] (M.take k)).length<=100000:=by
   have:=ybc (M.take k) [];rw [List.length_take] at this;simp only [List.length_nil] at this;omega
  have Vu:=hid (jcw _ hq (MQ.out _ bP) QP QR h3 qO hlen);have CG:Hid (putL (putA [] (M.take k)) (M.getD k Pl.zero)=putA [] (M.take (k+1))):=hid (by rw [uci hk,qI]);rw [CG.out] at Vu;have H1:=hid h1;have H4:=hid h4;have H3:=hid h3;obtain ⟨c0',c1',c2',c3'⟩:=box4 dL;have cF:=box1 h4;clear h1 h3 h4 dL hq qO hlen qI bP;generalize M.getD k Pl.zero=p at *;unfold plV at Vu
  gi_wp2_with fail
  clear c0' c1' c2' c3' cF;refine ⟨trivial,kX _,?_⟩;refine (callsIn_wide.2 Vu.out).mono ?_;rintro e W3 ⟨⟨r,rfl⟩,Qe⟩;have bD:Hid (KeepsFrom w2.heap.size W W3/\xg w.heap.size W W3/\Ext w W3/\w2.heap.size<=W3.heap.size/\FS w.heap.size (w.heap.size+2) W3 (putA [] (M.take (k+1)))/\W3.heap[w.heap.size+1]?=some (.cells #[.func (.func 58) #[] #[.pointer (some ⟨w.heap.size,0,none⟩)]] 88 (0,0))):=hid (by
   obtain ⟨cf,ck,co,ce⟩:=Qe;refine ⟨⟨ck.size,fun i o _ hi ho=>co i o hi ho⟩,ck,ce w H1.out (Nat.le_refl _),Nat.le_trans h2 ck.size,cf,?_⟩;refine ck.obj _ _ (by omega) (fun e=>?_) H4.out rfl;obtain ⟨v,hv,e'⟩:=e;obtain ⟨-,-,fv,Az,hq⟩:=H3.out;rw [box1 Az] at hv;injection hv with hv
   subst hv;have:=(hq.own e').1
   omega)
  clear Qe Vu
  gi_wp2_with fail
  simp only [ga4];exact bD.out
 case done =>
  rintro D W hD ⟨h1,h2,h3,h4⟩ hK;rw [List.take_length] at h3;rw [<- ZL.out] at h3;obtain ⟨-,-,fv,Az,hq⟩:=id h3;obtain ⟨FA,fc,rfl,AB,nO⟩:=hq.len;have t0:=box1 Az;have H1:=hid h1;have MM:=hid hK;have HQ:=hid hq;have wM:=X2.out.size;clear h1 h2 h3 h4 hK Az hq
  gi_wp2_with fail
  refine ⟨by simp,.inl ⟨_,_,rfl,run_takeDeferred MM.out,?_⟩⟩;have iG:=grownBy_putObj' W D (.deferred none);have fA:∀ r,some D=some r->∃ o:Obj,W.heap[r]?=some o/\o.isCells=false:=fun r e=>⟨_,by injection e with e; subst e; exact MM.out,rfl⟩
  have Yt:yh w.heap.size (fun b=>w.heap.size<=b) (W.putObj D (.deferred none)) (.slice FA (df l fs).length fc) (df l fs):=by
   refine ((HQ.out.turnC iG.size (fun v ds hv=>qar iG fA hv) fun i o hi hc=>?_).less (by omega)).mono fun b hb=>by omega
   obtain ⟨c,t,f,rfl⟩:∃ c t f,o=.cells c t f:=by cases o <;> simp_all [Obj.isCells]
   exact cells_kept iG fA hi
  exact ⟨.slice FA (df l fs).length fc,by simp [results,Tryz.results34,go_sem],_,rfl,Yt,Below.grown H1.out.below iG H1.out.size (fun k e=>by injection e with e; omega)⟩
end Go.Proofs.YtcepajijiabkmaaGreat

namespace Go.Proofs.YtcepajijiabkmaaGreat
open Lib (hid)
open Go.RowKit
theorem zb5 {w:World} {E D E2 D2 c0:Nat} {q:Nat->Prop} {D0:Option Addr} {l:Int} {fs:List Pl} (hl:1<=l) (aj:l<=4) (aK:jd w q fs D0 0) (bZ:fs.length<=c0) (dw:c0<=9223372036854775807) (Ce:fs.length<=1000) (aI:∀ f ∈ fs,Fit f E D) (hE:E<=60) (hD:D<=100000000000) (HP:Hid (ja7 l fs)) (lT:∀ p ∈ elems l fs,Fit p E2 D2) (QP:E2<=170) (QR:D2<=1099511627776) (iV:(elems l fs).length<=90000) (dJ:∀ f ∈ fs,f.lv<=l) :
 Calls Tryz.prog 12 #[.slice D0 fs.length c0,.int .i64 l] w (qa7 (fun b=>w.heap.size<=b) (df l fs) 0 w):=by
 have lJ:=hid aK;have nV:=hid (fun (W':World) (hx:Ext w W')=>kca (w:=W') hl aj (aK.ext hx) bZ dw Ce aI hE hD HP lT QP QR iV);have nC:=hid aI;have CQ:=hid dJ;have hl5:¬ l < 1:=by omega
 have hl6:¬ 4 < l:=by omega
 clear aK aI dJ lT;go_enter Tryz.func12,Tryz.ntmps12;go_wp2_with fail
 go_loopw [16] (fun iv wr=>∃ k:Nat,k<=fs.length/\iv=.int .i64 k/\Hid (Ext w wr)) (fun iv _=>fs.length - (intOf iv).toNat)
 case atStart=>exact ⟨0,Nat.zero_le _,rfl,hid (Ext.refl w)⟩
 case round =>
  obtain ⟨k,hk,rfl,HI⟩:=hrel
  by_cases af:k < fs.length
  · obtain ⟨ad,C0,j0,k0,C1,j1,k1,rfl,ah,⟨g0,g1,g2,g3⟩,gU⟩:=(lJ.out.ext HI.out).kid k af;have iY:=nC.out fs[k] (List.getElem_mem af);have Ai:¬ l < fs[k].lv:=by have:=CQ.out fs[k] (List.getElem_mem af); omega
    obtain ⟨U,hU⟩:=n_m ((wr.alloc (.cells #[.int .i64 fs[k].lv,.bool fs[k].neg,.slice C0 j0 k0,.slice C1 j1 k1] 33)));have hxU:Ext wr U:=by rw [<- hU]; exact (Ext.refl wr).alloc _
    obtain ⟨s0,s1,s2,s3⟩:jc U wr.heap.size fs[k] (.slice C0 j0 k0) (.slice C1 j1 k1):=by rw [<- hU]; exact jc.new wr fs[k] _ _ _
    have zB:=hid (za1 (w:=U) _ (gU.ext hxU) (Or.inr ⟨iY.can,iY.copy_ (by omega),by have:=iY.dm; omega⟩));rw [Pl.nf_of_can iY.can] at zB;have Gg:=hid (HI.out.trans hxU);generalize fs[k]=f at *;unfold plV at zB;clear ah gU iY hxU HI;go_wp2_with fail;clear g0 g1 g2 g3 s0 s1 s2 s3 hU;refine zB.out.mono ?_;rintro e w2 ⟨rfl,x2⟩;have HN:=hid (Gg.out.trans x2);clear x2 zB;go_wp2_with fail
    go_roundw
    case rel=>exact ⟨k+1,by omega,by go_num,HN.out⟩
    case measure=>simp [intOf]; omega
  · obtain rfl:k=fs.length:=by omega
    have HR:=hid (nV.out wr HI.out);have HX:=hid HI.out;clear HI nV;go_wp2_with fail;refine HR.out.mono ?_;rintro e w2 ⟨v2,rfl,yJ,x2⟩;obtain ⟨F0,fc,rfl,AB,nO⟩:=yJ.len;have og:=HX.out.size;have iR:jd w2 (fun b=>w.heap.size<=b) (df l fs) F0 0:=jd.turn (Nat.le_refl _) (fun _ _ h=>h) (fun b _ hb=>⟨by rcases hb with h | h <;> omega,rfl⟩) _ _ _ yJ.at_;have HF:Hid (qa7 (fun b=>w.heap.size<=b) (df l fs) 0 w (.returned (.tuple #[.slice F0 (df l fs).length fc,.int .i64 0])) w2):=hid ⟨_,rfl,⟨F0,fc,rfl,AB,nO,iR⟩,HX.out.trans x2⟩;clear iR x2 HR yJ og;go_wp2_with fail;exact bodyPost_ret (v:=.tuple #[.slice F0 (df l fs).length fc,.int .i64 0]) (by simp [results,Tryz.results12,go_sem]) rfl HF.out
theorem ga3 {w:World} {E D E2 D2 c0:Nat} {q:Nat->Prop} {D0:Option Addr} {l:Int} {fs:List Pl} (hl:1<=l) (aj:l<=4) (aK:jd w q fs D0 0) (bZ:fs.length<=c0) (dw:c0<=9223372036854775807) (Ce:fs.length<=1000) (aI:∀ f ∈ fs,Fit f E D) (hE:E<=60) (hD:D<=100000000000) (HP:Hid (ja7 l fs)) (lT:∀ p ∈ elems l fs,Fit p E2 D2) (QP:E2<=170) (QR:D2<=1099511627776) (iV:(elems l fs).length<=90000) (dJ:∀ f ∈ fs,f.lv<=l) :
 Calls Tryz.prog 12 #[.slice D0 fs.length c0,.int .i64 l] w (qa7 (fun _=>True) (df l fs) 0 w):=by
 refine (zb5 hl aj aK bZ dw Ce aI hE hD HP lT QP QR iV dJ).mono ?_;rintro e w2 ⟨v,rfl,⟨F0,fc,rfl,h1,h2,h3⟩,hx⟩;exact ⟨_,rfl,⟨F0,fc,rfl,h1,h2,jd.turn (Nat.le_refl _) (fun _ _ h=>h) (fun b _ _=>⟨trivial,rfl⟩) _ _ _ h3⟩,hx⟩
theorem jc8 {z:Int} (h:z ≠ 0):dg z.natAbs ≠ []:=fun e=>by
 have h1:=waj (n:=z.natAbs) (by omega);rw [e] at h1;simp at h1
theorem xa2 {z:Int} (h:z ≠ 0):Pl.const z ≠ Pl.zero:=fun e=>by
 unfold Pl.const Pl.zero at e;injection e with _ _ e _
 exact jc8 h e
def qd (l:Int) (a b:Pl):Pl:=.mk l false [] [b,Pl.zero,a]
theorem ybt {l:Int} (h1:1<=l) (h4:l<=4) {a b:Pl} (ha:a.Can) (hb:b.Can) (Jh:a.lv < l) (uT:b.lv < l) (h0:a ≠ Pl.zero):(qd l a b).Can:=by
 refine za5 h1 h4 (by simp) (zae fun c hc=>?_) (by simpa using h0);simp only [List.mem_cons,List.not_mem_nil,or_false] at hc;rcases hc with rfl | rfl | rfl
 · exact ⟨uT,hb⟩
 · exact ⟨by simp only [Pl.zero,Pl.lv]; omega,Pl.zero_can⟩
 · exact ⟨Jh,ha⟩
theorem wbs (ρ:Int->Rat) {l:Int} (h1:1<=l) (h4:l<=4) (a b:Pl):(qd l a b).val ρ=b.val ρ+ρ l * ρ l * a.val ρ:=by
 unfold qd;rw [Pl.mk_val ρ _ _ _ (by omega) h4,qf,qf,qf,qf,Pl.zero_val]
 grind
theorem vad (z:Int):(Pl.const z).lv=0:=rfl
def gQ:Pl:=qd 1 (Pl.const 1) (Pl.const (-1))
def fQ:Pl:=qd 2 (Pl.const 1) gQ
theorem ubg:gQ.Can:=ybt (by omega) (by omega) (ut _) (ut _) (by rw [vad]; omega) (by rw [vad]; omega) (xa2 (by omega))
theorem ybh:fQ.Can:=ybt (by omega) (by omega) (ut _) ubg (by rw [vad]; omega) (by simp [gQ,qd,Pl.lv]) (xa2 (by omega))
theorem vbg (ρ:Int->Rat):gQ.val ρ=ρ 1 * ρ 1 - 1:=by
 unfold gQ; rw [wbs ρ (by omega) (by omega),Pl.const_val,Pl.const_val]; push_cast; grind
theorem uc5 (ρ:Int->Rat):fQ.val ρ=ρ 1 * ρ 1 - 1+ρ 2 * ρ 2:=by
 unfold fQ; rw [wbs ρ (by omega) (by omega),Pl.const_val,vbg]; push_cast; grind
theorem gcx:(((Pl.var 1).pow 2).add ((Pl.var 2).pow 2)).add (Pl.const 1).opp=fQ:=Pl.val_uniq (Pl.add_can _ _) ybh fun ρ=>by
 rw [Pl.add_val,Pl.add_val,Pl.opp_val,Pl.pow_val,Pl.pow_val,Pl.const_val,Pl.var_val' ρ (by omega) (by omega),Pl.var_val' ρ (by omega) (by omega),uc5]
 push_cast; grind
theorem ucx:((Pl.var 1).pow 2).add (Pl.const 1).opp=gQ:=Pl.val_uniq (Pl.add_can _ _) ubg fun ρ=>by
 rw [Pl.add_val,Pl.opp_val,Pl.pow_val,Pl.const_val,Pl.var_val' ρ (by omega) (by omega),vbg]
 push_cast; grind
theorem zbh:fQ.cfL 2=[gQ,Pl.zero,Pl.const 1]:=(Pl.cfL_coefs (by omega) (by omega) ybh).uniq (ja2 ybh (by omega))
theorem qay:mdg 2 fQ=2:=by unfold mdg; rw [zbh]; rfl
theorem ybk:wu 2 fQ=Pl.const 1:=by unfold wu; rw [zbh]; rfl
theorem vcl:uk 2 fQ=[fQ]:=by
 unfold uk; rw [qay];show kz 2 (1+1) fQ=_;rw [vaj (by rw [qay]; omega),ybk,if_pos (vad 1)]
theorem zc6:uaf 2 fQ=true:=by
 unfold uaf; rw [qay];show xad 2 (1+1) fQ=_;rw [yap (by rw [qay]; omega),ybk,if_pos (vad 1)]
def dQ:Pl:=.mk 2 false [] [Pl.zero,Pl.const 2]
theorem gay:dQ.Can:=by
 refine za5 (by omega) (by omega) (by simp) (zae fun c hc=>?_) (by simpa using xa2 (z:=2) (by omega));simp only [List.mem_cons,List.not_mem_nil,or_false] at hc;rcases hc with rfl | rfl
 · exact ⟨by simp only [Pl.zero,Pl.lv]; omega,Pl.zero_can⟩
 · exact ⟨by rw [vad]; omega,ut _⟩
theorem jc6 (ρ:Int->Rat):dQ.val ρ=ρ 2 * 2:=by
 unfold dQ;rw [Pl.mk_val ρ _ _ _ (by omega) (by omega),qf,qf,qf,Pl.zero_val,Pl.const_val]; push_cast; grind
theorem kcd:uo 2 fQ=dQ:=Pl.val_uniq (kbd _ _) gay fun ρ=>by
 unfold uo;rw [if_pos ⟨by omega,by omega⟩,jac (by omega) (by omega),zbh,jc6];simp only [List.tail_cons,uag,qf,Pl.mul_val,Pl.zero_val,Pl.const_val]
 push_cast; grind
theorem ycm:dQ.cfL 2=[Pl.zero,Pl.const 2]:=(Pl.cfL_coefs (by omega) (by omega) gay).uniq (ja2 gay (by omega))
theorem uay:mdg 2 dQ=1:=by unfold mdg; rw [ycm]; rfl
def sQ:Pl:=qd 1 (Pl.const 4) (Pl.const (-4))
theorem xci:sQ.Can:=ybt (by omega) (by omega) (ut _) (ut _) (by rw [vad]; omega) (by rw [vad]; omega) (xa2 (by omega))
theorem xbs (ρ:Int->Rat):sQ.val ρ=4 * (ρ 1 * ρ 1) - 4:=by
 unfold sQ; rw [wbs ρ (by omega) (by omega),Pl.const_val,Pl.const_val]; push_cast; grind
theorem jca:ul 2 fQ dQ=sQ:=Pl.val_uniq (yah _ _ _) xci fun ρ=>by
 have hz:dQ.opp.isZ=false:=by
  cases e:dQ.opp.isZ
  · rfl
  · exfalso
    have h1:=(Pl.zero_isZ (Pl.opp_can _)).1 e;have h2:=vb6 (l:=2) (by omega) (by omega) gay;rw [h1,uay] at h2;have h3:mdg 2 Pl.zero=-1:=(gbc Pl.zero_can).2 rfl;rw [h3] at h2; omega
 unfold ul wae;rw [if_pos ⟨by omega,by omega⟩,hz,if_neg (by simp),jac (by omega) (by omega),jbj (by omega) (by omega) gay,zbh,ycm,xbs];have hg:=vbg ρ;simp [zu,kaa,qf,Pl.mul_val,Pl.sub_val,Pl.opp_val,Pl.zero_val,Pl.const_val,hg]
 grind
theorem yci:jy 2 fQ dQ=[sQ]:=by
 unfold jy;rw [qay,uay,if_neg (by omega),if_pos rfl,jca,wcd (by omega) (by omega) xci];have:=gbq (l:=2) (by omega) (by omega) ybh gay (kat (l:=2) (by rw [uay]; omega));rw [jca,uay] at this; omega
theorem jbd:elems 2 [fQ]=[Pl.const 1,sQ]:=by
 unfold elems ybj;have:jal 2 fQ=[Pl.const 1,sQ]:=by
  unfold jal wab;rw [vcl,zc6,if_pos (Or.inr rfl)];simp [ybk,kcd,yci]
 simp [this,List.range_succ]
theorem gc7:sQ.sp=[(4,⟨2,0,0,0⟩),(-4,Mo.one)]:=by
 refine (Pl.sp_uniq ?_ ?_ fun ρ=>?_).symm
 · unfold qp;refine ⟨by omega,fun x hx=>?_,?_⟩
   · rw [List.mem_singleton] at hx;subst hx;simp [Mo.lt,Mo.one]
   · unfold qp;exact ⟨by omega,by simp,by trivial⟩
 · intro x hx;simp only [List.mem_cons,List.not_mem_nil,or_false] at hx;rcases hx with rfl | rfl <;> simp [Mo.nonneg,Mo.one]
 · rw [xbs];simp only [jk,Mo.val,Mo.one];rw [show Int.toNat 2=2 from rfl,show Int.toNat 0=0 from rfl]
   push_cast
   grind
theorem wc7:snP sQ=gQ:=Pl.val_uniq (kai _) ubg fun ρ=>by
 have h:=war ρ sQ;have hd:sdv sQ.sp=4:=by rw [gc7]; rfl
 rw [hd,xbs] at h;rw [vbg]
 push_cast at h
 grind
theorem gc5:df 2 [fQ]=[gQ]:=by
 unfold df;rw [jbd];unfold putA;simp only [List.foldl_cons,List.foldl_nil];have h1:putL [] (Pl.const 1)=[]:=by unfold putL; rw [if_pos (vad 1)]
 rw [h1];unfold putL;rw [if_neg (by simp [sQ,qd,Pl.lv]),if_neg (by simp),wc7]
 rfl
theorem qb5 (n:Int) (w:World):Calls Tryz.prog 23 #[.int .i64 n] w (zg (fun b=>w.heap.size<=b) (Pl.var n) w):=by
 obtain ⟨W,hW⟩:=n_m (w.alloc (.cells #[.int .i64 0,.bool false,.slice none 0 0,.slice none 0 0] 33));have ag:Ext w W:=by rw [<- hW]; exact (Ext.refl w).alloc _
 have hz:uf W w.heap.size:=by rw [<- hW]; exact uf.new w _
 have hs:=ag.size;have bW:W.heap.size=w.heap.size+1:=by rw [<- hW]; simp
 have aB:=hid ag;have HZ:=hid hz;have HL:=hid (zax n W);clear ag hz
 by_cases h:1<=n/\n<=4
 · have hv:Pl.var n=.mk n false [] [Pl.zero,Pl.const 1]:=if_pos h;rw [hv];rw [decide_eq_true h.1,decide_eq_true h.2] at HL;clear hv;go_enter Tryz.func23,Tryz.ntmps23;go_wp2_with fail;clear hW;refine HL.out.mono ?_;rintro e w1 ⟨rfl,rfl⟩;go_wp2_with fail;refine (of_int 1 w1 (by omega) (by omega)).mono ?_;rintro e w2 ⟨z2,rfl,⟨y2,rfl,m2⟩,x2⟩;obtain ⟨C2,k2,rfl,-⟩:=id m2;have aX:=HZ.out.ext x2 (by omega);have jT:=x2.size
   have HF:Hid (∀ W2:World,Ext w2 W2->(∀ j,j < 8->W2.cell? ⟨w2.heap.size,j,none⟩=#[Value.int .i64 0,.bool false,.slice none 0 0,.slice none 0 0,.int .i64 0,.bool (decide ((1:Int) < 0)),.slice C2 (dg (1:Int).natAbs).length k2,.slice none 0 0][j]?)->w2.heap.size < W2.heap.size ->
    PlV W2 (fun b=>b=w2.heap.size) (.mk n false [] [Pl.zero,Pl.const 1]) (plV (.mk n false [] [Pl.zero,Pl.const 1]) (.slice none 0 0) (.slice (some ⟨w2.heap.size,0,none⟩) 2 2))):=by
    refine hid ?_;intro W2 hx hc af;refine PlV.mk (t:=.mk n false [] [Pl.zero,Pl.const 1]) (A:=some ⟨w2.heap.size,0,none⟩) (c:=2) (jb.nil W2) (Nat.le_refl 2) (by decide) ?_;refine ⟨⟨⟨w2.heap.size,0,none⟩,.slice none 0 0,.slice none 0 0,rfl,af,rfl,⟨hc 0 (by omega),hc 1 (by omega),hc 2 (by omega),hc 3 (by omega)⟩,Pl.zero_v _ _ none 0 (by decide)⟩,⟨⟨w2.heap.size,0,none⟩,.slice C2 (dg (1:Int).natAbs).length k2,.slice none 0 0,rfl,af,rfl,⟨?_,hc 5 (by omega),hc 6 (by omega),hc 7 (by omega)⟩,jbn _ (m2.ext hx)⟩,trivial⟩;rw [uq];exact hc 4 (by omega)
   obtain ⟨W2,xM⟩:=n_m (w2.alloc (.cells #[.int .i64 0,.bool false,.slice none 0 0,.slice none 0 0,.int .i64 0,.bool false,.slice C2 (dg 1).length k2,.slice none 0 0] 33));have aO:Ext w2 W2:=by rw [<- xM]; exact (Ext.refl w2).alloc _
   have jV:=HF.out W2 aO (fun j hj=>by
    rcases (show j=0\/j=1\/j=2\/j=3\/j=4\/j=5\/j=6\/j=7 by omega) with rfl | rfl | rfl | rfl | rfl | rfl | rfl | rfl <;> (rw [<- xM]; simp [go_sem])) (by rw [<- xM]; simp)
   have Nk:=aX.ext aO (by omega);have SL:=hid (jg (q':=fun b=>w.heap.size<=b) ((aB.out.trans x2).trans aO) (Nat.le_refl _) Nk jV (fun b _ hb=>⟨by omega,by omega⟩));obtain ⟨⟨z0,z1,z2',z3⟩,zf⟩:=Nk;clear x2 m2 aX jV aO HF;go_wp2_with fail;exact bodyPost_ret (by simp [results,Tryz.results23,go_sem,z0,z1,z2',z3,plV,Pl.lv,Pl.neg,Pl.cs]) rfl SL.out
 · have hv:Pl.var n=Pl.zero:=if_neg h;rw [hv];have HL2:Hid (Calls Tryz.prog 50 #[.int .i64 n] W fun e w'=>e=.returned (.bool false)/\w'=W):=by
    rw [show (decide (1<=n) && decide (n<=4))=false by simp; omega] at HL;exact HL
   have SL:=hid (jg (q':=fun b=>w.heap.size<=b) aB.out (Nat.le_refl _) HZ.out (Pl.zero_v W (fun b=>w.heap.size<=b/\b ≠ w.heap.size) none 0 (by decide)) (fun b _ hb=>⟨hb.2,hb.1⟩));obtain ⟨⟨z0,z1,z2',z3⟩,zf⟩:=HZ.out;clear hv HL h;go_enter Tryz.func23,Tryz.ntmps23;go_wp2_with fail;clear hW;refine HL2.out.mono ?_;rintro e w1 ⟨rfl,rfl⟩;go_wp2_with fail;exact bodyPost_ret (by simp [results,Tryz.results23,go_sem,z0,z1,z2',z3,plV,Pl.zero,Pl.lv,Pl.neg,Pl.cs]) rfl SL.out
end Go.Proofs.YtcepajijiabkmaaGreat
