/- Layer 41: collins.required's collecting closure. -/
import Derived.Test.YtklnlgnnlmdibaaGreatElms
import Derived.Test.YtklnlgnnlmdibaaGreatMr49
import Derived.Test.YtklnlgnnlmdibaaGreatMr30
import Derived.Test.YtklnlgnnlmdibaaGreatMr22
set_option linter.unusedSimpArgs false
set_option linter.unusedVariables false

set_option maxRecDepth 100000
set_option maxHeartbeats 8000000
namespace Go.Proofs.YtklnlgnnlmdibaaGreat
open Go.RowKit
structure zay (T base : Nat) (acc : List Pl) (w w' : World) : Prop where
 fs:FS T base w' acc
 keep:uf T w w'
 other:∀ (i:Nat) (o:Obj),w.heap[i]?=some o->o.isCells=false->w'.heap[i]?=some o
 ext:∀ w0,Ext w0 w->w0.heap.size<=T->Ext w0 w'
theorem zay.of_ext {T base:Nat} {acc:List Pl} {w w':World} (h:FS T base w acc) (hx:Ext w w'):zay T base acc w w':=
 ⟨h.ext hx,uf.of_ext h.lt hx,fun i o hi _=>(hx.below.block i (lt_of_some hi)).trans hi,fun w0 h0 _=>h0.trans hx⟩
theorem gah {W:World} {a b:Addr} {u v:Value} (h:a.block ≠ b.block):(W.setCell a u).setCell b v=(W.setCell b v).setCell a u:=by
 unfold World.setCell
 congr 1
 refine Array.ext (by simp) fun i h1 h2=>?_
 simp only [Array.getElem_modify]
 by_cases e1:a.block=i <;> by_cases e2:b.block=i
 · omega
 · simp [e1,e2]
 · simp [e1,e2]
 · simp [e1,e2]
theorem uh.pos {base:Nat} {q:Nat->Prop} {W:World} {v:Value} {l:List Pl} (h:uh base q W v l) (hl:0 < l.length):∃ g c,v=.slice (some ⟨g,0,none⟩) l.length c/\l.length<=c/\c<=9223372036854775807/\base<=g/\g < W.heap.size/\∀ i,W.frozen? ⟨g,i,none⟩=false:=by
 obtain ⟨rs,rfl,h2,-⟩:=h;rw [List.length_map] at hl ⊢;exact h2.pos hl
theorem uh.obj {base:Nat} {q:Nat->Prop} {W:World} {v:Value} {l:List Pl} (h:uh base q W v l) {R:Nat} (hR:v.ownBlock=some R):∃ cur T fr,W.heap[R]?=some (.cells cur T fr):=by
 obtain ⟨rs,-,h2,-⟩:=h;exact zal h2.1 R hR
theorem jbw {T base g c : Nat} {acc : List Pl} {P : Pl} {w wr w4 w5 Wf : World} {fv : Value} {A0 A1 : Option Addr} {n0 c0 n1 c1 : Nat} (hFS : FS T base w acc) (hx : Ext w wr) (hfv : wr.heap[T]? = some (.cells #[fv] 24 (0, 0))) (hq : uh base (fun b => b ≠ T) wr fv acc) (hg4 : wr.grownBy w4 fv.ownBlock) (hn4 : ∀ v ds, jc wr v ds -> jc w4 v ds)
 (hrow4:uh base (fun b=>b ≠ T) w4 (.slice (some ⟨g,0,none⟩) (acc ++ [Pl.zero]).length c) (acc ++ [Pl.zero])) (ho4:some g=fv.ownBlock\/wr.heap.size<=g) (hp:PlV w4 (fun b=>b ≠ g/\b ≠ T) P (plV P (.slice A0 n0 c0) (.slice A1 n1 c1)))
 (h5:((((w4.setCell ⟨g,acc.length * 4,none⟩ (.int .i64 P.lv)).setCell ⟨g,acc.length * 4+1,none⟩ (.bool P.neg)).setCell ⟨g,acc.length * 4+2,none⟩ (.slice A0 n0 c0)).setCell ⟨g,acc.length * 4+3,none⟩ (.slice A1 n1 c1))=w5) (hf:w5.setCell ⟨T,0,none⟩ (.slice (some ⟨g,0,none⟩) (acc ++ [Pl.zero]).length c)=Wf):zay T base (acc ++ [P]) w Wf:=by
 have hlt:acc.length < (acc ++ [Pl.zero]).length:=by simp
 have hset:=hrow4.set_ acc.length hlt P hp;rw [h5] at hset;have hl:(acc ++ [Pl.zero]).set acc.length P=acc ++ [P]:=by rw [List.set_append_right _ _ (Nat.le_refl _),Nat.sub_self]; rfl
 rw [hl] at hset;obtain ⟨hs,hsn⟩:=hset;have hgo:=hrow4.own (R:=g) rfl;obtain ⟨hTb,hbw,fw,hfw,-⟩:=id hFS;have hTw:T < w.heap.size:=by omega
 have e0:fw=fv:=by
  have:=(hx.below.block T hTw).trans hfw;rw [hfv] at this;simp at this;exact this.symm
 subst e0;have hTg:T ≠ g:=by omega
 have hTo:fw.ownBlock ≠ some T:=fun e=>by have:=(hq.own e).1; omega
 have hFo:∀ b,fw.ownBlock=some b->vab T w b:=fun b e=>⟨fw,box1 hfw,e⟩
 have b5:∀ k,k ≠ g->w5.heap[k]?=w4.heap[k]?:=fun k hk=>by rw [<- h5,Below.heap_setCell _ _ _ k hk,Below.heap_setCell _ _ _ k hk,Below.heap_setCell _ _ _ k hk,Below.heap_setCell _ _ _ k hk]
 have b4:∀ k,k < wr.heap.size->fw.ownBlock ≠ some k->w4.heap[k]?=wr.heap[k]?:=fun k hk hn=>World.grownBy.block hg4 k hk (fun e=>hn e.symm)
 have bf:∀ k,k ≠ T->Wf.heap[k]?=w5.heap[k]?:=fun k hk=>by rw [<- hf]; exact Below.heap_setCell _ _ _ k hk
 have s5:w5.heap.size=w4.heap.size:=by rw [<- h5]; simp [World.setCell]
 have sf:Wf.heap.size=w5.heap.size:=by rw [<- hf]; simp [World.setCell]
 have sx:=hx.size;have s4:=hg4.size;have hT5:w5.heap[T]?=some (.cells #[fw] 24 (0,0)):=(b5 T hTg).trans ((b4 T (by omega) hTo).trans hfv);have hTf:Wf.heap[T]?=some (.cells #[.slice (some ⟨g,0,none⟩) (acc ++ [Pl.zero]).length c] 24 (0,0)):=by rw [<- hf]; exact Boxed.set _ hT5
 have hdg:um fw=false:=by obtain ⟨A,c,rfl,-⟩:=hq.len; rfl
 have nf:∀ v ds,jc w5 v ds->jc Wf v ds:=fun v ds hv=>by rw [<- hf]; exact hv.box (box1 hT5) hdg _
 have hfo:∀ b,vab T Wf b->b=g:=fun b ⟨v,hv,e⟩=>by
  rw [box1 hTf] at hv;injection hv with hv
  subst hv;injection e with e; exact e.symm
 have hgw:∀ i,i < w.heap.size->¬ vab T w i->i ≠ g:=fun i hi hn e=>by
  rcases ho4 with h | h
  · exact hn (hFo i (by rw [e]; exact h.symm))
  · omega
 have hrowf:uh base (fun b=>b ≠ T) Wf (.slice (some ⟨g,0,none⟩) (acc ++ [Pl.zero]).length c) (acc ++ [P]):=
  hs.frr ⟨by omega,nf,fun b _ hb=>bf b hb⟩ (fun e=>by injection e with e; exact hTg e.symm) (fun b hb=>hb)
 refine ⟨⟨hTb,by omega,_,hTf,hrowf⟩,⟨by omega,fun i o hiT hn hi _=>?_,fun i hi e=>?_,fun _ b e=>?_,fun v ds hv=>nf _ _ (hsn _ _ (hn4 _ _ (hv.ext hx)))⟩,fun i o hi ho=>?_,fun w0 h0 h0T=>?_⟩
 · have hlt':=lt_of_some hi;exact (bf i hiT).trans ((b5 i (hgw i hlt' hn)).trans ((b4 i (by omega) (fun e=>hn (hFo i e))).trans ((hx.below.block i hlt').trans hi)))
 · have e1:=hfo i e;rcases ho4 with h | h
   · exact hFo i (by rw [e1]; exact h.symm)
   · omega
 · have e1:=hfo b e;omega
 · have hlt':=lt_of_some hi;have h1:=(hx.below.block i hlt').trans hi;have n1:fw.ownBlock ≠ some i:=fun e=>by
    obtain ⟨cur,t,fr,hc⟩:=hq.obj e;rw [h1] at hc; injection hc with hc; rw [hc] at ho; cases ho
   have h2:=(b4 i (by omega) n1).trans h1;have n2:i ≠ g:=fun e=>by
    obtain ⟨cur,t,fr,hc⟩:=hrow4.obj (R:=g) rfl;rw [e,hc] at h2; injection h2 with h2; rw [<- h2] at ho; cases ho
   have n3:i ≠ T:=fun e=>by
    rw [e,hfw] at hi; injection hi with hi; rw [<- hi] at ho; cases ho
   exact (bf i n3).trans ((b5 i n2).trans h2)
 · have hw0:=h0.size;have h1:Ext w0 w4:=Below.grown (h0.trans hx).below hg4 (by omega) (fun k e=>by have:=(hq.own e).1; omega);have hgw0:w0.heap.size<=g:=by omega
   rw [<- hf,<- h5];exact ((((h1.setCell hgw0 _).setCell hgw0 _).setCell hgw0 _).setCell hgw0 _).setCell h0T _
theorem xcd {w:World} {T base E D:Nat} {q:Nat->Prop} {acc:List Pl} {p:Pl} (v:Value) (h0:PlV w q p v) (hp:Fit p E D) (hE:E<=170) (hD:D<=1099511627776) (hFS:FS T base w acc) (hacc:∀ c ∈ acc,Fit c E D) (hn:acc.length<=100000) :
 Calls Tryz.prog 67 #[v,.pointer (some ⟨T,0,none⟩)] w fun e w'=>(∃ r,e=.returned r)/\zay T base (putL acc p) w w':=by
 have H0:=Lib.hid h0;obtain ⟨A0,m0,e0,B0,f0,rfl,-⟩:=h0.open_;obtain ⟨W,hV0⟩:∃ V,(w.alloc (.cells #[.int .i64 p.lv,.bool p.neg,.slice A0 m0 e0,.slice B0 p.cs.length f0] 35))=V:=⟨_,rfl⟩;have hs0:W.heap.size=w.heap.size+1:=by rw [<- hV0]; simp
 have hx0:Ext w W:=by rw [<- hV0]; exact (Ext.refl w).alloc _
 have hb0:jb W (w.heap.size) p (.slice A0 m0 e0) (.slice B0 p.cs.length f0):=by
  have hh:jb W w.heap.size p (.slice A0 m0 e0) (.slice B0 p.cs.length f0):=by rw [<- hV0]; exact jb.new w p _ _ _
  exact hh
 have HX:=Lib.hid hx0;have HB0:=Lib.hid hb0;have hsw:W.heap.size=w.heap.size+1:=hs0;clear h0 hx0 hb0;have HFS:=Lib.hid hFS;have HACC:=Lib.hid hacc;have HC:=Lib.hid (fun (W':World) (hx:Ext w W')=>uax p _ (H0.out.ext hx) (hp.small hE) (by have:=hp.dm; omega) (by rw [Pl.nf_of_can hp.can]; exact hp) (by omega));rw [Pl.nf_of_can hp.can] at HC;have HS:=Lib.hid (fun (W':World) (hx:Ext w W')=>jcg _ (H0.out.ext hx) hp hE hD);have hsf:=za9 hp;have HSM:=Lib.hid (fun (W':World) (q' q'':Nat->Prop) (u u':Value) (c:Pl) (hc:c ∈ acc) (h1:PlV W' q' (snP p) u) (h2:PlV W' q'' c u')=>yax u u' h1 h2 (hsf.small hE) (by have:=hsf.dm; omega) ((hacc c hc).small hE) (by have:=(hacc c hc).dm; omega) (by rw [Pl.nf_of_can hsf.can]; exact hsf) hE);have HFR:Hid (∀ i,W.frozen? ⟨w.heap.size,i,none⟩=false):=Lib.hid (by rw [<- hV0]; intro i; simp [go_sem]);have HCN:=Lib.hid (And.intro hsf.can fun c hc=>(hacc c hc).can);obtain ⟨b0,b1,b2,b3⟩:=HB0.out;unfold plV at HC HS ⊢;clear hp hFS hacc hs0;go_enter Tryz.func67,Tryz.ntmps67;go_wp2_with fail;clear b0 b1 b2 b3;refine (HC.out _ HX.out).mono ?_;rintro e w1 ⟨x1,rfl,i1,y1⟩;obtain ⟨bx,Bx,nx,cx,rfl⟩:=i1.unpack;obtain ⟨W1,hW1⟩:∃ W1,(w1.alloc (.cells #[.bool bx,.slice Bx nx cx] 33))=W1:=⟨_,rfl⟩;have hxW1:Ext W W1:=by rw [<- hW1]; exact y1.alloc _
 have HX1:=Lib.hid hxW1;obtain ⟨b0,b1,b2,b3⟩:=HB0.out.ext hxW1 (by omega);clear i1 y1 HC hxW1
 by_cases hlv:p.lv=0
 · have HF:Hid (zay T base (putL acc p) w W1):=Lib.hid (by unfold putL; rw [if_pos hlv]; exact zay.of_ext HFS.out (HX.out.trans HX1.out));have hdl:decide (p.lv=0)=true:=by simpa using hlv
   clear hlv;go_wp2_with fail;exact bodyPost_ret (v:=.tuple #[]) (by simp [results,Tryz.results67,go_sem]) rfl ⟨⟨_,rfl⟩,HF.out⟩
 · have hdl:decide (p.lv=0)=false:=by simpa using hlv
   have HPL:Hid (putL acc p=if acc.any (eqB (snP p))=true then acc else acc ++ [snP p]):=Lib.hid (by unfold putL; rw [if_neg hlv]);have HSN:=Lib.hid (HS.out W1 (HX.out.trans HX1.out));clear hlv HS;go_wp2_with fail;clear hW1 b0 b1 b2 b3 hV0;refine HSN.out.mono ?_;rintro e w2 ⟨v2,rfl,p2,x2⟩;obtain ⟨C0,j0,k0,C1,j1,rfl,-⟩:=id p2.open_;obtain ⟨P,hP⟩:∃ P,snP p=P:=⟨_,rfl⟩;rw [hP] at p2 HSM HPL HCN ⊢;have hbW:PBx W (fun b=>b < w.heap.size) w.heap.size p:=⟨by omega,HFR.out,A0,m0,e0,B0,f0,HB0.out,(H0.out.below_.ext HX.out).mono fun b hb=>⟨hb.2,by have:=hb.2; omega⟩⟩;have hb2:=(hbW.ext HX1.out).ext x2;obtain ⟨-,hbf,Z0,zn,zc,Z1,zc1,⟨g0,g1,g2,g3⟩,-⟩:=id hb2;obtain ⟨V,hV⟩:∃ V,((((w2.setCell ⟨w.heap.size,0,none⟩ (.int .i64 P.lv)).setCell ⟨w.heap.size,1,none⟩ (.bool P.neg)).setCell ⟨w.heap.size,2,none⟩ (.slice C0 j0 k0)).setCell ⟨w.heap.size,3,none⟩ (.slice C1 P.cs.length j1))=V:=⟨_,rfl⟩;have hxV:Ext w V:=by rw [<- hV]; exact (((((HX.out.trans HX1.out).trans x2).setCell (Nat.le_refl _) _).setCell (Nat.le_refl _) _).setCell (Nat.le_refl _) _).setCell (Nat.le_refl _) _
   have hs1:=HX1.out.size;have hbV:PBx V (fun b=>w.heap.size < b) w.heap.size P:=by rw [<- hV]; exact hb2.store (p2.mono fun b hb=>⟨by omega,by omega⟩)
   have HXV:=Lib.hid hxV;have HBV:=Lib.hid hbV;obtain ⟨hTb,hbs,fv,hfv,hfq⟩:=HFS.out.ext hxV;obtain ⟨F0,fc,rfl,hf1,hf2⟩:=hfq.len;have hT0:=box1 hfv;have HQ:=Lib.hid hfq;have hbw:base<=w.heap.size:=HFS.out.2.1;obtain ⟨n0,hn0⟩:∃ n0,acc.length=n0:=⟨_,rfl⟩;have HN0:=Lib.hid hn0;have HFV:=Lib.hid hfv;clear hbW hb2 hxV hbV x2 hP HSN hfq hfv;unfold plV;go_wp2_with fail;clear g0 g1 g2 g3 hbf hV hT0;rw [HN0.out] at hf1
   go_loopw [17] (fun iv wr=>∃ k:Nat,k<=n0/\iv=.int .i64 k/\Hid ((∀ c ∈ acc.take k,c ≠ P)/\Ext V wr)) (fun iv _=>n0 - (intOf iv).toNat)
   case atStart=>exact ⟨0,Nat.zero_le _,rfl,Lib.hid ⟨by simp,Ext.refl V⟩⟩
   case round =>
    obtain ⟨k,hk,rfl,HI⟩:=hrel;obtain ⟨hne,hx⟩:=HI.out;obtain ⟨-,-,C0',j0',k0',C1',j1',⟨b0,b1,b2,b3⟩,hpP⟩:=HBV.out.ext hx
    by_cases hlt:k < n0
    · have hlt':k < acc.length:=by rw [HN0.out]; exact hlt
      have hat:=(HQ.out.ext hx).at_;obtain ⟨ad,G0,i0,h0,G1,i1,h1,rfl,hadb,⟨g0,g1,g2,g3⟩,hpk⟩:=hat.kid k hlt';have HX2:=Lib.hid hx;have HNE:=Lib.hid hne;obtain ⟨U,hU⟩:∃ U,(wr.alloc (.cells #[.int .i64 acc[k].lv,.bool acc[k].neg,.slice G0 i0 h0,.slice G1 i1 h1] 35))=U:=⟨_,rfl⟩;have hxU:Ext wr U:=by rw [<- hU]; exact (Ext.refl wr).alloc _
      obtain ⟨s0,s1,s2,s3⟩:jb U wr.heap.size acc[k] (.slice G0 i0 h0) (.slice G1 i1 h1):=by rw [<- hU]; exact jb.new wr acc[k] _ _ _
      have hgw:w.heap.size < wr.heap.size:=Nat.lt_of_lt_of_le HBV.out.1 hx.size;obtain ⟨y0,y1,y2,y3⟩:jb U w.heap.size P (.slice C0' j0' k0') (.slice C1' P.cs.length j1'):=(show jb wr w.heap.size P _ _ from ⟨b0,b1,b2,b3⟩).ext hxU hgw;have hsm:=HSM.out U _ _ _ _ acc[k] (List.getElem_mem hlt') (hpP.ext hxU) (hpk.ext hxU);rw [Pl.nf_of_can HCN.out.1,Pl.nf_of_can (HCN.out.2 acc[k] (List.getElem_mem hlt'))] at hsm;have HXU:=Lib.hid (hx.trans hxU);have HMEM:=Lib.hid (List.getElem_mem hlt');have HTK:Hid (∀ c ∈ acc.take (k+1),c ∈ acc.take k\/c=acc[k]):=Lib.hid (fun c hc=>by
       rw [List.take_succ_eq_append_getElem hlt',List.mem_append,List.mem_singleton] at hc; exact hc)
      generalize acc[k]=ck at *;unfold plV at hsm;clear hne hx hpP hat hadb hpk hxU HI
      by_cases he:P=ck
      · rw [qag he] at hsm;have HF:Hid (∀ w',Ext U w'->zay T base (putL acc p) w w'):=Lib.hid (fun w' hx=>by
         rw [HPL.out,if_pos (List.any_eq_true.2 ⟨ck,HMEM.out,qag he⟩)]
         exact zay.of_ext HFS.out (HXV.out.trans (HXU.out.trans hx)))
        clear he;go_wp2_with fail;clear b0 b1 b2 b3 g0 g1 g2 g3 s0 s1 s2 s3 y0 y1 y2 y3 hU;refine hsm.mono ?_;rintro e w5 ⟨rfl,x5⟩;have HF5:=Lib.hid (HF.out _ x5);clear x5 hsm;go_wp2_with fail;exact bodyPost_ret (v:=.tuple #[]) (by simp [results,Tryz.results67,go_sem]) rfl ⟨⟨_,rfl⟩,HF5.out⟩
      · rw [ual he] at hsm;have HNE2:Hid (∀ c ∈ acc.take (k+1),c ≠ P):=Lib.hid (fun c hc=>by
         rcases HTK.out c hc with h | h
         · exact HNE.out c h
         · rw [h]; exact fun e=>he e.symm)
        clear he;go_wp2_with fail;clear b0 b1 b2 b3 g0 g1 g2 g3 s0 s1 s2 s3 y0 y1 y2 y3 hU;refine hsm.mono ?_;rintro e w5 ⟨rfl,x5⟩;have HXN:=Lib.hid (HXU.out.trans x5);clear x5 hsm;go_wp2_with fail
        go_roundw
        case rel=>exact ⟨k+1,by omega,by go_num,HNE2.out,HXN.out⟩
        case measure=>simp [intOf]; omega
    · obtain rfl:k=n0:=by omega
      have hnone:acc.any (eqB P)=false:=by
       rw [<- Bool.not_eq_true];intro h;obtain ⟨c,hc,he⟩:=List.any_eq_true.1 h;refine hne c ?_ (jba.1 he).symm;rw [show k=acc.length from HN0.out.symm,List.take_length]; exact hc
      rw [hnone,if_neg (by simp)] at HPL;obtain ⟨D,hD⟩:∃ D,wr.drew=D:=⟨_,rfl⟩;have hxD:Ext V D:=by rw [<- hD]; exact hx.drew
      have hxwD:Ext wr D:=by rw [<- hD]; exact (Ext.refl wr).drew
      have hqx:=HQ.out.ext hxD;have hgwV:=HBV.out.1;have hgD:w.heap.size < D.heap.size:=Nat.lt_of_lt_of_le hgwV hxD.size;have hTx:=(hxD.below.block T (by omega)).trans HFV.out;obtain ⟨v4,w4,hrun,hg4,hn4,hrow4,ho4⟩:=hqx.push (x:=Pl.zero) (A0:=none) (n0:=0) (c0:=0) (A1:=none) (n1:=0) (c1:=0) (by omega) (Pl.zero_v _ _ none 0 (by omega)) (by rw [HN0.out]; omega) 24;obtain ⟨g,c4,rfl,hc41,hc42,hgb,hgs,hgf⟩:=hrow4.pos (by simp);have hlen4:(acc ++ [Pl.zero]).length=k+1:=by rw [List.length_append,HN0.out]; rfl
      have hgT:¬ g=T:=by omega
      have hTo4:w4.heap[T]?=D.heap[T]?:=World.grownBy.block hg4 T (by omega) (fun e=>by have:=(hqx.own e.symm).1; omega);have hbo4:w4.heap[w.heap.size]?=D.heap[w.heap.size]?:=World.grownBy.block hg4 _ hgD (fun e=>by
       have:=HFS.out.fresh w.heap.size ⟨_,(by
        have h1:=(HXV.out.trans hxD).below.block T (by omega);rw [hTx] at h1
        exact box1 h1.symm),e.symm⟩
       omega)
      have hT4:w4.cell? ⟨T,0,none⟩=some (.slice F0 acc.length fc):=by rw [World.cell?_of_block (a:=⟨T,0,none⟩) hTo4]; exact box1 hTx
      have hTf4:∀ i,w4.frozen? ⟨T,i,none⟩=false:=fun i=>by rw [World.frozen?_of_block (a:=⟨T,i,none⟩) hTo4]; simp [World.frozen?,hTx]
      obtain ⟨ad4,Z0',zn',zc',Z1',zn1',zc1',e4,-,⟨q0,q1,q2,q3⟩,-⟩:=hrow4.at_.kid k (by rw [hlen4]; omega);injection e4 with e4
      subst e4;rw [yt,Nat.zero_add] at q0 q1 q2 q3;simp only at q1 q2 q3;have hwg:¬ w.heap.size=g:=fun e=>by
       rcases ho4 with h | h
       · have:=HFS.out.fresh g ⟨_,(by
          have h1:=(HXV.out.trans hxD).below.block T (by omega);rw [hTx] at h1
          exact box1 h1.symm),h.symm⟩
         omega
       · injection h with h; (try dsimp only at h); omega
      have hpD:PlV w4 (fun b=>b ≠ g/\b ≠ T) P (plV P (.slice C0' j0' k0') (.slice C1' P.cs.length j1')):=by
       refine PlV.turn_ hg4.size hn4 (fun b hb hq=>?_) ((hpP.below_.ext hxwD));have hb1:=hq.1.1;have hb2:=hq.2;have hno:(Value.slice F0 acc.length fc).ownBlock ≠ some b:=fun e=>by
        have:=HFS.out.fresh b ⟨_,(by
         have h1:=(HXV.out.trans hxD).below.block T (by omega);rw [hTx] at h1
         exact box1 h1.symm),e⟩
        omega
       refine ⟨⟨fun e=>?_,by omega⟩,World.grownBy.block hg4 b hb (fun e=>hno e.symm)⟩;rcases ho4 with h | h
       · exact hno (by rw [<- h,e]; rfl)
       · injection h with h; (try dsimp only at h); have:=hxwD.size; omega
      have hfin:=fun (w5 Wf:World)=>jbw (w5:=w5) (Wf:=Wf) HFS.out (HXV.out.trans hxD) hTx hqx hg4 hn4 hrow4 (by rcases ho4 with h | h; exact Or.inl h; injection h with h; exact Or.inr (by (try dsimp only at h); omega)) hpD
      rw [<- HPL.out,HN0.out,hlen4] at hfin;have HFIN:=Lib.hid hfin;have t0:D.cell? ⟨T,0,none⟩=some (.slice F0 acc.length fc):=box1 hTx;obtain ⟨d0,d1,d2,d3⟩:=(show jb wr w.heap.size P (.slice C0' j0' k0') (.slice C1' P.cs.length j1') from ⟨b0,b1,b2,b3⟩).ext hxwD (Nat.lt_of_lt_of_le hgwV hx.size);have c4':∀ i,w4.cell? ⟨w.heap.size,i,none⟩=D.cell? ⟨w.heap.size,i,none⟩:=fun i=>World.cell?_of_block (a:=⟨w.heap.size,i,none⟩) hbo4
      obtain ⟨f0',f1',f2',f3'⟩:jb w4 w.heap.size P (.slice C0' j0' k0') (.slice C1' P.cs.length j1'):=⟨(c4' 0).trans d0,(c4' 1).trans d1,(c4' 2).trans d2,(c4' 3).trans d3⟩;clear hfin hpD hg4 hn4 hrow4 ho4 hqx hTo4 hbo4 c4' hTx hpP hne hnone HI hc41 hc42;rw [hlen4] at hrun;go_upto_region 9 with fail;have hS0:D.cell? ⟨w.heap.size,0,none⟩=some (.int .i64 P.lv)/\D.cell? ⟨w.heap.size,1,none⟩=some (.bool P.neg)/\D.cell? ⟨w.heap.size,2,none⟩=some (.slice C0' j0' k0')/\D.cell? ⟨w.heap.size,3,none⟩=some (.slice C1' P.cs.length j1'):=⟨d0,d1,d2,d3⟩;have hrun':(Builtin.append_ #[24,24] 24 #[.slice F0 k fc,.slice (some ⟨D.heap.size,0,none⟩) 1 1]).run Tryz.prog (D.alloc (.cells #[.int .i64 0,.bool false,.slice none 0 0,.slice none 0 0] 35))=.ok (.slice (some ⟨g,0,none⟩) (k+1) c4) w4:=by rw [HN0.out] at hrun; exact hrun
      have hSA:=(show jb D w.heap.size P (.slice C0' j0' k0') (.slice C1' P.cs.length j1') from hS0).ext ((Ext.refl D).alloc (.cells #[.int .i64 0,.bool false,.slice none 0 0,.slice none 0 0] 35)) hgD;obtain ⟨DA,hDA⟩:∃ DA,D.alloc (.cells #[.int .i64 0,.bool false,.slice none 0 0,.slice none 0 0] 35)=DA:=⟨_,rfl⟩;rw [hDA] at hrun' hSA;have tA:DA.cell? ⟨T,0,none⟩=some (.slice F0 acc.length fc):=by
       have hx9:Ext D DA:=by rw [<- hDA]; exact (Ext.refl D).alloc _
       exact (hx9.cell (p:=⟨T,0,none⟩) (by show T < _; omega)).trans t0
      clear hrun;refine wp_region_held_drew (S:=fun W'=>W'.cell? ⟨w.heap.size,0,none⟩=some (.int .i64 P.lv)/\W'.cell? ⟨w.heap.size,1,none⟩=some (.bool P.neg)/\W'.cell? ⟨w.heap.size,2,none⟩=some (.slice C0' j0' k0')/\W'.cell? ⟨w.heap.size,3,none⟩=some (.slice C1' P.cs.length j1')) (by kernel_rfl) (by rw [hD]; exact hS0) (fun hHeld=>?_);rw [hD];rw [hD] at hHeld;clear hD;refine tk 1 ?_ (hy:=Or.inl ⟨by rfl,by intro w' hSw; obtain ⟨k0,k1,k2,k3⟩:=hSw; go_simp; (try (with_reducible rfl))⟩);refine wpAnyH_ready (rs:=[0,3]) (by kernel_rfl) (by simp) ?_;refine AllReadyH.cons rfl (fun K hK=>?brA) (AllReadyH.cons rfl (fun K hK=>?brB) AllReadyH.nil)
      case' brA =>
       go_simp;refine hK.out _ _ hS0 (fun hHeld=>?_);clear hK K
       try simp only [Act.put,List.getElem_toArray,List.getElem_cons_zero,List.getElem_cons_succ,List.setIfInBounds_toArray,List.set_cons_zero,List.set_cons_succ]
       refine tk 2 ?_;refine wpAnyH_ready (rs:=[3]) (by kernel_rfl) (by simp) ?_;refine AllReadyH.cons rfl (fun K hK=>?_) AllReadyH.nil;go_simp
       (try rw [hDA])
       refine hK.out _ _ hSA (fun hHeld=>?_);clear hK K
       try simp only [Act.put,List.getElem_toArray,List.getElem_cons_zero,List.getElem_cons_succ,List.setIfInBounds_toArray,List.set_cons_zero,List.set_cons_succ]
      case' brB =>
       go_simp
       (try rw [hDA])
       refine hK.out _ _ hSA (fun hHeld=>?_);clear hK K
       try simp only [Act.put,List.getElem_toArray,List.getElem_cons_zero,List.getElem_cons_succ,List.setIfInBounds_toArray,List.set_cons_zero,List.set_cons_succ]
       refine wpAnyH_ready (rs:=[0]) (by kernel_rfl) (by simp) ?_;refine AllReadyH.cons rfl (fun K hK=>?_) AllReadyH.nil;go_simp;refine hK.out _ _ hSA (fun hHeld=>?_);clear hK K
       try simp only [Act.put,List.getElem_toArray,List.getElem_cons_zero,List.getElem_cons_succ,List.setIfInBounds_toArray,List.set_cons_zero,List.set_cons_succ]
       refine tk 2 ?_
      all_goals
       clear hDA tA;have hkk:(k:Int) < (k:Int)+1:=by omega
       refine wpAnyH_ready (rs:=[4]) (by kernel_rfl) (by simp) ?_;refine AllReadyH.cons rfl (fun K hK=>?_) AllReadyH.nil;refine vae rfl (.tmp 25) (.tmp 28) 24 24 rfl _ _ _ _ (by simp [Act.eval,Act.put]) (by simp [Act.eval,Act.put]) hrun' ?_;refine hK.out _ _ ⟨f0',f1',f2',f3'⟩ (fun hHeld=>?_);clear hK K hrun'
       try simp only [Act.put,List.getElem_toArray,List.getElem_cons_zero,List.getElem_cons_succ,List.setIfInBounds_toArray,List.set_cons_zero,List.set_cons_succ]
       refine tk 5 ?_;have hTws:¬ T=w.heap.size:=by omega
       refine wpAnyH_ready (rs:=[6,7]) (by kernel_rfl) (by simp) ?_;refine AllReadyH.cons rfl (fun K hK=>?_) (AllReadyH.cons rfl (fun K hK=>?_) AllReadyH.nil)
       · go_simp;clear q0 q1 q2 q3;refine yaf (P:=fun V=>((((w4.setCell ⟨g,k * 4,none⟩ (.int .i64 P.lv)).setCell ⟨g,k * 4+1,none⟩ (.bool P.neg)).setCell ⟨g,k * 4+2,none⟩ (.slice C0' j0' k0')).setCell ⟨g,k * 4+3,none⟩ (.slice C1' P.cs.length j1'))=V) rfl (fun V5 hV5=>?_);have b5:∀ b,b ≠ g->V5.heap[b]?=w4.heap[b]?:=fun b hb=>by rw [<- hV5,Below.heap_setCell _ _ _ b hb,Below.heap_setCell _ _ _ b hb,Below.heap_setCell _ _ _ b hb,Below.heap_setCell _ _ _ b hb]
         have x0:∀ i,V5.cell? ⟨w.heap.size,i,none⟩=w4.cell? ⟨w.heap.size,i,none⟩:=fun i=>World.cell?_of_block (a:=⟨w.heap.size,i,none⟩) (b5 _ hwg)
         have z0:V5.cell? ⟨T,0,none⟩=some (.slice F0 acc.length fc):=(World.cell?_of_block (a:=⟨T,0,none⟩) (b5 _ (fun e=>hgT e.symm))).trans hT4;have z1:∀ i,V5.frozen? ⟨T,i,none⟩=false:=fun i=>(World.frozen?_of_block (a:=⟨T,i,none⟩) (b5 _ (fun e=>hgT e.symm))).trans (hTf4 i)
         have hS5:V5.cell? ⟨w.heap.size,0,none⟩=some (.int .i64 P.lv)/\V5.cell? ⟨w.heap.size,1,none⟩=some (.bool P.neg)/\V5.cell? ⟨w.heap.size,2,none⟩=some (.slice C0' j0' k0')/\V5.cell? ⟨w.heap.size,3,none⟩=some (.slice C1' P.cs.length j1'):=⟨(x0 0).trans f0',(x0 1).trans f1',(x0 2).trans f2',(x0 3).trans f3'⟩;have hF5:=HFIN.out V5 _ hV5 rfl;refine hK.out _ _ hS5 (fun hHeld=>?_);clear hK K b5 x0 hV5
         try simp only [Act.put,List.getElem_toArray,List.getElem_cons_zero,List.getElem_cons_succ,List.setIfInBounds_toArray,List.set_cons_zero,List.set_cons_succ]
         refine wpAnyH_ready (rs:=[7]) (by kernel_rfl) (by simp) ?_;refine AllReadyH.cons rfl (fun K hK=>?_) AllReadyH.nil;go_simp;refine yaf (P:=fun V=>V5.setCell ⟨T,0,none⟩ (.slice (some ⟨g,0,none⟩) (k+1) c4)=V) rfl (fun V6 hV6=>?_);rw [hV6] at hF5;have x6:∀ i,V6.cell? ⟨w.heap.size,i,none⟩=V5.cell? ⟨w.heap.size,i,none⟩:=fun i=>World.cell?_of_block (a:=⟨w.heap.size,i,none⟩) (by rw [<- hV6]; exact Below.heap_setCell _ _ _ _ (fun e=>hTws e.symm))
         refine hK.out _ _ ⟨(x6 0).trans hS5.1,(x6 1).trans hS5.2.1,(x6 2).trans hS5.2.2.1,(x6 3).trans hS5.2.2.2⟩ (fun hHeld=>?_);clear hK K
         try simp only [Act.put,List.getElem_toArray,List.getElem_cons_zero,List.getElem_cons_succ,List.setIfInBounds_toArray,List.set_cons_zero,List.set_cons_succ]
         refine wpAnyH_done (by kernel_rfl) ?_ _;have HF6:=Lib.hid hF5;clear hF5 hV6 x6 z0 z1 hS5;go_wp2_with fail
         go_end0
         exact ⟨⟨_,rfl⟩,HF6.out⟩
       · go_simp;refine yaf (P:=fun V=>w4.setCell ⟨T,0,none⟩ (.slice (some ⟨g,0,none⟩) (k+1) c4)=V) rfl (fun V5 hV5=>?_);have b5:∀ b,b ≠ T->V5.heap[b]?=w4.heap[b]?:=fun b hb=>by rw [<- hV5,Below.heap_setCell _ _ _ b hb]
         have x0:∀ i,V5.cell? ⟨w.heap.size,i,none⟩=w4.cell? ⟨w.heap.size,i,none⟩:=fun i=>World.cell?_of_block (a:=⟨w.heap.size,i,none⟩) (b5 _ (fun e=>hTws e.symm))
         have z0:∀ i,V5.cell? ⟨g,i,none⟩=w4.cell? ⟨g,i,none⟩:=fun i=>World.cell?_of_block (a:=⟨g,i,none⟩) (b5 _ hgT)
         have z1:∀ i,V5.frozen? ⟨g,i,none⟩=false:=fun i=>(World.frozen?_of_block (a:=⟨g,i,none⟩) (b5 _ hgT)).trans (hgf i)
         rw [<- z0] at q0 q1 q2 q3;have hS5:V5.cell? ⟨w.heap.size,0,none⟩=some (.int .i64 P.lv)/\V5.cell? ⟨w.heap.size,1,none⟩=some (.bool P.neg)/\V5.cell? ⟨w.heap.size,2,none⟩=some (.slice C0' j0' k0')/\V5.cell? ⟨w.heap.size,3,none⟩=some (.slice C1' P.cs.length j1'):=⟨(x0 0).trans f0',(x0 1).trans f1',(x0 2).trans f2',(x0 3).trans f3'⟩;have hF5:=HFIN.out _ _ rfl rfl;have hcm:((((w4.setCell ⟨g,k * 4,none⟩ (.int .i64 P.lv)).setCell ⟨g,k * 4+1,none⟩ (.bool P.neg)).setCell ⟨g,k * 4+2,none⟩ (.slice C0' j0' k0')).setCell ⟨g,k * 4+3,none⟩ (.slice C1' P.cs.length j1')).setCell ⟨T,0,none⟩ (.slice (some ⟨g,0,none⟩) (k+1) c4)=((((V5.setCell ⟨g,k * 4,none⟩ (.int .i64 P.lv)).setCell ⟨g,k * 4+1,none⟩ (.bool P.neg)).setCell ⟨g,k * 4+2,none⟩ (.slice C0' j0' k0')).setCell ⟨g,k * 4+3,none⟩ (.slice C1' P.cs.length j1')):=by
          rw [<- hV5,gah (by exact hgT),gah (b:=⟨T,0,none⟩) (a:=⟨g,k * 4+2,none⟩) (by exact hgT),gah (b:=⟨T,0,none⟩) (a:=⟨g,k * 4+1,none⟩) (by exact hgT),gah (b:=⟨T,0,none⟩) (a:=⟨g,k * 4,none⟩) (by exact hgT)]
         rw [hcm] at hF5;refine hK.out _ _ hS5 (fun hHeld=>?_);clear hK K b5 x0 hV5 z0 hcm
         try simp only [Act.put,List.getElem_toArray,List.getElem_cons_zero,List.getElem_cons_succ,List.setIfInBounds_toArray,List.set_cons_zero,List.set_cons_succ]
         refine wpAnyH_ready (rs:=[6]) (by kernel_rfl) (by simp) ?_;refine AllReadyH.cons rfl (fun K hK=>?_) AllReadyH.nil;go_simp;clear q0 q1 q2 q3;refine yaf (P:=fun V=>((((V5.setCell ⟨g,k * 4,none⟩ (.int .i64 P.lv)).setCell ⟨g,k * 4+1,none⟩ (.bool P.neg)).setCell ⟨g,k * 4+2,none⟩ (.slice C0' j0' k0')).setCell ⟨g,k * 4+3,none⟩ (.slice C1' P.cs.length j1'))=V) rfl (fun V6 hV6=>?_);rw [hV6] at hF5;have x6:∀ i,V6.cell? ⟨w.heap.size,i,none⟩=V5.cell? ⟨w.heap.size,i,none⟩:=fun i=>World.cell?_of_block (a:=⟨w.heap.size,i,none⟩) (by rw [<- hV6,Below.heap_setCell _ _ _ _ hwg,Below.heap_setCell _ _ _ _ hwg,Below.heap_setCell _ _ _ _ hwg,Below.heap_setCell _ _ _ _ hwg])
         refine hK.out _ _ ⟨(x6 0).trans hS5.1,(x6 1).trans hS5.2.1,(x6 2).trans hS5.2.2.1,(x6 3).trans hS5.2.2.2⟩ (fun hHeld=>?_);clear hK K
         try simp only [Act.put,List.getElem_toArray,List.getElem_cons_zero,List.getElem_cons_succ,List.setIfInBounds_toArray,List.set_cons_zero,List.set_cons_succ]
         refine wpAnyH_done (by kernel_rfl) ?_ _;have HF6:=Lib.hid hF5;clear hF5 hV6 x6 z1 hS5;go_wp2_with fail
         go_end0
         exact ⟨⟨_,rfl⟩,HF6.out⟩
end Go.Proofs.YtklnlgnnlmdibaaGreat
