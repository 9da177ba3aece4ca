/- Layer 41: collins.required's collecting closure. -/
import Derived.Test.YtklnlgnnlmdibaaGreatMq47
set_option linter.unusedSimpArgs false
set_option linter.unusedVariables false

set_option maxRecDepth 100000
set_option maxHeartbeats 8000000
namespace Go.Proofs.YtklnlgnnlmdibaaGreat
open Lib (hid)
open Go.RowKit
structure ya5 (T base : Nat) (acc : List Pl) (w w' : World) : Prop where
 fs:FS T base w' acc
 keep:yg T w w'
 other:∀ (i:Nat) (o:Obj),w.heap[i]?=some o->o.isCells=false->w'.heap[i]?=some o
 ext:∀ w0,Ext w0 w->w0.heap.size<=T->Ext w0 w'
theorem ya5.of_ext {T base:Nat} {acc:List Pl} {w w':World} (h:FS T base w acc) (hx:Ext w w'):ya5 T base acc w w':=
 ⟨h.ext hx,yg.of_ext h.lt hx,fun i o hi _=>(hx.below.block i (lt_of_some hi)).trans hi,fun w0 h0 _=>h0.trans hx⟩
theorem kal {W:World} {a b:Addr} {u v:Value} (h:a.block ≠ b.block):(W.setCell a u).setCell b v=(W.setCell b v).setCell a u:=by
 unfold World.setCell
 congr 1
 refine Array.ext (by simp) fun i h1 h2=>?_
 simp only [Array.getElem_modify]
 by_cases e1:a.block=i <;> by_cases e2:b.block=i
 · omega
 · simp [e1,e2]
 · simp [e1,e2]
 · simp [e1,e2]
theorem uh.pos {base:Nat} {q:Nat->Prop} {W:World} {v:Value} {l:List Pl} (h:uh base q W v l) (hl:0 < l.length):∃ g c,v=.slice (some ⟨g,0,none⟩) l.length c/\l.length<=c/\c<=9223372036854775807/\base<=g/\g < W.heap.size/\∀ i,W.frozen? ⟨g,i,none⟩=false:=by
 obtain ⟨rs,rfl,h2,-⟩:=h;rw [List.length_map] at hl ⊢;exact h2.pos hl
theorem uh.obj {base:Nat} {q:Nat->Prop} {W:World} {v:Value} {l:List Pl} (h:uh base q W v l) {R:Nat} (hR:v.ownBlock=some R):∃ cur T fr,W.heap[R]?=some (.cells cur T fr):=by
 obtain ⟨rs,-,h2,-⟩:=h;exact vao h2.1 R hR
theorem xb5 {T base g c : Nat} {acc : List Pl} {P : Pl} {w wr w4 w5 Wf : World} {fv : Value} {A0 A1 : Option Addr} {n0 c0 n1 c1 : Nat} (ML : FS T base w acc) (hx : Ext w wr) (Dk : wr.heap[T]? = some (.cells #[fv] 24 (0, 0))) (hq : uh base (fun b => b ≠ T) wr fv acc) (kQ : wr.grownBy w4 fv.ownBlock) (iy : ∀ v ds, jd wr v ds -> jd w4 v ds)
 (aZ:uh base (fun b=>b ≠ T) w4 (.slice (some ⟨g,0,none⟩) (acc ++ [Pl.zero]).length c) (acc ++ [Pl.zero])) (lm:some g=fv.ownBlock\/wr.heap.size<=g) (hp:PlV w4 (fun b=>b ≠ g/\b ≠ T) P (plV P (.slice A0 n0 c0) (.slice A1 n1 c1)))
 (h5:((((w4.setCell ⟨g,acc.length * 4,none⟩ (.int .i64 P.lv)).setCell ⟨g,acc.length * 4+1,none⟩ (.bool P.neg)).setCell ⟨g,acc.length * 4+2,none⟩ (.slice A0 n0 c0)).setCell ⟨g,acc.length * 4+3,none⟩ (.slice A1 n1 c1))=w5) (hf:w5.setCell ⟨T,0,none⟩ (.slice (some ⟨g,0,none⟩) (acc ++ [Pl.zero]).length c)=Wf):ya5 T base (acc ++ [P]) w Wf:=by
 have af:acc.length < (acc ++ [Pl.zero]).length:=by simp
 have aU:=aZ.set_ acc.length af P hp;rw [h5] at aU;have hl:(acc ++ [Pl.zero]).set acc.length P=acc ++ [P]:=by rw [List.set_append_right _ _ (Nat.le_refl _),Nat.sub_self]; rfl
 rw [hl] at aU;obtain ⟨hs,BZ⟩:=aU;have Df:=aZ.own (R:=g) rfl;obtain ⟨hTb,hbw,fw,jB,-⟩:=id ML;have hTw:T < w.heap.size:=by omega
 have e0:fw=fv:=by
  have:=(hx.below.block T hTw).trans jB;rw [Dk] at this;simp at this;exact this.symm
 subst e0;have hTg:T ≠ g:=by omega
 have hTo:fw.ownBlock ≠ some T:=fun e=>by have:=(hq.own e).1; omega
 have hFo:∀ b,fw.ownBlock=some b->jad T w b:=fun b e=>⟨fw,box1 jB,e⟩
 have b5:∀ k,k ≠ g->w5.heap[k]?=w4.heap[k]?:=fun k hk=>by rw [<- h5,Below.heap_setCell _ _ _ k hk,Below.heap_setCell _ _ _ k hk,Below.heap_setCell _ _ _ k hk,Below.heap_setCell _ _ _ k hk]
 have b4:∀ k,k < wr.heap.size->fw.ownBlock ≠ some k->w4.heap[k]?=wr.heap[k]?:=fun k hk hn=>World.grownBy.block kQ k hk (fun e=>hn e.symm)
 have bf:∀ k,k ≠ T->Wf.heap[k]?=w5.heap[k]?:=fun k hk=>by rw [<- hf]; exact Below.heap_setCell _ _ _ k hk
 have s5:w5.heap.size=w4.heap.size:=by rw [<- h5]; simp [World.setCell]
 have sf:Wf.heap.size=w5.heap.size:=by rw [<- hf]; simp [World.setCell]
 have sx:=hx.size;have s4:=kQ.size;have hT5:w5.heap[T]?=some (.cells #[fw] 24 (0,0)):=(b5 T hTg).trans ((b4 T (by omega) hTo).trans Dk);have hTf:Wf.heap[T]?=some (.cells #[.slice (some ⟨g,0,none⟩) (acc ++ [Pl.zero]).length c] 24 (0,0)):=by rw [<- hf]; exact Boxed.set _ hT5
 have jX:jq fw=false:=by obtain ⟨A,c,rfl,-⟩:=hq.len; rfl
 have nf:∀ v ds,jd w5 v ds->jd Wf v ds:=fun v ds hv=>by rw [<- hf]; exact hv.box (box1 hT5) jX _
 have nP:∀ b,jad T Wf b->b=g:=fun b ⟨v,hv,e⟩=>by
  rw [box1 hTf] at hv;injection hv with hv
  subst hv;injection e with e; exact e.symm
 have FP:∀ i,i < w.heap.size->¬ jad T w i->i ≠ g:=fun i hi hn e=>by
  rcases lm with h | h
  · exact hn (hFo i (by rw [e]; exact h.symm))
  · omega
 have Ri:uh base (fun b=>b ≠ T) Wf (.slice (some ⟨g,0,none⟩) (acc ++ [Pl.zero]).length c) (acc ++ [P]):=
  hs.frr ⟨by omega,nf,fun b _ hb=>bf b hb⟩ (fun e=>by injection e with e; exact hTg e.symm) (fun b hb=>hb)
 refine ⟨⟨hTb,by omega,_,hTf,Ri⟩,⟨by omega,fun i o hiT hn hi _=>?_,fun i hi e=>?_,fun _ b e=>?_,fun v ds hv=>nf _ _ (BZ _ _ (iy _ _ (hv.ext hx)))⟩,fun i o hi ho=>?_,fun w0 h0 h0T=>?_⟩
 · have bQ:=lt_of_some hi;exact (bf i hiT).trans ((b5 i (FP i bQ hn)).trans ((b4 i (by omega) (fun e=>hn (hFo i e))).trans ((hx.below.block i bQ).trans hi)))
 · have e1:=nP i e;rcases lm with h | h
   · exact hFo i (by rw [e1]; exact h.symm)
   · omega
 · have e1:=nP b e;omega
 · have bQ:=lt_of_some hi;have h1:=(hx.below.block i bQ).trans hi;have n1:fw.ownBlock ≠ some i:=fun e=>by
    obtain ⟨cur,t,fr,hc⟩:=hq.obj e;rw [h1] at hc; injection hc with hc; rw [hc] at ho; cases ho
   have h2:=(b4 i (by omega) n1).trans h1;have n2:i ≠ g:=fun e=>by
    obtain ⟨cur,t,fr,hc⟩:=aZ.obj (R:=g) rfl;rw [e,hc] at h2; injection h2 with h2; rw [<- h2] at ho; cases ho
   have n3:i ≠ T:=fun e=>by
    rw [e,jB] at hi; injection hi with hi; rw [<- hi] at ho; cases ho
   exact (bf i n3).trans ((b5 i n2).trans h2)
 · have Hy:=h0.size;have h1:Ext w0 w4:=Below.grown (h0.trans hx).below kQ (by omega) (fun k e=>by have:=(hq.own e).1; omega);have FO:w0.heap.size<=g:=by omega
   rw [<- hf,<- h5];exact ((((h1.setCell FO _).setCell FO _).setCell FO _).setCell FO _).setCell h0T _
theorem vco {w:World} {T base E D:Nat} {q:Nat->Prop} {acc:List Pl} {p:Pl} (v:Value) (h0:PlV w q p v) (hp:Fit p E D) (hE:E<=170) (hD:D<=1099511627776) (ML:FS T base w acc) (iU:∀ c ∈ acc,Fit c E D) (hn:acc.length<=100000) :
 Calls Tryz.prog 67 #[v,.pointer (some ⟨T,0,none⟩)] w fun e w'=>(∃ r,e=.returned r)/\ya5 T base (putL acc p) w w':=by
 have H0:=hid h0;obtain ⟨A0,m0,e0,B0,f0,rfl,-⟩:=h0.open_;obtain ⟨W,fU,fD,aC,aV⟩:=b_1 w p (.slice A0 m0 e0) (.slice B0 p.cs.length f0);have HX:=hid aC;have dC:=hid aV;have eQ:W.heap.size=w.heap.size+1:=fD;clear h0 aC aV;have Aw:=hid ML;have amT:=hid iU;have HC:=hid (fun (W':World) (hx:Ext w W')=>ka4 p _ (H0.out.ext hx) (hp.small hE) (by have:=hp.dm; omega) (by rw [Pl.nf_of_can hp.can]; exact hp) (by omega));rw [Pl.nf_of_can hp.can] at HC;have HS:=hid (fun (W':World) (hx:Ext w W')=>zby _ (H0.out.ext hx) hp hE hD);have kG:=jak hp;have Jq:=hid (fun (W':World) (q' q'':Nat->Prop) (u u':Value) (c:Pl) (hc:c ∈ acc) (h1:PlV W' q' (snP p) u) (h2:PlV W' q'' c u')=>xa3 u u' h1 h2 (kG.small hE) (by have:=kG.dm; omega) ((iU c hc).small hE) (by have:=(iU c hc).dm; omega) (by rw [Pl.nf_of_can kG.can]; exact kG) hE);have o7:Hid (∀ i,W.frozen? ⟨w.heap.size,i,none⟩=false):=hid (by rw [<- fU]; intro i; simp [go_sem]);have yM:=hid (And.intro kG.can fun c hc=>(iU c hc).can);obtain ⟨b0,b1,b2,b3⟩:=dC.out;unfold plV at HC HS ⊢;clear hp ML iU fD;go_enter Tryz.func67,Tryz.ntmps67;go_wp2_with fail;clear b0 b1 b2 b3;refine (HC.out _ HX.out).mono ?_;rintro e w1 ⟨x1,rfl,i1,y1⟩;obtain ⟨bx,Bx,nx,cx,rfl⟩:=i1.unpack;obtain ⟨W1,aT⟩:=n_m ((w1.alloc (.cells #[.bool bx,.slice Bx nx cx] 33)));have qM:Ext W W1:=by rw [<- aT]; exact y1.alloc _
 have qY:=hid qM;obtain ⟨b0,b1,b2,b3⟩:=dC.out.ext qM (by omega);clear i1 y1 HC qM
 by_cases cZ:p.lv=0
 · have HF:Hid (ya5 T base (putL acc p) w W1):=hid (by unfold putL; rw [if_pos cZ]; exact ya5.of_ext Aw.out (HX.out.trans qY.out));have nH:decide (p.lv=0)=true:=by simpa using cZ
   clear cZ;go_wp2_with fail;exact bodyPost_ret (v:=.tuple #[]) (by simp [results,Tryz.results67,go_sem]) rfl ⟨⟨_,rfl⟩,HF.out⟩
 · have nH:decide (p.lv=0)=false:=by simpa using cZ
   have qI:Hid (putL acc p=if acc.any (oP (snP p))=true then acc else acc ++ [snP p]):=hid (by unfold putL; rw [if_neg cZ]);have HSN:=hid (HS.out W1 (HX.out.trans qY.out));clear cZ HS;go_wp2_with fail;clear aT b0 b1 b2 b3 fU;refine HSN.out.mono ?_;rintro e w2 ⟨v2,rfl,p2,x2⟩;obtain ⟨C0,j0,k0,C1,j1,rfl,-⟩:=id p2.open_;obtain ⟨P,hP⟩:=n_m (snP p);rw [hP] at p2 Jq qI yM ⊢;have hbW:PBx W (fun b=>b < w.heap.size) w.heap.size p:=⟨by omega,o7.out,A0,m0,e0,B0,f0,dC.out,(H0.out.below_.ext HX.out).mono fun b hb=>⟨hb.2,by have:=hb.2; omega⟩⟩;have dA:=(hbW.ext qY.out).ext x2;obtain ⟨-,hbf,Z0,zn,zc,Z1,uT,⟨g0,g1,g2,g3⟩,-⟩:=id dA;obtain ⟨V,hV⟩:=n_m (((((w2.setCell ⟨w.heap.size,0,none⟩ (.int .i64 P.lv)).setCell ⟨w.heap.size,1,none⟩ (.bool P.neg)).setCell ⟨w.heap.size,2,none⟩ (.slice C0 j0 k0)).setCell ⟨w.heap.size,3,none⟩ (.slice C1 P.cs.length j1)));have dM:Ext w V:=by rw [<- hV]; exact (((((HX.out.trans qY.out).trans x2).setCell (Nat.le_refl _) _).setCell (Nat.le_refl _) _).setCell (Nat.le_refl _) _).setCell (Nat.le_refl _) _
   have bU:=qY.out.size;have O5:PBx V (fun b=>w.heap.size < b) w.heap.size P:=by rw [<- hV]; exact dA.store (p2.mono fun b hb=>⟨by omega,by omega⟩)
   have Ae:=hid dM;have JG:=hid O5;obtain ⟨hTb,hbs,fv,Dk,EC⟩:=Aw.out.ext dM;obtain ⟨F0,fc,rfl,jM,lK⟩:=EC.len;have hT0:=box1 Dk;have HQ:=hid EC;have hbw:base<=w.heap.size:=Aw.out.2.1;obtain ⟨n0,fE⟩:=n_m (acc.length);have jZ:=hid fE;have EN:=hid Dk;clear hbW dA dM O5 x2 hP HSN EC Dk;unfold plV;go_wp2_with fail;clear g0 g1 g2 g3 hbf hV hT0;rw [jZ.out] at jM
   go_loopw [17] (fun iv wr=>∃ k:Nat,k<=n0/\iv=.int .i64 k/\Hid ((∀ c ∈ acc.take k,c ≠ P)/\Ext V wr)) (fun iv _=>n0 - (intOf iv).toNat)
   case atStart=>exact ⟨0,Nat.zero_le _,rfl,hid ⟨by simp,Ext.refl V⟩⟩
   case round =>
    obtain ⟨k,hk,rfl,HI⟩:=hrel;obtain ⟨ak,hx⟩:=HI.out;obtain ⟨-,-,wR,uV,k0',uS,j1',⟨b0,b1,b2,b3⟩,Fp⟩:=JG.out.ext hx
    by_cases af:k < n0
    · have bQ:k < acc.length:=by rw [jZ.out]; exact af
      have aO:=(HQ.out.ext hx).at_;obtain ⟨ad,G0,i0,h0,G1,i1,h1,rfl,ah,⟨g0,g1,g2,g3⟩,dD⟩:=aO.kid k bQ;have Jp:=hid hx;have wM:=hid ak;obtain ⟨U,hU⟩:=n_m ((wr.alloc (.cells #[.int .i64 acc[k].lv,.bool acc[k].neg,.slice G0 i0 h0,.slice G1 i1 h1] 35)));have hxU:Ext wr U:=by rw [<- hU]; exact (Ext.refl wr).alloc _
      obtain ⟨s0,s1,s2,s3⟩:jb U wr.heap.size acc[k] (.slice G0 i0 h0) (.slice G1 i1 h1):=by rw [<- hU]; exact jb.new wr acc[k] _ _ _
      have FP:w.heap.size < wr.heap.size:=Nat.lt_of_lt_of_le JG.out.1 hx.size;obtain ⟨y0,y1,y2,y3⟩:jb U w.heap.size P (.slice wR uV k0') (.slice uS P.cs.length j1'):=(show jb wr w.heap.size P _ _ from ⟨b0,b1,b2,b3⟩).ext hxU FP;have hsm:=Jq.out U _ _ _ _ acc[k] (List.getElem_mem bQ) (Fp.ext hxU) (dD.ext hxU);rw [Pl.nf_of_can yM.out.1,Pl.nf_of_can (yM.out.2 acc[k] (List.getElem_mem bQ))] at hsm;have uO:=hid (hx.trans hxU);have wP:=hid (List.getElem_mem bQ);have oz:Hid (∀ c ∈ acc.take (k+1),c ∈ acc.take k\/c=acc[k]):=hid (fun c hc=>by
       rw [List.take_succ_eq_append_getElem bQ,List.mem_append,List.mem_singleton] at hc; exact hc)
      generalize acc[k]=ck at *;unfold plV at hsm;clear ak hx Fp aO ah dD hxU HI
      by_cases he:P=ck
      · rw [xai he] at hsm;have HF:Hid (∀ w',Ext U w'->ya5 T base (putL acc p) w w'):=hid (fun w' hx=>by
         rw [qI.out,if_pos (List.any_eq_true.2 ⟨ck,wP.out,xai he⟩)]
         exact ya5.of_ext Aw.out (Ae.out.trans (uO.out.trans hx)))
        clear he;go_wp2_with fail;clear b0 b1 b2 b3 g0 g1 g2 g3 s0 s1 s2 s3 y0 y1 y2 y3 hU;refine hsm.mono ?_;rintro e w5 ⟨rfl,x5⟩;have Az:=hid (HF.out _ x5);clear x5 hsm;go_wp2_with fail;exact bodyPost_ret (v:=.tuple #[]) (by simp [results,Tryz.results67,go_sem]) rfl ⟨⟨_,rfl⟩,Az.out⟩
      · rw [kam he] at hsm;have aeb:Hid (∀ c ∈ acc.take (k+1),c ≠ P):=hid (fun c hc=>by
         rcases oz.out c hc with h | h
         · exact wM.out c h
         · rw [h]; exact fun e=>he e.symm)
        clear he;go_wp2_with fail;clear b0 b1 b2 b3 g0 g1 g2 g3 s0 s1 s2 s3 y0 y1 y2 y3 hU;refine hsm.mono ?_;rintro e w5 ⟨rfl,x5⟩;have DK:=hid (uO.out.trans x5);clear x5 hsm;go_wp2_with fail
        go_roundw
        case rel=>exact ⟨k+1,by omega,by go_num,aeb.out,DK.out⟩
        case measure=>simp [intOf]; omega
    · obtain rfl:k=n0:=by omega
      have Ip:acc.any (oP P)=false:=by
       rw [<- Bool.not_eq_true];intro h;obtain ⟨c,hc,he⟩:=List.any_eq_true.1 h;refine ak c ?_ (gaw.1 he).symm;rw [show k=acc.length from jZ.out.symm,List.take_length]; exact hc
      rw [Ip,if_neg (by simp)] at qI;obtain ⟨D,hD⟩:=n_m (wr.drew);have AV:Ext V D:=by rw [<- hD]; exact hx.drew
      have JV:Ext wr D:=by rw [<- hD]; exact (Ext.refl wr).drew
      have XO:=HQ.out.ext AV;have TR:=JG.out.1;have hgD:w.heap.size < D.heap.size:=Nat.lt_of_lt_of_le TR AV.size;have Jb:=(AV.below.block T (by omega)).trans EN.out;obtain ⟨v4,w4,aH,kQ,iy,aZ,lm⟩:=XO.push (x:=Pl.zero) (A0:=none) (n0:=0) (c0:=0) (A1:=none) (n1:=0) (c1:=0) (by omega) (Pl.zero_v _ _ none 0 (by omega)) (by rw [jZ.out]; omega) 24;obtain ⟨g,c4,rfl,ab5,ab4,IL,Bf,Ld⟩:=aZ.pos (by simp);have kP:(acc ++ [Pl.zero]).length=k+1:=by rw [List.length_append,jZ.out]; rfl
      have IM:¬ g=T:=by omega
      have MB:w4.heap[T]?=D.heap[T]?:=World.grownBy.block kQ T (by omega) (fun e=>by have:=(XO.own e.symm).1; omega);have UA:w4.heap[w.heap.size]?=D.heap[w.heap.size]?:=World.grownBy.block kQ _ hgD (fun e=>by
       have:=Aw.out.fresh w.heap.size ⟨_,(by
        have h1:=(Ae.out.trans AV).below.block T (by omega);rw [Jb] at h1
        exact box1 h1.symm),e.symm⟩
       omega)
      have hT4:w4.cell? ⟨T,0,none⟩=some (.slice F0 acc.length fc):=by rw [World.cell?_of_block (a:=⟨T,0,none⟩) MB]; exact box1 Jb
      have acr:∀ i,w4.frozen? ⟨T,i,none⟩=false:=fun i=>by rw [World.frozen?_of_block (a:=⟨T,i,none⟩) MB]; simp [World.frozen?,Jb]
      obtain ⟨uN,Z0',zn',zc',Z1',aiJ,aiK,e4,-,⟨q0,q1,q2,q3⟩,-⟩:=aZ.at_.kid k (by rw [kP]; omega);injection e4 with e4
      subst e4;rw [kw,Nat.zero_add] at q0 q1 q2 q3;simp only at q1 q2 q3;have QN:¬ w.heap.size=g:=fun e=>by
       rcases lm with h | h
       · have:=Aw.out.fresh g ⟨_,(by
          have h1:=(Ae.out.trans AV).below.block T (by omega);rw [Jb] at h1
          exact box1 h1.symm),h.symm⟩
         omega
       · injection h with h; (try dsimp only at h); omega
      have hpD:PlV w4 (fun b=>b ≠ g/\b ≠ T) P (plV P (.slice wR uV k0') (.slice uS P.cs.length j1')):=by
       refine PlV.turn_ kQ.size iy (fun b hb hq=>?_) ((Fp.below_.ext JV));have aX:=hq.1.1;have dA:=hq.2;have XZ:(Value.slice F0 acc.length fc).ownBlock ≠ some b:=fun e=>by
        have:=Aw.out.fresh b ⟨_,(by
         have h1:=(Ae.out.trans AV).below.block T (by omega);rw [Jb] at h1
         exact box1 h1.symm),e⟩
        omega
       refine ⟨⟨fun e=>?_,by omega⟩,World.grownBy.block kQ b hb (fun e=>XZ e.symm)⟩;rcases lm with h | h
       · exact XZ (by rw [<- h,e]; rfl)
       · injection h with h; (try dsimp only at h); have:=JV.size; omega
      have aS:=fun (w5 Wf:World)=>xb5 (w5:=w5) (Wf:=Wf) Aw.out (Ae.out.trans AV) Jb XO kQ iy aZ (by rcases lm with h | h; exact Or.inl h; injection h with h; exact Or.inr (by (try dsimp only at h); omega)) hpD
      rw [<- qI.out,jZ.out,kP] at aS;have bV:=hid aS;have t0:D.cell? ⟨T,0,none⟩=some (.slice F0 acc.length fc):=box1 Jb;obtain ⟨d0,d1,d2,d3⟩:=(show jb wr w.heap.size P (.slice wR uV k0') (.slice uS P.cs.length j1') from ⟨b0,b1,b2,b3⟩).ext JV (Nat.lt_of_lt_of_le TR hx.size);have Vz:∀ i,w4.cell? ⟨w.heap.size,i,none⟩=D.cell? ⟨w.heap.size,i,none⟩:=fun i=>World.cell?_of_block (a:=⟨w.heap.size,i,none⟩) UA
      obtain ⟨EI,f1',f2',f3'⟩:jb w4 w.heap.size P (.slice wR uV k0') (.slice uS P.cs.length j1'):=⟨(Vz 0).trans d0,(Vz 1).trans d1,(Vz 2).trans d2,(Vz 3).trans d3⟩;clear aS hpD kQ iy aZ lm XO MB UA Vz Jb Fp ak Ip HI ab5 ab4;rw [kP] at aH;go_upto_region 9 with fail;have hS0:jb D (w.heap.size) P (.slice wR uV k0') (.slice uS P.cs.length j1'):=⟨d0,d1,d2,d3⟩;have Ci:(Builtin.append_ #[24,24] 24 #[.slice F0 k fc,.slice (some ⟨D.heap.size,0,none⟩) 1 1]).run Tryz.prog (D.alloc (.cells #[.int .i64 0,.bool false,.slice none 0 0,.slice none 0 0] 35))=.ok (.slice (some ⟨g,0,none⟩) (k+1) c4) w4:=by rw [jZ.out] at aH; exact aH
      have Yw:=(show jb D w.heap.size P (.slice wR uV k0') (.slice uS P.cs.length j1') from hS0).ext ((Ext.refl D).alloc (.cells #[.int .i64 0,.bool false,.slice none 0 0,.slice none 0 0] 35)) hgD;obtain ⟨DA,Vp⟩:=n_m (D.alloc (.cells #[.int .i64 0,.bool false,.slice none 0 0,.slice none 0 0] 35));rw [Vp] at Ci Yw;have tA:DA.cell? ⟨T,0,none⟩=some (.slice F0 acc.length fc):=by
       have QI:Ext D DA:=by rw [<- Vp]; exact (Ext.refl D).alloc _
       exact (QI.cell (p:=⟨T,0,none⟩) (by show T < _; omega)).trans t0
      clear aH;refine wp_region_held_drew (S:=fun W'=>jb W' (w.heap.size) P (.slice wR uV k0') (.slice uS P.cs.length j1')) (by kernel_rfl) (by rw [hD]; exact hS0) (fun hHeld=>?_);rw [hD];rw [hD] at hHeld;clear hD;refine tk 1 ?_ (hy:=Or.inl ⟨by rfl,by intro w' aK; obtain ⟨k0,k1,k2,k3⟩:=aK; go_simp; (try (with_reducible rfl))⟩);refine r_2 0 3 (fun K hK=>?brA) fun K hK=>?brB
      case' brA =>
       go_simp;refine k_t hK hS0 fun hHeld=>?_
       clear hK K;refine tk 2 ?_;refine r_1 3 fun K hK=>?_
       go_simp
       (try rw [Vp])
       refine k_t hK Yw fun hHeld=>?_
       clear hK K
      case' brB =>
       go_simp
       (try rw [Vp])
       refine k_t hK Yw fun hHeld=>?_
       clear hK K;refine r_1 0 fun K hK=>?_
       go_simp;refine k_t hK Yw fun hHeld=>?_
       clear hK K;refine tk 2 ?_
      all_goals
       clear Vp tA;have hkk:(k:Int) < (k:Int)+1:=by omega
       refine r_1 4 fun K hK=>?_
       refine vah rfl (.tmp 25) (.tmp 28) 24 24 rfl _ _ _ _ (by simp [Act.eval,Act.put]) (by simp [Act.eval,Act.put]) Ci ?_;refine k_t hK ⟨EI,f1',f2',f3'⟩ fun hHeld=>?_
       clear hK K Ci;refine tk 5 ?_;have U6:¬ T=w.heap.size:=by omega
       refine r_2 6 7 (fun K hK=>?_) fun K hK=>?_
       · go_simp;clear q0 q1 q2 q3;refine xu (P:=fun V=>((((w4.setCell ⟨g,k * 4,none⟩ (.int .i64 P.lv)).setCell ⟨g,k * 4+1,none⟩ (.bool P.neg)).setCell ⟨g,k * 4+2,none⟩ (.slice wR uV k0')).setCell ⟨g,k * 4+3,none⟩ (.slice uS P.cs.length j1'))=V) rfl (fun V5 Md=>?_);have b5:∀ b,b ≠ g->V5.heap[b]?=w4.heap[b]?:=fun b hb=>by rw [<- Md,Below.heap_setCell _ _ _ b hb,Below.heap_setCell _ _ _ b hb,Below.heap_setCell _ _ _ b hb,Below.heap_setCell _ _ _ b hb]
         have x0:∀ i,V5.cell? ⟨w.heap.size,i,none⟩=w4.cell? ⟨w.heap.size,i,none⟩:=fun i=>World.cell?_of_block (a:=⟨w.heap.size,i,none⟩) (b5 _ QN)
         have z0:V5.cell? ⟨T,0,none⟩=some (.slice F0 acc.length fc):=(World.cell?_of_block (a:=⟨T,0,none⟩) (b5 _ (fun e=>IM e.symm))).trans hT4;have z1:∀ i,V5.frozen? ⟨T,i,none⟩=false:=fun i=>(World.frozen?_of_block (a:=⟨T,i,none⟩) (b5 _ (fun e=>IM e.symm))).trans (acr i)
         have zV:jb V5 (w.heap.size) P (.slice wR uV k0') (.slice uS P.cs.length j1'):=⟨(x0 0).trans EI,(x0 1).trans f1',(x0 2).trans f2',(x0 3).trans f3'⟩;have Dz:=bV.out V5 _ Md rfl;refine k_t hK zV fun hHeld=>?_
         clear hK K b5 x0 Md;refine r_1 7 fun K hK=>?_
         go_simp;refine xu (P:=fun V=>V5.setCell ⟨T,0,none⟩ (.slice (some ⟨g,0,none⟩) (k+1) c4)=V) rfl (fun V6 zS=>?_);rw [zS] at Dz;have x6:∀ i,V6.cell? ⟨w.heap.size,i,none⟩=V5.cell? ⟨w.heap.size,i,none⟩:=fun i=>World.cell?_of_block (a:=⟨w.heap.size,i,none⟩) (by rw [<- zS]; exact Below.heap_setCell _ _ _ _ (fun e=>U6 e.symm))
         refine k_t hK ⟨(x6 0).trans zV.1,(x6 1).trans zV.2.1,(x6 2).trans zV.2.2.1,(x6 3).trans zV.2.2.2⟩ fun hHeld=>?_
         clear hK K;refine w_d ?_;have HF6:=hid Dz;clear Dz zS x6 z0 z1 zV;go_wp2_with fail
         go_end0
         exact ⟨⟨_,rfl⟩,HF6.out⟩
       · go_simp;refine xu (P:=fun V=>w4.setCell ⟨T,0,none⟩ (.slice (some ⟨g,0,none⟩) (k+1) c4)=V) rfl (fun V5 Md=>?_);have b5:∀ b,b ≠ T->V5.heap[b]?=w4.heap[b]?:=fun b hb=>by rw [<- Md,Below.heap_setCell _ _ _ b hb]
         have x0:∀ i,V5.cell? ⟨w.heap.size,i,none⟩=w4.cell? ⟨w.heap.size,i,none⟩:=fun i=>World.cell?_of_block (a:=⟨w.heap.size,i,none⟩) (b5 _ (fun e=>U6 e.symm))
         have z0:∀ i,V5.cell? ⟨g,i,none⟩=w4.cell? ⟨g,i,none⟩:=fun i=>World.cell?_of_block (a:=⟨g,i,none⟩) (b5 _ IM)
         have z1:∀ i,V5.frozen? ⟨g,i,none⟩=false:=fun i=>(World.frozen?_of_block (a:=⟨g,i,none⟩) (b5 _ IM)).trans (Ld i)
         rw [<- z0] at q0 q1 q2 q3;have zV:jb V5 (w.heap.size) P (.slice wR uV k0') (.slice uS P.cs.length j1'):=⟨(x0 0).trans EI,(x0 1).trans f1',(x0 2).trans f2',(x0 3).trans f3'⟩;have Dz:=bV.out _ _ rfl rfl;have iT:((((w4.setCell ⟨g,k * 4,none⟩ (.int .i64 P.lv)).setCell ⟨g,k * 4+1,none⟩ (.bool P.neg)).setCell ⟨g,k * 4+2,none⟩ (.slice wR uV k0')).setCell ⟨g,k * 4+3,none⟩ (.slice uS P.cs.length j1')).setCell ⟨T,0,none⟩ (.slice (some ⟨g,0,none⟩) (k+1) c4)=((((V5.setCell ⟨g,k * 4,none⟩ (.int .i64 P.lv)).setCell ⟨g,k * 4+1,none⟩ (.bool P.neg)).setCell ⟨g,k * 4+2,none⟩ (.slice wR uV k0')).setCell ⟨g,k * 4+3,none⟩ (.slice uS P.cs.length j1')):=by
          rw [<- Md,kal (by exact IM),kal (b:=⟨T,0,none⟩) (a:=⟨g,k * 4+2,none⟩) (by exact IM),kal (b:=⟨T,0,none⟩) (a:=⟨g,k * 4+1,none⟩) (by exact IM),kal (b:=⟨T,0,none⟩) (a:=⟨g,k * 4,none⟩) (by exact IM)]
         rw [iT] at Dz;refine k_t hK zV fun hHeld=>?_
         clear hK K b5 x0 Md z0 iT;refine r_1 6 fun K hK=>?_
         go_simp;clear q0 q1 q2 q3;refine xu (P:=fun V=>((((V5.setCell ⟨g,k * 4,none⟩ (.int .i64 P.lv)).setCell ⟨g,k * 4+1,none⟩ (.bool P.neg)).setCell ⟨g,k * 4+2,none⟩ (.slice wR uV k0')).setCell ⟨g,k * 4+3,none⟩ (.slice uS P.cs.length j1'))=V) rfl (fun V6 zS=>?_);rw [zS] at Dz;have x6:∀ i,V6.cell? ⟨w.heap.size,i,none⟩=V5.cell? ⟨w.heap.size,i,none⟩:=fun i=>World.cell?_of_block (a:=⟨w.heap.size,i,none⟩) (by rw [<- zS,Below.heap_setCell _ _ _ _ QN,Below.heap_setCell _ _ _ _ QN,Below.heap_setCell _ _ _ _ QN,Below.heap_setCell _ _ _ _ QN])
         refine k_t hK ⟨(x6 0).trans zV.1,(x6 1).trans zV.2.1,(x6 2).trans zV.2.2.1,(x6 3).trans zV.2.2.2⟩ fun hHeld=>?_
         clear hK K;refine w_d ?_;have HF6:=hid Dz;clear Dz zS x6 z1 zV;go_wp2_with fail
         go_end0
         exact ⟨⟨_,rfl⟩,HF6.out⟩
open Go.Shelf
attribute [local go_sem] Oper.semAt_some
theorem wb1 {P:Program} {w:World} {a:Addr} {m:Mode} (fn:Fn) (first captured:Array Value):(store a (.func fn first captured) m).run P w=stored P w a (.func fn first captured) m:=run_store P w a _ m rfl
attribute [local go_sem] wb1
theorem PlV.kept {W W':World} {row:Option Nat} {q:Nat->Prop} {p:Pl} {v:Value} (h:PlV W q p v) (hg:W.grownBy W' row) (hr:∀ r,row=some r->∃ o:Obj,W.heap[r]?=some o/\o.isCells=false):PlV W' q p v:=
 PlV.turnC hg.size (fun v ds hv=>kaq hg hr hv) (fun a v hp hv=>⟨hp,by
  obtain ⟨o,ho,hc⟩:=cells_of_cell hv;obtain ⟨c,t,f,rfl⟩:∃ c t f,o=.cells c t f:=by cases o <;> simp_all [Obj.isCells]
  exact (World.cell?_of_block ((cells_kept hg hr ho).trans ho.symm)).trans hv⟩) _ _ h
theorem qa3 {M acc:List Pl} {k:Nat} (hk:k < M.length):putA acc (M.take (k+1))=putL (putA acc (M.take k)) M[k]:=by
 unfold putA;rw [List.take_succ_eq_append_getElem hk,List.foldl_append]; rfl
theorem zas : ∀ (M acc : List Pl), ∀ c ∈ putA acc M, c ∈ acc \/ ∃ p ∈ M, c = snP p
 | [],acc,c,h=>.inl h
 | p :: M,acc,c,h=>by
   have h':c ∈ putA (putL acc p) M:=h;rcases zas M _ c h' with h1 | ⟨x,hx,e⟩
   · unfold putL at h1
     split at h1
     · exact .inl h1
     · split at h1
       · exact .inl h1
       · rw [List.mem_append,List.mem_singleton] at h1;rcases h1 with h1 | h1
         · exact .inl h1
         · exact .inr ⟨p,List.mem_cons_self,h1⟩
   · exact .inr ⟨x,List.mem_cons_of_mem _ hx,e⟩
theorem xan : ∀ (M acc : List Pl), (putA acc M).length <= acc.length + M.length
 | [],acc=>by simp [putA]
 | p :: M,acc=>by
   have h:=xan M (putL acc p);have h2:(putL acc p).length<=acc.length+1:=by unfold putL; split <;> (try split) <;> simp
   show (putA (putL acc p) M).length<=_;simp only [List.length_cons]; omega
theorem qbs {w:World} {D0:Option Addr} {n c0:Nat} {l:Int} :
 Calls Tryz.prog 70 #[.slice D0 n c0,.int .i64 l] w fun e w'=>e=.returned (.func (.func 96) #[] #[.pointer (some ⟨w.heap.size,0,none⟩),.pointer (some ⟨w.heap.size+1,0,none⟩)])/\w'.cell? ⟨w.heap.size,0,none⟩=some (.slice D0 n c0)/\w'.cell? ⟨w.heap.size+1,0,none⟩=some (.int .i64 l)/\w'.heap.size=w.heap.size+2/\Ext w w':=by
 have HF:Hid (Ext w ((w.alloc (.cells #[.slice D0 n c0] 24)).alloc (.cells #[.int .i64 l] 3))):=hid (((Ext.refl w).alloc _).alloc _);go_enter Tryz.func70,Tryz.ntmps70;go_wp2_with fail;go_ret;exact ⟨rfl,by simp [go_sem],by simp [go_sem],by simp,HF.out⟩
theorem ubo {w:World} {E D E2 D2 c0:Nat} {q:Nat->Prop} {D0:Option Addr} {l:Int} {fs:List Pl} (hl:1<=l) (ag:l<=4) (aO:jc w q fs D0 0) (dh:fs.length<=c0) (eX:c0<=9223372036854775807) (vV:fs.length<=1000) (aB:∀ f ∈ fs,Fit f E D) (hE:E<=60) (hD:D<=100000000000) (HP:Hid (vbf l fs)) (lZ:∀ p ∈ elems l fs,Fit p E2 D2) (hE2:E2<=170) (Bv:D2<=1099511627776) (kD:(elems l fs).length<=90000) :
 Calls Tryz.prog 34 #[.slice D0 fs.length c0,.int .i64 l] w (xar (fun _=>True) (fJ l fs) w):=by
 have og:∀ k:Nat,(Fence.wide.depth.isSome=true->1<=k):=fun k h=>by cases h
 obtain ⟨WN,UX⟩:=n_m (((w.alloc (.cells #[.slice none 0 0] 24)).alloc (.cells #[.nilFunc] 85)));have Hu:Ext w WN:=by rw [<- UX]; exact ((Ext.refl w).alloc _).alloc _
 have BZ:WN.heap.size=w.heap.size+2:=by rw [<- UX]; simp
 have UJ:WN.heap[w.heap.size]?=some (.cells #[.slice none 0 0] 24 (0,0)):=by
  rw [<- UX,Below.heap_alloc _ _ _ (by simp)]; exact heap_alloc_new w _
 have Gi:WN.heap[w.heap.size+1]?=some (.cells #[.nilFunc] 85 (0,0)):=by
  rw [<- UX];have:=heap_alloc_new (w.alloc (.cells #[.slice none 0 0] 24)) (.cells #[.nilFunc] 85)
  rwa [World.size_alloc] at this
 have cn:=box1 Gi;have fn:WN.frozen? ⟨w.heap.size+1,0,none⟩=false:=by simp [World.frozen?,Gi]
 obtain ⟨W1,aT⟩:=n_m (WN.setCell ⟨w.heap.size+1,0,none⟩ (.func (.func 67) #[] #[.pointer (some ⟨w.heap.size,0,none⟩)]));have hx1:Ext w W1:=by rw [<- aT]; exact Hu.setCell (by show w.heap.size<=w.heap.size+1; omega) _
 have bU:W1.heap.size=w.heap.size+2:=by rw [<- aT]; simp only [World.setCell,Array.size_modify]; exact BZ
 have O6:W1.heap[w.heap.size]?=some (.cells #[.slice none 0 0] 24 (0,0)):=by
  rw [<- aT,Below.heap_setCell _ _ _ _ (by show w.heap.size ≠ w.heap.size+1; omega)]; exact UJ
 have hbF:W1.heap[w.heap.size+1]?=some (.cells #[.func (.func 67) #[] #[.pointer (some ⟨w.heap.size,0,none⟩)]] 85 (0,0)):=by
  rw [<- aT]; exact Boxed.set _ Gi
 have WR:Hid (FS w.heap.size (w.heap.size+2) W1 []):=hid ⟨by omega,by omega,_,O6,uh.nil _ _ _⟩;have HBF:=hid hbF;have Qm:=hid O6;have qY:=hid hx1;have jQ:=hid aO;have jH:=hid aB;have JD:=hid lZ;clear hx1 O6 hbF aO aB lZ UJ Gi Hu BZ;refine (callsIn_wide (n:=5)).1 ?_;refine callsIn_of_wp_marks Tryz.func34 rfl trivial ?_ rfl;simp only [Tryz.ntmps34,List.size_toArray,List.length_cons,List.length_nil,Nat.reduceAdd,Nat.reduceSub,Array.replicate_succ,Array.replicate_zero,List.push_toArray,List.append_toArray,List.nil_append,List.cons_append]
 gi_wp2_with fail
 clear UX aT cn fn;refine ⟨trivial,?_⟩;refine (callsIn_wide.2 (qbs (w:=W1))).mono ?_;rintro e w2 ⟨rfl,cL,cV,jF,x2⟩;have X2:=hid (qY.out.trans x2);have WQ:=hid (WR.out.ext x2);have aeJ:=hid ((x2.below.block _ (by omega)).trans HBF.out);have jB:Fw w.heap.size w2:=⟨by omega,WQ.out.fresh⟩;have hT2:w2.cell? ⟨w.heap.size,0,none⟩=some (.slice none 0 0):=(x2.cell (p:=⟨w.heap.size,0,none⟩) (by show w.heap.size < _; omega)).trans (box1 Qm.out);have iZ:∀ b,b < w2.heap.size->b ≠ w.heap.size->Safe w.heap.size w2 b:=fun b hb hn=>⟨hb,hn,fun e=>by
  obtain ⟨v,hv,e'⟩:=e;rw [hT2] at hv;injection hv with hv
  subst hv
  cases e'⟩
 have DT:=hid (fun n=>xbs (T:=w.heap.size) (lo:=w2.heap.size) hl ag jB (Nat.le_refl _) (iZ W1.heap.size (by omega) (by omega)) (iZ (W1.heap.size+1) (by omega) (by omega)) cL cV dh eX ((jQ.out.below_.ext X2.out).mono fun b hb hq=>iZ b hb (by omega)) vV jH.out hE hD HP n);have HKO:=hid (fun (W:World) (l:Nat) (o o':Obj) (h1:w2.heap.size<=l) (h2:W.heap[l]?=some o) (h3:o.isCells=false)=>yg.putObj w.heap.size W l o o' (by omega) h2 h3);obtain ⟨M,hM⟩:=n_m (elems l fs);have adL:Hid (fJ l fs=putA [] M):=hid (by rw [<- hM]; rfl);rw [hM] at DT JD kD;rw [bU] at DT;clear x2 cL cV jB iZ hT2 Qm WR HBF qY hM
 gi_wp2_with fail
 refine yck (by omega) (gf := 96) (lb := #[.pointer (some ⟨w.heap.size + 2, 0, none⟩), .pointer (some ⟨w.heap.size + 2 + 1, 0, none⟩)]) rfl (enters_of Tryz.func96 (by kernel_rfl) rfl) (DT.out _) (fun A B h => h.other) yg.trans (fun W l o o' h1 h2 h3 _ => HKO.out W l o o' h1 h2 h3) (Below.refl _ _) (fun _ => rfl)
  (fun k W=>Ext w W/\w2.heap.size<=W.heap.size/\FS w.heap.size (w.heap.size+2) W (putA [] (M.take k))/\W.heap[w.heap.size+1]?=some (.cells #[.func (.func 67) #[] #[.pointer (some ⟨w.heap.size,0,none⟩)]] 85 (0,0)))
  ?ownI ?relI ?startI
  (fun k x a' W=>(∃ g A0 m0 e0 A1 e1,a'={ tmps:=#[.slice D0 fs.length c0,.int .i64 l,undef,undef,.slice none 0 0,.pointer (some ⟨w.heap.size,0,none⟩),.pointer (some ⟨w.heap.size+1,0,none⟩),.pointer (some ⟨g,0,none⟩),.func (.func 67) #[] #[.pointer (some ⟨w.heap.size,0,none⟩)],.slice D0 fs.length c0,.int .i64 l,.func (.func 96) #[] #[.pointer (some ⟨w.heap.size+2,0,none⟩),.pointer (some ⟨w.heap.size+2+1,0,none⟩)],x,undef,undef,undef,undef],defers:=[] }/\w2.heap.size<=g/\W.heap[g]?=some (.cells #[.int .i64 (M.getD k Pl.zero).lv,.bool (M.getD k Pl.zero).neg,.slice A0 m0 e0,.slice A1 (M.getD k Pl.zero).cs.length e1] 35 (0,0))/\∃ q,PlV W q (M.getD k Pl.zero) (plV (M.getD k Pl.zero) (.slice A0 m0 e0) (.slice A1 (M.getD k Pl.zero).cs.length e1)))/\Ext w W/\w2.heap.size<=W.heap.size/\FS w.heap.size (w.heap.size+2) W (putA [] (M.take k))/\W.heap[w.heap.size+1]?=some (.cells #[.func (.func 67) #[] #[.pointer (some ⟨w.heap.size,0,none⟩)]] 85 (0,0)))
  ?ownA ?assign ?body ?done
 case ownI =>
  rintro k W W' row ⟨h1,h2,h3,h4⟩ hg hr;have gI:=fun r e=>(hr r e).2
  exact ⟨Below.grown h1.below hg h1.size (fun r e=>by have:=(hr r e).1; have:=h1.size; have:=X2.out.size; omega),Nat.le_trans h2 hg.size,h3.kept hg gI,cells_kept hg gI h4⟩
 case relI =>
  rintro k A B ⟨h1,h2,h3,h4⟩ hr;have hk:=hr.keep.2;refine ⟨hr.ext h1 X2.out.size,by omega,h3.rel hr,?_⟩;obtain ⟨R,i,u,D,n,c,r1,-,-,-,-,rfl⟩:=hr;rw [Below.heap_setCell _ _ _ _ (by show w.heap.size+1 ≠ R; omega)]; exact h4
 case startI=>exact ⟨X2.out,Nat.le_refl _,WQ.out,aeJ.out⟩
 case ownA =>
  rintro k x a' s W W' row ⟨⟨g,A0,m0,e0,A1,e1,ha,nD,gJ,q,hq⟩,h1,h2,h3,h4⟩ hg hr;have gI:=fun r e=>(hr r e).2
  exact ⟨⟨g,A0,m0,e0,A1,e1,ha,nD,cells_kept hg gI gJ,q,hq.kept hg gI⟩,Below.grown h1.below hg h1.size (fun r e=>by have:=(hr r e).1; have:=h1.size; have:=X2.out.size; omega),Nat.le_trans h2 hg.size,h3.kept hg gI,cells_kept hg gI h4⟩
 case assign =>
  rintro mm lp k x W K hk ⟨h1,h2,h3,h4⟩ ⟨pI,q,hq⟩ hK;have jG:M[k]=M.getD k Pl.zero:=by rw [List.getD_eq_getElem?_getD,List.getElem?_eq_getElem pI]; rfl
  rw [jG] at hq;obtain ⟨A0,m0,e0,A1,e1,rfl,-⟩:=id hq.open_;generalize M.getD k Pl.zero=p at *;have hx1:Ext W (W.alloc (.cells #[.int .i64 p.lv,.bool p.neg,.slice A0 m0 e0,.slice A1 p.cs.length e1] 35)):=(Ext.refl W).alloc _;have HK:=hK { tmps:=#[.slice D0 fs.length c0,.int .i64 l,undef,undef,.slice none 0 0,.pointer (some ⟨w.heap.size,0,none⟩),.pointer (some ⟨w.heap.size+1,0,none⟩),.pointer (some ⟨W.heap.size,0,none⟩),.func (.func 67) #[] #[.pointer (some ⟨w.heap.size,0,none⟩)],.slice D0 fs.length c0,.int .i64 l,.func (.func 96) #[] #[.pointer (some ⟨w.heap.size+2,0,none⟩),.pointer (some ⟨w.heap.size+2+1,0,none⟩)],plV p (.slice A0 m0 e0) (.slice A1 p.cs.length e1),undef,undef,undef,undef],defers:=[] } _ (ua1 hx1) (yg.of_ext h3.lt hx1) ⟨⟨W.heap.size,A0,m0,e0,A1,e1,rfl,h2,heap_alloc_new W _,q,hq.ext hx1⟩,h1.trans hx1,Nat.le_trans h2 hx1.size,h3.ext hx1,(hx1.below.block _ (by omega)).trans h4⟩;have Zz:=hid HK;clear HK hK h1 h2 h3 h4 hx1 hq;simp only [kcy];unfold plV at Zz ⊢
  gi_wp2
  exact Zz.out
 case body =>
  rintro mm lp k x a' W hk ⟨⟨g,A0,m0,e0,A1,e1,rfl,nD,gJ,q,hq⟩,h1,h2,h3,h4⟩;have jG:M[k]=M.getD k Pl.zero:=by rw [List.getD_eq_getElem?_getD,List.getElem?_eq_getElem hk]; rfl
  have bP:M.getD k Pl.zero ∈ M:=by rw [<- jG]; exact List.getElem_mem hk
  have iU:∀ c ∈ putA [] (M.take k),Fit c E2 D2:=fun c hc=>by
   rcases zas _ _ c hc with h | ⟨p,hp,rfl⟩
   · cases h
   · exact jak (JD.out p (List.mem_of_mem_take hp))
  have hlen:(putA [] (M.take k)).length<=100000:=by
   have:=xan (M.take k) [];rw [List.length_take] at this;simp only [List.length_nil] at this;omega
  have ZP:=hid (vco _ hq (JD.out _ bP) hE2 Bv h3 iU hlen);have Wh:Hid (putL (putA [] (M.take k)) (M.getD k Pl.zero)=putA [] (M.take (k+1))):=hid (by rw [qa3 hk,jG]);rw [Wh.out] at ZP;have H1:=hid h1;have H4:=hid h4;have H3:=hid h3;obtain ⟨c0',c1',c2',c3'⟩:=box4 gJ;have cF:=box1 h4;clear h1 h3 h4 gJ hq iU hlen jG bP;generalize M.getD k Pl.zero=p at *;unfold plV at ZP
  gi_wp2_with fail
  clear c0' c1' c2' c3' cF;refine ⟨trivial,og _,?_⟩;refine (callsIn_wide.2 ZP.out).mono ?_;rintro e W3 ⟨⟨r,rfl⟩,Us⟩;have bV:Hid (KeepsFrom w2.heap.size W W3/\yg w.heap.size W W3/\Ext w W3/\w2.heap.size<=W3.heap.size/\FS w.heap.size (w.heap.size+2) W3 (putA [] (M.take (k+1)))/\W3.heap[w.heap.size+1]?=some (.cells #[.func (.func 67) #[] #[.pointer (some ⟨w.heap.size,0,none⟩)]] 85 (0,0))):=hid (by
   obtain ⟨cf,ck,co,ce⟩:=Us;refine ⟨⟨ck.size,fun i o _ hi ho=>co i o hi ho⟩,ck,ce w H1.out (Nat.le_refl _),Nat.le_trans h2 ck.size,cf,?_⟩;refine ck.obj _ _ (by omega) (fun e=>?_) H4.out rfl;obtain ⟨v,hv,e'⟩:=e;obtain ⟨-,-,fv,Dk,hq⟩:=H3.out;rw [box1 Dk] at hv;injection hv with hv
   subst hv;have:=(hq.own e').1
   omega)
  clear Us ZP
  gi_wp2_with fail
  simp only [kbd];exact bV.out
 case done =>
  rintro D W hD ⟨h1,h2,h3,h4⟩ hK;rw [List.take_length] at h3;rw [<- adL.out] at h3;obtain ⟨-,-,fv,Dk,hq⟩:=id h3;obtain ⟨FA,fc,rfl,jM,lK⟩:=hq.len;have t0:=box1 Dk;have H1:=hid h1;have ZA:=hid hK;have HQ:=hid hq;have AX:=X2.out.size;clear h1 h2 h3 h4 hK Dk hq
  gi_wp2_with fail
  refine ⟨by simp,.inl ⟨_,_,rfl,run_takeDeferred ZA.out,?_⟩⟩;have jL:=grownBy_putObj' W D (.deferred none);have gI:∀ r,some D=some r->∃ o:Obj,W.heap[r]?=some o/\o.isCells=false:=fun r e=>⟨_,by injection e with e; subst e; exact ZA.out,rfl⟩
  have ab9:jc (W.putObj D (.deferred none)) (fun _=>True) (fJ l fs) FA 0:=by
   have h9:=HQ.out.at_;refine jc.turnC jL.size (fun v ds hv=>kaq jL gI hv) (fun a v _ hv=>⟨trivial,?_⟩) _ _ _ h9;obtain ⟨o,ho,hc⟩:=cells_of_cell hv;obtain ⟨c,t,f,rfl⟩:∃ c t f,o=.cells c t f:=by cases o <;> simp_all [Obj.isCells]
   exact (World.cell?_of_block ((cells_kept jL gI ho).trans ho.symm)).trans hv
  exact ⟨.slice FA (fJ l fs).length fc,by simp [results,Tryz.results34,go_sem],_,rfl,⟨FA,fc,rfl,jM,lK,ab9⟩,Below.grown H1.out.below jL H1.out.size (fun k e=>by injection e with e; omega)⟩
end Go.Proofs.YtklnlgnnlmdibaaGreat

namespace Go.Proofs.YtklnlgnnlmdibaaGreat
open Lib (hid)
open Go.RowKit
theorem za2 {w:World} {E D E2 D2 c0:Nat} {q:Nat->Prop} {D0:Option Addr} {l:Int} {fs:List Pl} (hl:1<=l) (ag:l<=4) (aO:jc w q fs D0 0) (dh:fs.length<=c0) (eX:c0<=9223372036854775807) (vV:fs.length<=1000) (aB:∀ f ∈ fs,Fit f E D) (hE:E<=60) (hD:D<=100000000000) (HP:Hid (vbf l fs)) (lZ:∀ p ∈ elems l fs,Fit p E2 D2) (hE2:E2<=170) (Bv:D2<=1099511627776) (kD:(elems l fs).length<=90000) (cZ:∀ f ∈ fs,f.lv<=l) :
 Calls Tryz.prog 10 #[.slice D0 fs.length c0,.int .i64 l] w (qar (fun _=>True) (fJ l fs) 0 w):=by
 have jQ:=hid aO;have rO:=hid (fun (W':World) (hx:Ext w W')=>ubo (w:=W') hl ag (aO.ext hx) dh eX vV aB hE hD HP lZ hE2 Bv kD);have jH:=hid aB;have rq:=hid cZ;have Es:¬ l < 1:=by omega
 have FM:¬ 4 < l:=by omega
 clear aO aB cZ lZ;go_enter Tryz.func10,Tryz.ntmps10;go_wp2_with fail
 go_loopw [16] (fun iv wr=>∃ k:Nat,k<=fs.length/\iv=.int .i64 k/\Hid (Ext w wr)) (fun iv _=>fs.length - (intOf iv).toNat)
 case atStart=>exact ⟨0,Nat.zero_le _,rfl,hid (Ext.refl w)⟩
 case round =>
  obtain ⟨k,hk,rfl,HI⟩:=hrel
  by_cases af:k < fs.length
  · obtain ⟨ad,C0,j0,k0,C1,j1,k1,rfl,ah,⟨g0,g1,g2,g3⟩,dD⟩:=(jQ.out.ext HI.out).kid k af;have ed:=jH.out fs[k] (List.getElem_mem af);have zB:¬ l < fs[k].lv:=by have:=rq.out fs[k] (List.getElem_mem af); omega
    obtain ⟨U,hU⟩:=n_m ((wr.alloc (.cells #[.int .i64 fs[k].lv,.bool fs[k].neg,.slice C0 j0 k0,.slice C1 j1 k1] 35)));have hxU:Ext wr U:=by rw [<- hU]; exact (Ext.refl wr).alloc _
    obtain ⟨s0,s1,s2,s3⟩:jb U wr.heap.size fs[k] (.slice C0 j0 k0) (.slice C1 j1 k1):=by rw [<- hU]; exact jb.new wr fs[k] _ _ _
    have fV:=hid (gad (w:=U) _ (dD.ext hxU) (Or.inr ⟨ed.can,ed.copy_ (by omega),by have:=ed.dm; omega⟩));rw [Pl.nf_of_can ed.can] at fV;have uO:=hid (HI.out.trans hxU);generalize fs[k]=f at *;unfold plV at fV;clear ah dD ed hxU HI;go_wp2_with fail;clear g0 g1 g2 g3 s0 s1 s2 s3 hU;refine fV.out.mono ?_;rintro e w2 ⟨rfl,x2⟩;have HN:=hid (uO.out.trans x2);clear x2 fV;go_wp2_with fail
    go_roundw
    case rel=>exact ⟨k+1,by omega,by go_num,HN.out⟩
    case measure=>simp [intOf]; omega
  · obtain rfl:k=fs.length:=by omega
    have HR:=hid (rO.out wr HI.out);have HX:=hid HI.out;clear HI rO;go_wp2_with fail;refine HR.out.mono ?_;rintro e w2 ⟨v2,rfl,⟨F0,fc,rfl,jM,lK,nI⟩,x2⟩;have HF:Hid (qar (fun _=>True) (fJ l fs) 0 w (.returned (.tuple #[.slice F0 (fJ l fs).length fc,.int .i64 0])) w2):=hid ⟨_,rfl,⟨F0,fc,rfl,jM,lK,nI⟩,HX.out.trans x2⟩;clear nI x2 HR;go_wp2_with fail;exact bodyPost_ret (v:=.tuple #[.slice F0 (fJ l fs).length fc,.int .i64 0]) (by simp [results,Tryz.results10,go_sem]) rfl HF.out
theorem vc1 {z:Int} (h:z ≠ 0):dg z.natAbs ≠ []:=fun e=>by
 have h1:=kaj (n:=z.natAbs) (by omega);rw [e] at h1;simp at h1
theorem ja0 {z:Int} (h:z ≠ 0):Pl.const z ≠ Pl.zero:=fun e=>by
 unfold Pl.const Pl.zero at e;injection e with _ _ e _
 exact vc1 h e
def qd (l:Int) (a b:Pl):Pl:=.mk l false [] [b,Pl.zero,a]
theorem ybp {l:Int} (h1:1<=l) (h4:l<=4) {a b:Pl} (ha:a.Can) (hb:b.Can) (LY:a.lv < l) (xQ:b.lv < l) (h0:a ≠ Pl.zero):(qd l a b).Can:=by
 refine va3 h1 h4 (by simp) (uae fun c hc=>?_) (by simpa using h0);simp only [List.mem_cons,List.not_mem_nil,or_false] at hc;rcases hc with rfl | rfl | rfl
 · exact ⟨xQ,hb⟩
 · exact ⟨by simp only [Pl.zero,Pl.lv]; omega,Pl.zero_can⟩
 · exact ⟨LY,ha⟩
theorem zbp (ρ:Int->Rat) {l:Int} (h1:1<=l) (h4:l<=4) (a b:Pl):(qd l a b).val ρ=b.val ρ+ρ l * ρ l * a.val ρ:=by
 unfold qd;rw [Pl.mk_val ρ _ _ _ (by omega) h4,ve,ve,ve,ve,Pl.zero_val]
 grind
theorem yae (z:Int):(Pl.const z).lv=0:=rfl
def gQ:Pl:=qd 1 (Pl.const 1) (Pl.const (-1))
def fQ:Pl:=qd 2 (Pl.const 1) gQ
theorem xbe:gQ.Can:=ybp (by omega) (by omega) (zq _) (zq _) (by rw [yae]; omega) (by rw [yae]; omega) (ja0 (by omega))
theorem vbe:fQ.Can:=ybp (by omega) (by omega) (zq _) xbe (by rw [yae]; omega) (by simp [gQ,qd,Pl.lv]) (ja0 (by omega))
theorem ybe (ρ:Int->Rat):gQ.val ρ=ρ 1 * ρ 1 - 1:=by
 unfold gQ; rw [zbp ρ (by omega) (by omega),Pl.const_val,Pl.const_val]; push_cast; grind
theorem ycy (ρ:Int->Rat):fQ.val ρ=ρ 1 * ρ 1 - 1+ρ 2 * ρ 2:=by
 unfold fQ; rw [zbp ρ (by omega) (by omega),Pl.const_val,ybe]; push_cast; grind
theorem zcq:(((Pl.var 1).pow 2).add ((Pl.var 2).pow 2)).add (Pl.const 1).opp=fQ:=Pl.val_uniq (Pl.add_can _ _) vbe fun ρ=>by
 rw [Pl.add_val,Pl.add_val,Pl.opp_val,Pl.pow_val,Pl.pow_val,Pl.const_val,Pl.var_val' ρ (by omega) (by omega),Pl.var_val' ρ (by omega) (by omega),ycy]
 push_cast; grind
theorem wcp:((Pl.var 1).pow 2).add (Pl.const 1).opp=gQ:=Pl.val_uniq (Pl.add_can _ _) xbe fun ρ=>by
 rw [Pl.add_val,Pl.opp_val,Pl.pow_val,Pl.const_val,Pl.var_val' ρ (by omega) (by omega),ybe]
 push_cast; grind
theorem kbe:fQ.cfL 2=[gQ,Pl.zero,Pl.const 1]:=(Pl.cfL_coefs (by omega) (by omega) vbe).uniq (gaq vbe (by omega))
theorem vaw:mdg 2 fQ=2:=by unfold mdg; rw [kbe]; rfl
theorem jbh:ui 2 fQ=Pl.const 1:=by unfold ui; rw [kbe]; rfl
theorem xce:yf 2 fQ=[fQ]:=by
 unfold yf; rw [vaw];show ql 2 (1+1) fQ=_;rw [kab (by rw [vaw]; omega),jbh,if_pos (yae 1)]
theorem jcy:gac 2 fQ=true:=by
 unfold gac; rw [vaw];show zai 2 (1+1) fQ=_;rw [xav (by rw [vaw]; omega),jbh,if_pos (yae 1)]
def dQ:Pl:=.mk 2 false [] [Pl.zero,Pl.const 2]
theorem xax:dQ.Can:=by
 refine va3 (by omega) (by omega) (by simp) (uae fun c hc=>?_) (by simpa using ja0 (z:=2) (by omega));simp only [List.mem_cons,List.not_mem_nil,or_false] at hc;rcases hc with rfl | rfl
 · exact ⟨by simp only [Pl.zero,Pl.lv]; omega,Pl.zero_can⟩
 · exact ⟨by rw [yae]; omega,zq _⟩
theorem ucy (ρ:Int->Rat):dQ.val ρ=ρ 2 * 2:=by
 unfold dQ;rw [Pl.mk_val ρ _ _ _ (by omega) (by omega),ve,ve,ve,Pl.zero_val,Pl.const_val]; push_cast; grind
theorem zb6:qw 2 fQ=dQ:=Pl.val_uniq (zco _ _) xax fun ρ=>by
 unfold qw;rw [if_pos ⟨by omega,by omega⟩,vac (by omega) (by omega),kbe,ucy];simp only [List.tail_cons,jai,ve,Pl.mul_val,Pl.zero_val,Pl.const_val]
 push_cast; grind
theorem gce:dQ.cfL 2=[Pl.zero,Pl.const 2]:=(Pl.cfL_coefs (by omega) (by omega) xax).uniq (gaq xax (by omega))
theorem yax:mdg 2 dQ=1:=by unfold mdg; rw [gce]; rfl
def sQ:Pl:=qd 1 (Pl.const 4) (Pl.const (-4))
theorem kb9:sQ.Can:=ybp (by omega) (by omega) (zq _) (zq _) (by rw [yae]; omega) (by rw [yae]; omega) (ja0 (by omega))
theorem qbo (ρ:Int->Rat):sQ.val ρ=4 * (ρ 1 * ρ 1) - 4:=by
 unfold sQ; rw [zbp ρ (by omega) (by omega),Pl.const_val,Pl.const_val]; push_cast; grind
theorem zb3:zi 2 fQ dQ=sQ:=Pl.val_uniq (qx _ _ _) kb9 fun ρ=>by
 have hz:dQ.opp.isZ=false:=by
  cases e:dQ.opp.isZ
  · rfl
  · exfalso
    have h1:=(Pl.zero_isZ (Pl.opp_can _)).1 e;have h2:=zbz (l:=2) (by omega) (by omega) xax;rw [h1,yax] at h2;have h3:mdg 2 Pl.zero=-1:=(uas Pl.zero_can).2 rfl;rw [h3] at h2; omega
 unfold zi uaf;rw [if_pos ⟨by omega,by omega⟩,hz,if_neg (by simp),vac (by omega) (by omega),zbh (by omega) (by omega) xax,kbe,gce,qbo];have hg:=ybe ρ;simp [uq,qy,ve,Pl.mul_val,Pl.sub_val,Pl.opp_val,Pl.zero_val,Pl.const_val,hg]
 grind
theorem jb9:uj 2 fQ dQ=[sQ]:=by
 unfold uj;rw [vaw,yax,if_neg (by omega),if_pos rfl,zb3,ka0 (by omega) (by omega) kb9];have:=xay (l:=2) (by omega) (by omega) vbe xax (vag (l:=2) (by rw [yax]; omega));rw [zb3,yax] at this; omega
theorem ybb:elems 2 [fQ]=[Pl.const 1,sQ]:=by
 unfold elems yas;have:zab 2 fQ=[Pl.const 1,sQ]:=by
  unfold zab xw;rw [xce,jcy,if_pos (Or.inr rfl)];simp [jbh,zb6,jb9]
 simp [this,List.range_succ]
theorem kc0:sQ.sp=[(4,⟨2,0,0,0⟩),(-4,Mo.one)]:=by
 refine (Pl.sp_uniq ?_ ?_ fun ρ=>?_).symm
 · unfold ut;refine ⟨by omega,fun x hx=>?_,?_⟩
   · rw [List.mem_singleton] at hx;subst hx;simp [Mo.lt,Mo.one]
   · unfold ut;exact ⟨by omega,by simp,by trivial⟩
 · intro x hx;simp only [List.mem_cons,List.not_mem_nil,or_false] at hx;rcases hx with rfl | rfl <;> simp [Mo.nonneg,Mo.one]
 · rw [qbo];simp only [xn,Mo.val,Mo.one];rw [show Int.toNat 2=2 from rfl,show Int.toNat 0=0 from rfl]
   push_cast
   grind
theorem vc0:snP sQ=gQ:=Pl.val_uniq (yaw _) xbe fun ρ=>by
 have h:=zaw ρ sQ;have hd:sdv sQ.sp=4:=by rw [kc0]; rfl
 rw [hd,qbo] at h;rw [ybe]
 push_cast at h
 grind
theorem xcy:fJ 2 [fQ]=[gQ]:=by
 unfold fJ;rw [ybb];unfold putA;simp only [List.foldl_cons,List.foldl_nil];have h1:putL [] (Pl.const 1)=[]:=by unfold putL; rw [if_pos (yae 1)]
 rw [h1];unfold putL;rw [if_neg (by simp [sQ,qd,Pl.lv]),if_neg (by simp),vc0]
 rfl
theorem gbx (n:Int) (w:World):Calls Tryz.prog 20 #[.int .i64 n] w (uf (fun b=>w.heap.size<=b) (Pl.var n) w):=by
 obtain ⟨W,hW⟩:=n_m (w.alloc (.cells #[.int .i64 0,.bool false,.slice none 0 0,.slice none 0 0] 35));have ai:Ext w W:=by rw [<- hW]; exact (Ext.refl w).alloc _
 have hz:jf W w.heap.size:=by rw [<- hW]; exact jf.new w _
 have hs:=ai.size;have bU:W.heap.size=w.heap.size+1:=by rw [<- hW]; simp
 have aF:=hid ai;have HZ:=hid hz;have HL:=hid (vav n W);clear ai hz
 by_cases h:1<=n/\n<=4
 · have hv:Pl.var n=.mk n false [] [Pl.zero,Pl.const 1]:=if_pos h;rw [hv];rw [decide_eq_true h.1,decide_eq_true h.2] at HL;clear hv;go_enter Tryz.func20,Tryz.ntmps20;go_wp2_with fail;clear hW;refine HL.out.mono ?_;rintro e w1 ⟨rfl,rfl⟩;go_wp2_with fail;refine (of_int 1 w1 (by omega) (by omega)).mono ?_;rintro e w2 ⟨z2,rfl,⟨y2,rfl,m2⟩,x2⟩;obtain ⟨C2,k2,rfl,-⟩:=id m2;have aQ:=HZ.out.ext x2 (by omega);have jF:=x2.size
   have HF:Hid (∀ W2:World,Ext w2 W2->(∀ j,j < 8->W2.cell? ⟨w2.heap.size,j,none⟩=#[Value.int .i64 0,.bool false,.slice none 0 0,.slice none 0 0,.int .i64 0,.bool (decide ((1:Int) < 0)),.slice C2 (dg (1:Int).natAbs).length k2,.slice none 0 0][j]?)->w2.heap.size < W2.heap.size ->
    PlV W2 (fun b=>b=w2.heap.size) (.mk n false [] [Pl.zero,Pl.const 1]) (plV (.mk n false [] [Pl.zero,Pl.const 1]) (.slice none 0 0) (.slice (some ⟨w2.heap.size,0,none⟩) 2 2))):=by
    refine hid ?_;intro W2 hx hc af;refine PlV.mk (t:=.mk n false [] [Pl.zero,Pl.const 1]) (A:=some ⟨w2.heap.size,0,none⟩) (c:=2) (jd.nil W2) (Nat.le_refl 2) (by decide) ?_;refine ⟨⟨⟨w2.heap.size,0,none⟩,.slice none 0 0,.slice none 0 0,rfl,af,rfl,⟨hc 0 (by omega),hc 1 (by omega),hc 2 (by omega),hc 3 (by omega)⟩,Pl.zero_v _ _ none 0 (by decide)⟩,⟨⟨w2.heap.size,0,none⟩,.slice C2 (dg (1:Int).natAbs).length k2,.slice none 0 0,rfl,af,rfl,⟨?_,hc 5 (by omega),hc 6 (by omega),hc 7 (by omega)⟩,kbk _ (m2.ext hx)⟩,trivial⟩;rw [kw];exact hc 4 (by omega)
   obtain ⟨W2,zQ⟩:=n_m (w2.alloc (.cells #[.int .i64 0,.bool false,.slice none 0 0,.slice none 0 0,.int .i64 0,.bool false,.slice C2 (dg 1).length k2,.slice none 0 0] 35));have aN:Ext w2 W2:=by rw [<- zQ]; exact (Ext.refl w2).alloc _
   have kH:=HF.out W2 aN (fun j hj=>by
    rcases (show j=0\/j=1\/j=2\/j=3\/j=4\/j=5\/j=6\/j=7 by omega) with rfl | rfl | rfl | rfl | rfl | rfl | rfl | rfl <;> (rw [<- zQ]; simp [go_sem])) (by rw [<- zQ]; simp)
   have QB:=aQ.ext aN (by omega);have WS:=hid (qf (q':=fun b=>w.heap.size<=b) ((aF.out.trans x2).trans aN) (Nat.le_refl _) QB kH (fun b _ hb=>⟨by omega,by omega⟩));obtain ⟨⟨z0,z1,z2',z3⟩,zf⟩:=QB;clear x2 m2 aQ kH aN HF;go_wp2_with fail;exact bodyPost_ret (by simp [results,Tryz.results20,go_sem,z0,z1,z2',z3,plV,Pl.lv,Pl.neg,Pl.cs]) rfl WS.out
 · have hv:Pl.var n=Pl.zero:=if_neg h;rw [hv];have WH:Hid (Calls Tryz.prog 50 #[.int .i64 n] W fun e w'=>e=.returned (.bool false)/\w'=W):=by
    rw [show (decide (1<=n) && decide (n<=4))=false by simp; omega] at HL;exact HL
   have WS:=hid (qf (q':=fun b=>w.heap.size<=b) aF.out (Nat.le_refl _) HZ.out (Pl.zero_v W (fun b=>w.heap.size<=b/\b ≠ w.heap.size) none 0 (by decide)) (fun b _ hb=>⟨hb.2,hb.1⟩));obtain ⟨⟨z0,z1,z2',z3⟩,zf⟩:=HZ.out;clear hv HL h;go_enter Tryz.func20,Tryz.ntmps20;go_wp2_with fail;clear hW;refine WH.out.mono ?_;rintro e w1 ⟨rfl,rfl⟩;go_wp2_with fail;exact bodyPost_ret (by simp [results,Tryz.results20,go_sem,z0,z1,z2',z3,plV,Pl.zero,Pl.lv,Pl.neg,Pl.cs]) rfl WS.out
end Go.Proofs.YtklnlgnnlmdibaaGreat
