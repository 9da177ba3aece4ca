/- Layer 41: collins.required's collecting closure. -/
import Derived.Test.YtcepajijiabkmaaGreatMp46
set_option linter.unusedSimpArgs false
set_option linter.unusedVariables false

set_option maxRecDepth 100000
set_option maxHeartbeats 8000000
namespace Go.Proofs.YtcepajijiabkmaaGreat
open Lib (hid)
open Go.RowKit
structure ja8 (T base : Nat) (acc : List Pl) (w w' : World) : Prop where
 fs:FS T base w' acc
 keep:yg T w w'
 other:∀ (i:Nat) (o:Obj),w.heap[i]?=some o->o.isCells=false->w'.heap[i]?=some o
 ext:∀ w0,Ext w0 w->w0.heap.size<=T->Ext w0 w'
theorem ja8.q9 {T base:Nat} {acc:List Pl} {w w':World} (h:FS T base w acc) (hx:Ext w w'):ja8 T base acc w w':=
 ⟨h.ext hx,yg.q9 h.lt hx,fun i o hi _=>(hx.below.block i (lt_of_some hi)).trans hi,fun w0 h0 _=>h0.trans hx⟩
theorem zan {W:World} {a b:Addr} {u v:Value} (h:a.block ≠ b.block):(W.setCell a u).setCell b v=(W.setCell b v).setCell a u:=by
 unfold World.setCell
 congr 1
 refine Array.ext (by simp) fun i h1 h2=>?_
 simp only [Array.getElem_modify]
 by_cases e1:a.block=i <;> by_cases e2:b.block=i
 · omega
 · simp [e1,e2]
 · simp [e1,e2]
 · simp [e1,e2]
theorem jg.pos {base:Nat} {q:Nat->Prop} {W:World} {v:Value} {l:List Pl} (h:jg base q W v l) (hl:0 < l.length):∃ g c,v=.slice (some ⟨g,0,none⟩) l.length c/\l.length<=c/\c<=9223372036854775807/\base<=g/\g < W.heap.size/\∀ i,W.frozen? ⟨g,i,none⟩=false:=by
 obtain ⟨rs,rfl,h2,-⟩:=h;rw [px] at hl ⊢;exact h2.pos hl
theorem jg.obj {base:Nat} {q:Nat->Prop} {W:World} {v:Value} {l:List Pl} (h:jg base q W v l) {R:Nat} (hR:v.ownBlock=some R):∃ cur T fr,W.heap[R]?=some (.cells cur T fr):=by
 obtain ⟨rs,-,h2,-⟩:=h;exact yaf h2.1 R hR
theorem ucf {T base g c : Nat} {acc : List Pl} {P : Pl} {w wr w4 w5 Wf : World} {fv : Value} {A0 A1 : Option Addr} {n0 c0 n1 c1 : Nat} (L6 : FS T base w acc) (hx : Ext w wr) (CJ : wr.heap[T]? = some (.cells #[fv] 31 (0, 0))) (hq : jg base (fun b => base <= b) wr fv acc) (nT : wr.grownBy w4 fv.ownBlock) (iy : ∀ v ds, jc wr v ds -> jc w4 v ds)
 (dN:jg base (fun b=>base<=b) w4 (.slice (some ⟨g,0,none⟩) (acc ++ [Pl.zero]).length c) (acc ++ [Pl.zero])) (nC:some g=fv.ownBlock\/wr.heap.size<=g) (hp:PlV w4 (fun b=>b ≠ g/\base<=b) P (plV P (.slice A0 n0 c0) (.slice A1 n1 c1)))
 (h5:((((w4.setCell ⟨g,acc.length * 4,none⟩ (.int .i64 P.lv)).setCell ⟨g,acc.length * 4+1,none⟩ (.bool P.neg)).setCell ⟨g,acc.length * 4+2,none⟩ (.slice A0 n0 c0)).setCell ⟨g,acc.length * 4+3,none⟩ (.slice A1 n1 c1))=w5) (hf:w5.setCell ⟨T,0,none⟩ (.slice (some ⟨g,0,none⟩) (acc ++ [Pl.zero]).length c)=Wf):ja8 T base (acc ++ [P]) w Wf:=by
 have af:acc.length < (acc ++ [Pl.zero]).length:=by simp
 have aU:=dN.xD acc.length af P hp;rw [h5] at aU;have hl:(acc ++ [Pl.zero]).set acc.length P=acc ++ [P]:=by rw [ti _ _ (pj _),Ps]; rfl
 rw [hl] at aU;obtain ⟨hs,BG⟩:=aU;have CE:=dN.own (R:=g) rfl;obtain ⟨hTb,hbw,fw,jC,-⟩:=id L6;have hTw:T < w.heap.size:=by omega
 have e0:fw=fv:=by
  have:=(hx.below.block T hTw).trans jC;rw [CJ] at this;simp at this;exact this.symm
 subst e0;have hTg:T ≠ g:=by omega
 have hTo:fw.ownBlock ≠ some T:=fun e=>by have:=(hq.own e).1; omega
 have hFo:∀ b,fw.ownBlock=some b->wad T w b:=fun b e=>⟨fw,box1 jC,e⟩
 have b5:∀ k,k ≠ g->w5.heap[k]?=w4.heap[k]?:=fun k hk=>by rw [<- h5,Below.heap_setCell _ _ _ k hk,Below.heap_setCell _ _ _ k hk,Below.heap_setCell _ _ _ k hk,Below.heap_setCell _ _ _ k hk]
 have b4:∀ k,k < wr.heap.size->fw.ownBlock ≠ some k->w4.heap[k]?=wr.heap[k]?:=fun k hk hn=>rr nT k hk (fun e=>hn e.symm)
 have bf:∀ k,k ≠ T->Wf.heap[k]?=w5.heap[k]?:=fun k hk=>by rw [<- hf]; exact Below.heap_setCell _ _ _ k hk
 have s5:w5.heap.size=w4.heap.size:=by rw [<- h5]; simp [World.setCell]
 have sf:Wf.heap.size=w5.heap.size:=by rw [<- hf]; simp [World.setCell]
 have sx:=hx.size;have s4:=nT.size;have hT5:w5.heap[T]?=some (.cells #[fw] 31 (0,0)):=(b5 T hTg).trans ((b4 T (by omega) hTo).trans CJ);have hTf:Wf.heap[T]?=some (.cells #[.slice (some ⟨g,0,none⟩) (acc ++ [Pl.zero]).length c] 31 (0,0)):=by rw [<- hf]; exact Boxed.set _ hT5
 have gZ:jo fw=false:=by obtain ⟨A,c,rfl,-⟩:=hq.len; rfl
 have nf:∀ v ds,jc w5 v ds->jc Wf v ds:=fun v ds hv=>by rw [<- hf]; exact hv.box (box1 hT5) gZ _
 have jJ:∀ b,wad T Wf b->b=g:=fun b ⟨v,hv,e⟩=>by
  rw [box1 hTf] at hv;injection hv with hv
  subst hv;injection e with e; exact e.symm
 have hgw:∀ i,i < w.heap.size->¬ wad T w i->i ≠ g:=fun i hi hn e=>by
  rcases nC with h | h
  · exact hn (hFo i (by rw [e]; exact h.symm))
  · omega
 have QN:jg base (fun b=>base<=b) Wf (.slice (some ⟨g,0,none⟩) (acc ++ [Pl.zero]).length c) (acc ++ [P]):=
  hs.Vn ⟨by omega,nf,fun b _ hb=>bf b hb⟩ (fun e=>by injection e with e; exact hTg e.symm) (fun b hb=>by omega)
 refine ⟨⟨hTb,by omega,_,hTf,QN⟩,⟨by omega,fun i o hiT hn hi _=>?_,fun i hi e=>?_,fun _ b e=>?_,fun v ds hv=>nf _ _ (BG _ _ (iy _ _ (hv.ext hx)))⟩,fun i o hi ho=>?_,fun w0 h0 h0T=>?_⟩
 · have fM:=lt_of_some hi;exact (bf i hiT).trans ((b5 i (hgw i fM hn)).trans ((b4 i (by omega) (fun e=>hn (hFo i e))).trans ((hx.below.block i fM).trans hi)))
 · have e1:=jJ i e;rcases nC with h | h
   · exact hFo i (by rw [e1]; exact h.symm)
   · omega
 · have e1:=jJ b e;omega
 · have fM:=lt_of_some hi;have h1:=(hx.below.block i fM).trans hi;have n1:fw.ownBlock ≠ some i:=fun e=>by
    obtain ⟨cur,t,fr,hc⟩:=hq.obj e;rw [h1] at hc; injection hc with hc; rw [hc] at ho; cases ho
   have h2:=(b4 i (by omega) n1).trans h1;have n2:i ≠ g:=fun e=>by
    obtain ⟨cur,t,fr,hc⟩:=dN.obj (R:=g) rfl;rw [e,hc] at h2; injection h2 with h2; rw [<- h2] at ho; cases ho
   have n3:i ≠ T:=fun e=>by
    rw [e,jC] at hi; injection hi with hi; rw [<- hi] at ho; cases ho
   exact (bf i n3).trans ((b5 i n2).trans h2)
 · have Gz:=h0.size;have h1:Ext w0 w4:=Below.grown (h0.trans hx).below nT (by omega) (fun k e=>by have:=(hq.own e).1; omega);have Fj:w0.heap.size<=g:=by omega
   rw [<- hf,<- h5];exact ((((h1.setCell Fj _).setCell Fj _).setCell Fj _).setCell Fj _).setCell h0T _
theorem jc0 {w:World} {T base E D:Nat} {q:Nat->Prop} {acc:List Pl} {p:Pl} (v:Value) (h0:PlV w q p v) (hp:Fit p E D) (hE:E<=170) (hD:D<=1099511627776) (L6:FS T base w acc) (tq:∀ c ∈ acc,Fit c E D) (hn:acc.length<=100000) :
 Calls Tryz.prog 58 #[v,.pointer (some ⟨T,0,none⟩)] w fun e w'=>(∃ r,e=.returned r)/\ja8 T base (putL acc p) w w':=by
 have H0:=hid h0;obtain ⟨A0,m0,e0,B0,f0,rfl,-⟩:=h0.open_;obtain ⟨W,fV,iT,aC,aX⟩:=b_1 w p (.slice A0 m0 e0) (.slice B0 p.cs.length f0);have HX:=hid aC;have dJ:=hid aX;have fO:W.heap.size=w.heap.size+1:=iT;clear h0 aC aX;have Jn:=hid L6;have alH:=hid tq;have HC:=hid (fun (W':World) (hx:Ext w W')=>ua7 p _ (H0.out.ext hx) (hp.small hE) (by have:=hp.dm; omega) (by rw [Pl.q7 hp.can]; exact hp) (by omega));rw [Pl.q7 hp.can] at HC;have HS:=hid (fun (W':World) (hx:Ext w W')=>xc5 _ (H0.out.ext hx) hp hE hD);have o7:=ual hp;have Pm:=hid (fun (W':World) (q' q'':Nat->Prop) (u u':Value) (c:Pl) (hc:c ∈ acc) (h1:PlV W' q' (snP p) u) (h2:PlV W' q'' c u')=>xbo u u' h1 h2 (o7.small hE) (by have:=o7.dm; omega) ((tq c hc).small hE) (by have:=(tq c hc).dm; omega) (by rw [Pl.q7 o7.can]; exact o7) hE);have rq:Hid (∀ i,W.frozen? ⟨w.heap.size,i,none⟩=false):=hid (by rw [<- fV]; intro i; simp [go_sem]);have Ez:=hid (And.intro o7.can fun c hc=>(tq c hc).can);obtain ⟨b0,b1,b2,b3⟩:=dJ.out;unfold plV at HC HS ⊢;clear hp L6 tq iT;go_enter Tryz.func58,Tryz.ntmps58;go_wp2_with fail;clear b0 b1 b2 b3;refine (HC.out _ HX.out).mono ?_;rintro e w1 ⟨x1,rfl,i1,y1⟩;obtain ⟨bx,Bx,nx,cx,rfl⟩:=i1.unpack;obtain ⟨W1,aV⟩:=n_m ((w1.alloc (.cells #[.bool bx,.slice Bx nx cx] 30)));have yG:Ext W W1:=by rw [<- aV]; exact y1.alloc _
 have tK:=hid yG;obtain ⟨b0,b1,b2,b3⟩:=dJ.out.ext yG (by omega);clear i1 y1 HC yG
 by_cases fC:p.lv=0
 · have HF:Hid (ja8 T base (putL acc p) w W1):=hid (by unfold putL; rw [if_pos fC]; exact ja8.q9 Jn.out (HX.out.trans tK.out));have qB:decide (p.lv=0)=true:=by simpa using fC
   clear fC;go_wp2_with fail;exact bodyPost_ret (v:=.tuple #[]) (by simp [results,Tryz.results58,go_sem]) rfl ⟨⟨_,rfl⟩,HF.out⟩
 · have qB:decide (p.lv=0)=false:=by simpa using fC
   have mX:Hid (putL acc p=if acc.any (qE (snP p))=true then acc else acc ++ [snP p]):=hid (by unfold putL; rw [if_neg fC]);have HSN:=hid (HS.out W1 (HX.out.trans tK.out));clear fC HS;go_wp2_with fail;clear aV b0 b1 b2 b3 fV;refine HSN.out.mono ?_;rintro e w2 ⟨v2,rfl,p2,x2⟩;obtain ⟨C0,j0,k0,C1,j1,rfl,-⟩:=id p2.open_;obtain ⟨P,hP⟩:=n_m (snP p);rw [hP] at p2 Pm mX Ez ⊢;have hbW:PBx W (fun b=>b < w.heap.size) w.heap.size p:=⟨by omega,rq.out,A0,m0,e0,B0,f0,dJ.out,(H0.out.xo.ext HX.out).mono fun b hb=>⟨hb.2,by have:=hb.2; omega⟩⟩;have dE:=(hbW.ext tK.out).ext x2;obtain ⟨-,hbf,Z0,zn,zc,Z1,wH,⟨g0,g1,g2,g3⟩,-⟩:=id dE;obtain ⟨V,hV⟩:=n_m (((((w2.setCell ⟨w.heap.size,0,none⟩ (.int .i64 P.lv)).setCell ⟨w.heap.size,1,none⟩ (.bool P.neg)).setCell ⟨w.heap.size,2,none⟩ (.slice C0 j0 k0)).setCell ⟨w.heap.size,3,none⟩ (.slice C1 P.cs.length j1)));have dM:Ext w V:=by rw [<- hV]; exact (((((HX.out.trans tK.out).trans x2).setCell (pj _) _).setCell (pj _) _).setCell (pj _) _).setCell (pj _) _
   have bW:=tK.out.size;have Ll:PBx V (fun b=>w.heap.size < b) w.heap.size P:=by rw [<- hV]; exact dE.store (p2.mono fun b hb=>⟨by omega,by omega⟩)
   have xN:=hid dM;have PR:=hid Ll;obtain ⟨hTb,Io,fv,CJ,Ec⟩:=Jn.out.ext dM;obtain ⟨F0,fc,rfl,kE,lY⟩:=Ec.len;have hT0:=box1 CJ;have HQ:=hid Ec;have hbw:base<=w.heap.size:=Jn.out.2.1;obtain ⟨n0,gX⟩:=n_m (acc.length);have rH:=hid gX;have Ew:=hid CJ;clear hbW dE dM Ll x2 hP HSN Ec CJ;unfold plV;go_wp2_with fail;clear g0 g1 g2 g3 hbf hV hT0;rw [rH.out] at kE
   go_loopw [17] (fun iv wr=>∃ k:Nat,k<=n0/\iv=.int .i64 k/\Hid ((∀ c ∈ acc.take k,c ≠ P)/\Ext V wr)) (fun iv _=>n0 - (intOf iv).toNat)
   case atStart=>exact ⟨0,pS _,rfl,hid ⟨by simp,Ext.refl V⟩⟩
   case round =>
    obtain ⟨k,hk,rfl,HI⟩:=hrel;obtain ⟨ax,hx⟩:=HI.out;obtain ⟨-,-,AB,yF,k0',yC,j1',⟨b0,b1,b2,b3⟩,Xg⟩:=PR.out.ext hx
    by_cases af:k < n0
    · have fM:k < acc.length:=by rw [rH.out]; exact af
      have aK:=(HQ.out.ext hx).at_;obtain ⟨ad,G0,i0,h0,G1,i1,h1,rfl,ah,⟨g0,g1,g2,g3⟩,fP⟩:=aK.ym k fM;have oP:=hid hx;have Je:=hid ax;obtain ⟨U,hU⟩:=n_m ((wr.alloc (.cells #[.int .i64 acc[k].lv,.bool acc[k].neg,.slice G0 i0 h0,.slice G1 i1 h1] 33)));have hxU:Ext wr U:=by rw [<- hU]; exact (Ext.refl wr).alloc _
      obtain ⟨s0,s1,s2,s3⟩:jb U wr.heap.size acc[k] (.slice G0 i0 h0) (.slice G1 i1 h1):=by rw [<- hU]; exact jb.new wr acc[k] _ _ _
      have hgw:w.heap.size < wr.heap.size:=pw PR.out.1 hx.size;obtain ⟨y0,y1,y2,y3⟩:jb U w.heap.size P (.slice AB yF k0') (.slice yC P.cs.length j1'):=(show jb wr w.heap.size P _ _ from ⟨b0,b1,b2,b3⟩).ext hxU hgw;have hsm:=Pm.out U _ _ _ _ acc[k] (pt fM) (Xg.ext hxU) (fP.ext hxU);rw [Pl.q7 Ez.out.1,Pl.q7 (Ez.out.2 acc[k] (pt fM))] at hsm;have Em:=hid (hx.trans hxU);have og:=hid (pt fM);have xO:Hid (∀ c ∈ acc.take (k+1),c ∈ acc.take k\/c=acc[k]):=hid (fun c hc=>by
       rw [pC fM,rj,pD] at hc; exact hc)
      generalize acc[k]=ck at *;unfold plV at hsm;clear ax hx Xg aK ah fP hxU HI
      by_cases he:P=ck
      · rw [qao he] at hsm;have HF:Hid (∀ w',Ext U w'->ja8 T base (putL acc p) w w'):=hid (fun w' hx=>by
         rw [mX.out,if_pos (SU.2 ⟨ck,og.out,qao he⟩)]
         exact ja8.q9 Jn.out (xN.out.trans (Em.out.trans hx)))
        clear he;go_wp2_with fail;clear b0 b1 b2 b3 g0 g1 g2 g3 s0 s1 s2 s3 y0 y1 y2 y3 hU;refine hsm.mono ?_;rintro e w5 ⟨rfl,x5⟩;have Ai:=hid (HF.out _ x5);clear x5 hsm;go_wp2_with fail;exact bodyPost_ret (v:=.tuple #[]) (by simp [results,Tryz.results58,go_sem]) rfl ⟨⟨_,rfl⟩,Ai.out⟩
      · rw [kar he] at hsm;have adc:Hid (∀ c ∈ acc.take (k+1),c ≠ P):=hid (fun c hc=>by
         rcases xO.out c hc with h | h
         · exact Je.out c h
         · rw [h]; exact fun e=>he e.symm)
        clear he;go_wp2_with fail;clear b0 b1 b2 b3 g0 g1 g2 g3 s0 s1 s2 s3 y0 y1 y2 y3 hU;refine hsm.mono ?_;rintro e w5 ⟨rfl,x5⟩;have Dn:=hid (Em.out.trans x5);clear x5 hsm;go_wp2_with fail
        go_roundw
        case rel=>exact ⟨k+1,by omega,by go_num,adc.out,Dn.out⟩
        case measure=>simp [intOf]; omega
    · obtain rfl:k=n0:=by omega
      have Hg:acc.any (qE P)=false:=by
       rw [<- Bool.not_eq_true];intro h;obtain ⟨c,hc,he⟩:=SU.1 h;refine ax c ?_ (za9.1 he).symm;rw [show k=acc.length from rH.out.symm,pP]; exact hc
      rw [Hg,if_neg (by simp)] at mX;obtain ⟨D,hD⟩:=n_m (wr.drew);have AP:Ext V D:=by rw [<- hD]; exact hx.drew
      have JF:Ext wr D:=by rw [<- hD]; exact (Ext.refl wr).drew
      have Xd:=HQ.out.ext AP;have Tf:=PR.out.1;have hgD:w.heap.size < D.heap.size:=pw Tf AP.size;have Iu:=(AP.below.block T (by omega)).trans Ew.out;obtain ⟨v4,w4,ak,nT,iy,dN,nC⟩:=Xd.push (x:=Pl.zero) (A0:=none) (n0:=0) (c0:=0) (A1:=none) (n1:=0) (c1:=0) (by omega) (Pl.xt _ _ none 0 (by omega)) (by rw [rH.out]; omega) 31;obtain ⟨g,c4,rfl,abk,abj,Ic,OB,Tn⟩:=dN.pos (by simp);have pX:(acc ++ [Pl.zero]).length=k+1:=by rw [ra,rH.out]; rfl
      have Ie:¬ g=T:=by omega
      have LK:w4.heap[T]?=D.heap[T]?:=rr nT T (by omega) (fun e=>by have:=(Xd.own e.symm).1; omega);have Ue:w4.heap[w.heap.size]?=D.heap[w.heap.size]?:=rr nT _ hgD (fun e=>by
       have:=Jn.out.fresh w.heap.size ⟨_,(by
        have h1:=(xN.out.trans AP).below.block T (by omega);rw [Iu] at h1
        exact box1 h1.symm),e.symm⟩
       omega)
      have hT4:w4.cell? ⟨T,0,none⟩=some (.slice F0 acc.length fc):=by rw [pB (a:=⟨T,0,none⟩) LK]; exact box1 Iu
      have abH:∀ i,w4.frozen? ⟨T,i,none⟩=false:=fun i=>by rw [sL (a:=⟨T,i,none⟩) LK]; simp [World.frozen?,Iu]
      obtain ⟨uI,Z0',zn',zc',Z1',ahE,ahF,e4,-,⟨q0,q1,q2,q3⟩,-⟩:=dN.at_.ym k (by rw [pX]; omega);injection e4 with e4
      subst e4;rw [zu,rh] at q0 q1 q2 q3;simp only at q1 q2 q3;have Qu:¬ w.heap.size=g:=fun e=>by
       rcases nC with h | h
       · have:=Jn.out.fresh g ⟨_,(by
          have h1:=(xN.out.trans AP).below.block T (by omega);rw [Iu] at h1
          exact box1 h1.symm),h.symm⟩
         omega
       · injection h with h; (try dsimp only at h); omega
      have hpD:PlV w4 (fun b=>b ≠ g/\base<=b) P (plV P (.slice AB yF k0') (.slice yC P.cs.length j1')):=by
       refine PlV.zd nT.size iy (fun b hb hq=>?_) ((Xg.xo.ext JF));have bF:=hq.1.1;have dE:=hq.2;have Xi:(Value.slice F0 acc.length fc).ownBlock ≠ some b:=fun e=>by
        have:=Jn.out.fresh b ⟨_,(by
         have h1:=(xN.out.trans AP).below.block T (by omega);rw [Iu] at h1
         exact box1 h1.symm),e⟩
        omega
       refine ⟨⟨fun e=>?_,by omega⟩,rr nT b hb (fun e=>Xi e.symm)⟩;rcases nC with h | h
       · exact Xi (by rw [<- h,e]; rfl)
       · injection h with h; (try dsimp only at h); have:=JF.size; omega
      have aS:=fun (w5 Wf:World)=>ucf (w5:=w5) (Wf:=Wf) Jn.out (xN.out.trans AP) Iu Xd nT iy dN (by rcases nC with h | h; exact Or.inl h; injection h with h; exact Or.inr (by (try dsimp only at h); omega)) hpD
      rw [<- mX.out,rH.out,pX] at aS;have bT:=hid aS;have t0:D.cell? ⟨T,0,none⟩=some (.slice F0 acc.length fc):=box1 Iu;obtain ⟨d0,d1,d2,d3⟩:=(show jb wr w.heap.size P (.slice AB yF k0') (.slice yC P.cs.length j1') from ⟨b0,b1,b2,b3⟩).ext JF (pw Tf hx.size);have U3:∀ i,w4.cell? ⟨w.heap.size,i,none⟩=D.cell? ⟨w.heap.size,i,none⟩:=fun i=>pB (a:=⟨w.heap.size,i,none⟩) Ue
      obtain ⟨Eh,f1',f2',f3'⟩:jb w4 w.heap.size P (.slice AB yF k0') (.slice yC P.cs.length j1'):=⟨(U3 0).trans d0,(U3 1).trans d1,(U3 2).trans d2,(U3 3).trans d3⟩;clear aS hpD nT iy dN nC Xd LK Ue U3 Iu Xg ax Hg HI abk abj;rw [pX] at ak;go_upto_region 9 with fail;have hS0:jb D (w.heap.size) P (.slice AB yF k0') (.slice yC P.cs.length j1'):=⟨d0,d1,d2,d3⟩;have BN:(Builtin.append_ #[31,31] 31 #[.slice F0 k fc,.slice (some ⟨D.heap.size,0,none⟩) 1 1]).run Tryz.prog (D.alloc (.cells #[.int .i64 0,.bool false,.slice none 0 0,.slice none 0 0] 33))=.ok (.slice (some ⟨g,0,none⟩) (k+1) c4) w4:=by rw [rH.out] at ak; exact ak
      have XH:=(show jb D w.heap.size P (.slice AB yF k0') (.slice yC P.cs.length j1') from hS0).ext ((Ext.refl D).alloc (.cells #[.int .i64 0,.bool false,.slice none 0 0,.slice none 0 0] 33)) hgD;obtain ⟨DA,UQ⟩:=n_m (D.alloc (.cells #[.int .i64 0,.bool false,.slice none 0 0,.slice none 0 0] 33));rw [UQ] at BN XH;have tA:DA.cell? ⟨T,0,none⟩=some (.slice F0 acc.length fc):=by
       have Qn:Ext D DA:=by rw [<- UQ]; exact (Ext.refl D).alloc _
       exact (Qn.cell (p:=⟨T,0,none⟩) (by show T < _; omega)).trans t0
      clear ak;refine wp_region_held_drew (S:=fun W'=>jb W' (w.heap.size) P (.slice AB yF k0') (.slice yC P.cs.length j1')) (by kernel_rfl) (by rw [hD]; exact hS0) (fun hHeld=>?_);rw [hD];rw [hD] at hHeld;clear hD;refine tk 1 ?_ (hy:=Or.inl ⟨by rfl,by intro w' aP; obtain ⟨k0,k1,k2,k3⟩:=aP; go_simp; (try (with_reducible rfl))⟩);refine r_2 0 3 (fun K hK=>?brA) fun K hK=>?brB
      case' brA =>
       go_simp;refine k_t hK hS0 fun hHeld=>?_
       clear hK K;refine tk 2 ?_;refine r_1 3 fun K hK=>?_
       go_simp
       (try rw [UQ])
       refine k_t hK XH fun hHeld=>?_
       clear hK K
      case' brB =>
       go_simp
       (try rw [UQ])
       refine k_t hK XH fun hHeld=>?_
       clear hK K;refine r_1 0 fun K hK=>?_
       go_simp;refine k_t hK XH fun hHeld=>?_
       clear hK K;refine tk 2 ?_
      all_goals
       clear UQ tA;have hkk:(k:Int) < (k:Int)+1:=by omega
       refine r_1 4 fun K hK=>?_
       refine qai rfl (.tmp 25) (.tmp 28) 31 31 rfl _ _ _ _ (by simp [Act.eval,Act.put]) (by simp [Act.eval,Act.put]) BN ?_;refine k_t hK ⟨Eh,f1',f2',f3'⟩ fun hHeld=>?_
       clear hK K BN;refine tk 5 ?_;have UB:¬ T=w.heap.size:=by omega
       refine r_2 6 7 (fun K hK=>?_) fun K hK=>?_
       · go_simp;clear q0 q1 q2 q3;refine xu (P:=fun V=>((((w4.setCell ⟨g,k * 4,none⟩ (.int .i64 P.lv)).setCell ⟨g,k * 4+1,none⟩ (.bool P.neg)).setCell ⟨g,k * 4+2,none⟩ (.slice AB yF k0')).setCell ⟨g,k * 4+3,none⟩ (.slice yC P.cs.length j1'))=V) rfl (fun V5 LH=>?_);have b5:∀ b,b ≠ g->V5.heap[b]?=w4.heap[b]?:=fun b hb=>by rw [<- LH,Below.heap_setCell _ _ _ b hb,Below.heap_setCell _ _ _ b hb,Below.heap_setCell _ _ _ b hb,Below.heap_setCell _ _ _ b hb]
         have x0:∀ i,V5.cell? ⟨w.heap.size,i,none⟩=w4.cell? ⟨w.heap.size,i,none⟩:=fun i=>pB (a:=⟨w.heap.size,i,none⟩) (b5 _ Qu)
         have z0:V5.cell? ⟨T,0,none⟩=some (.slice F0 acc.length fc):=(pB (a:=⟨T,0,none⟩) (b5 _ (fun e=>Ie e.symm))).trans hT4;have z1:∀ i,V5.frozen? ⟨T,i,none⟩=false:=fun i=>(sL (a:=⟨T,i,none⟩) (b5 _ (fun e=>Ie e.symm))).trans (abH i)
         have zN:jb V5 (w.heap.size) P (.slice AB yF k0') (.slice yC P.cs.length j1'):=⟨(x0 0).trans Eh,(x0 1).trans f1',(x0 2).trans f2',(x0 3).trans f3'⟩;have CZ:=bT.out V5 _ LH rfl;refine k_t hK zN fun hHeld=>?_
         clear hK K b5 x0 LH;refine r_1 7 fun K hK=>?_
         go_simp;refine xu (P:=fun V=>V5.setCell ⟨T,0,none⟩ (.slice (some ⟨g,0,none⟩) (k+1) c4)=V) rfl (fun V6 zL=>?_);rw [zL] at CZ;have x6:∀ i,V6.cell? ⟨w.heap.size,i,none⟩=V5.cell? ⟨w.heap.size,i,none⟩:=fun i=>pB (a:=⟨w.heap.size,i,none⟩) (by rw [<- zL]; exact Below.heap_setCell _ _ _ _ (fun e=>UB e.symm))
         refine k_t hK ⟨(x6 0).trans zN.1,(x6 1).trans zN.2.1,(x6 2).trans zN.2.2.1,(x6 3).trans zN.2.2.2⟩ fun hHeld=>?_
         clear hK K;refine w_d ?_;have HF6:=hid CZ;clear CZ zL x6 z0 z1 zN;go_wp2_with fail
         go_end0
         exact ⟨⟨_,rfl⟩,HF6.out⟩
       · go_simp;refine xu (P:=fun V=>w4.setCell ⟨T,0,none⟩ (.slice (some ⟨g,0,none⟩) (k+1) c4)=V) rfl (fun V5 LH=>?_);have b5:∀ b,b ≠ T->V5.heap[b]?=w4.heap[b]?:=fun b hb=>by rw [<- LH,Below.heap_setCell _ _ _ b hb]
         have x0:∀ i,V5.cell? ⟨w.heap.size,i,none⟩=w4.cell? ⟨w.heap.size,i,none⟩:=fun i=>pB (a:=⟨w.heap.size,i,none⟩) (b5 _ (fun e=>UB e.symm))
         have z0:∀ i,V5.cell? ⟨g,i,none⟩=w4.cell? ⟨g,i,none⟩:=fun i=>pB (a:=⟨g,i,none⟩) (b5 _ Ie)
         have z1:∀ i,V5.frozen? ⟨g,i,none⟩=false:=fun i=>(sL (a:=⟨g,i,none⟩) (b5 _ Ie)).trans (Tn i)
         rw [<- z0] at q0 q1 q2 q3;have zN:jb V5 (w.heap.size) P (.slice AB yF k0') (.slice yC P.cs.length j1'):=⟨(x0 0).trans Eh,(x0 1).trans f1',(x0 2).trans f2',(x0 3).trans f3'⟩;have CZ:=bT.out _ _ rfl rfl;have gU:((((w4.setCell ⟨g,k * 4,none⟩ (.int .i64 P.lv)).setCell ⟨g,k * 4+1,none⟩ (.bool P.neg)).setCell ⟨g,k * 4+2,none⟩ (.slice AB yF k0')).setCell ⟨g,k * 4+3,none⟩ (.slice yC P.cs.length j1')).setCell ⟨T,0,none⟩ (.slice (some ⟨g,0,none⟩) (k+1) c4)=((((V5.setCell ⟨g,k * 4,none⟩ (.int .i64 P.lv)).setCell ⟨g,k * 4+1,none⟩ (.bool P.neg)).setCell ⟨g,k * 4+2,none⟩ (.slice AB yF k0')).setCell ⟨g,k * 4+3,none⟩ (.slice yC P.cs.length j1')):=by
          rw [<- LH,zan (by exact Ie),zan (b:=⟨T,0,none⟩) (a:=⟨g,k * 4+2,none⟩) (by exact Ie),zan (b:=⟨T,0,none⟩) (a:=⟨g,k * 4+1,none⟩) (by exact Ie),zan (b:=⟨T,0,none⟩) (a:=⟨g,k * 4,none⟩) (by exact Ie)]
         rw [gU] at CZ;refine k_t hK zN fun hHeld=>?_
         clear hK K b5 x0 LH z0 gU;refine r_1 6 fun K hK=>?_
         go_simp;clear q0 q1 q2 q3;refine xu (P:=fun V=>((((V5.setCell ⟨g,k * 4,none⟩ (.int .i64 P.lv)).setCell ⟨g,k * 4+1,none⟩ (.bool P.neg)).setCell ⟨g,k * 4+2,none⟩ (.slice AB yF k0')).setCell ⟨g,k * 4+3,none⟩ (.slice yC P.cs.length j1'))=V) rfl (fun V6 zL=>?_);rw [zL] at CZ;have x6:∀ i,V6.cell? ⟨w.heap.size,i,none⟩=V5.cell? ⟨w.heap.size,i,none⟩:=fun i=>pB (a:=⟨w.heap.size,i,none⟩) (by rw [<- zL,Below.heap_setCell _ _ _ _ Qu,Below.heap_setCell _ _ _ _ Qu,Below.heap_setCell _ _ _ _ Qu,Below.heap_setCell _ _ _ _ Qu])
         refine k_t hK ⟨(x6 0).trans zN.1,(x6 1).trans zN.2.1,(x6 2).trans zN.2.2.1,(x6 3).trans zN.2.2.2⟩ fun hHeld=>?_
         clear hK K;refine w_d ?_;have HF6:=hid CZ;clear CZ zL x6 z1 zN;go_wp2_with fail
         go_end0
         exact ⟨⟨_,rfl⟩,HF6.out⟩
open Go.Shelf
attribute [local go_sem] Oper.semAt_some
theorem qcc {P:Program} {w:World} {a:Addr} {m:Mode} (fn:Fn) (first captured:Array Value):(store a (.func fn first captured) m).run P w=stored P w a (.func fn first captured) m:=run_store P w a _ m rfl
attribute [local go_sem] qcc
theorem PlV.kept {W W':World} {row:Option Nat} {q:Nat->Prop} {p:Pl} {v:Value} (h:PlV W q p v) (hg:W.grownBy W' row) (hr:∀ r,row=some r->∃ o:Obj,W.heap[r]?=some o/\o.isCells=false):PlV W' q p v:=
 PlV.jt hg.size (fun v ds hv=>kat hg hr hv) (fun a v hp hv=>⟨hp,by
  obtain ⟨o,ho,hc⟩:=cells_of_cell hv;obtain ⟨c,t,f,rfl⟩:∃ c t f,o=.cells c t f:=by cases o <;> simp_all [Obj.isCells]
  exact (pB ((cells_kept hg hr ho).trans ho.symm)).trans hv⟩) _ _ h
theorem vcl {M acc:List Pl} {k:Nat} (hk:k < M.length):putA acc (M.take (k+1))=putL (putA acc (M.take k)) M[k]:=by
 unfold putA;rw [pC hk,List.foldl_append]; rfl
theorem kbv : ∀ (M acc : List Pl), ∀ c ∈ putA acc M, c ∈ acc \/ ∃ p ∈ M, c = snP p
 | [],acc,c,h=>.inl h
 | p :: M,acc,c,h=>by
   have h':c ∈ putA (putL acc p) M:=h;rcases kbv M _ c h' with h1 | ⟨x,hx,e⟩
   · unfold putL at h1
     split at h1
     · exact .inl h1
     · split at h1
       · exact .inl h1
       · rw [rj,pD] at h1;rcases h1 with h1 | h1
         · exact .inl h1
         · exact .inr ⟨p,r5,h1⟩
   · exact .inr ⟨x,rz _ hx,e⟩
theorem wbd : ∀ (M acc : List Pl), (putA acc M).length <= acc.length + M.length
 | [],acc=>by simp [putA]
 | p :: M,acc=>by
   have h:=wbd M (putL acc p);have h2:(putL acc p).length<=acc.length+1:=by unfold putL; split <;> (try split) <;> simp
   show (putA (putL acc p) M).length<=_;simp only [pL]; omega
theorem zb0 {w:World} {D0:Option Addr} {n c0:Nat} {l:Int} :
 Calls Tryz.prog 61 #[.slice D0 n c0,.int .i64 l] w fun e w'=>e=.returned (.func (.func 85) #[] #[.pointer (some ⟨w.heap.size,0,none⟩),.pointer (some ⟨w.heap.size+1,0,none⟩)])/\w'.cell? ⟨w.heap.size,0,none⟩=some (.slice D0 n c0)/\w'.cell? ⟨w.heap.size+1,0,none⟩=some (.int .i64 l)/\w'.heap.size=w.heap.size+2/\Ext w w':=by
 have HF:Hid (Ext w ((w.alloc (.cells #[.slice D0 n c0] 31)).alloc (.cells #[.int .i64 l] 3))):=hid (((Ext.refl w).alloc _).alloc _);go_enter Tryz.func61,Tryz.ntmps61;go_wp2_with fail;go_ret;exact ⟨rfl,by simp [go_sem],by simp [go_sem],by simp,HF.out⟩
def qc9 (L:List Pl) (w:World) (e:Ending) (w':World):Prop:=∃ v,e=.returned v/\jg w.heap.size (fun b=>w.heap.size<=b) w' v L/\Ext w w'
theorem jg.mono {base:Nat} {q q':Nat->Prop} {W:World} {v:Value} {l:List Pl} (h:jg base q W v l) (hq:∀ b,q b->q' b):jg base q' W v l:=by
 obtain ⟨rs,e,h2,h3⟩:=h;exact ⟨rs,e,h2,fun r hr=>⟨(h3 r hr).1,(h3 r hr).2.mono fun b hb=>⟨hb.1,hq b hb.2⟩⟩⟩
theorem zbh {w:World} {E D E2 D2 c0:Nat} {q:Nat->Prop} {D0:Option Addr} {l:Int} {fs:List Pl} (hl:1<=l) (ag:l<=4) (aK:jd w q fs D0 0) (bZ:fs.length<=c0) (dO:c0<=9223372036854775807) (uC:fs.length<=1000) (aF:∀ f ∈ fs,Fit f E D) (hE:E<=60) (hD:D<=100000000000) (HP:Hid (xa9 l fs)) (lZ:∀ p ∈ elems l fs,Fit p E2 D2) (UO:E2<=170) (Dc:D2<=1099511627776) (jQ:(elems l fs).length<=90000) :
 Calls Tryz.prog 34 #[.slice D0 fs.length c0,.int .i64 l] w (qc9 (dF l fs) w):=by
 have nH:∀ k:Nat,(Fence.wide.depth.isSome=true->1<=k):=fun k h=>by cases h
 obtain ⟨WN,Uw⟩:=n_m (((w.alloc (.cells #[.slice none 0 0] 31)).alloc (.cells #[.nilFunc] 88)));have Gy:Ext w WN:=by rw [<- Uw]; exact ((Ext.refl w).alloc _).alloc _
 have BG:WN.heap.size=w.heap.size+2:=by rw [<- Uw]; simp
 have Uh:WN.heap[w.heap.size]?=some (.cells #[.slice none 0 0] 31 (0,0)):=by
  rw [<- Uw,Below.heap_alloc _ _ _ (by simp)]; exact heap_alloc_new w _
 have FN:WN.heap[w.heap.size+1]?=some (.cells #[.nilFunc] 88 (0,0)):=by
  rw [<- Uw];have:=heap_alloc_new (w.alloc (.cells #[.slice none 0 0] 31)) (.cells #[.nilFunc] 88)
  rwa [tL] at this
 have cn:=box1 FN;have fn:WN.frozen? ⟨w.heap.size+1,0,none⟩=false:=by simp [World.frozen?,FN]
 obtain ⟨W1,aV⟩:=n_m (WN.setCell ⟨w.heap.size+1,0,none⟩ (.func (.func 58) #[] #[.pointer (some ⟨w.heap.size,0,none⟩)]));have hx1:Ext w W1:=by rw [<- aV]; exact Gy.setCell (by show w.heap.size<=w.heap.size+1; omega) _
 have bW:W1.heap.size=w.heap.size+2:=by rw [<- aV]; simp only [World.setCell,Array.size_modify]; exact BG
 have FM:W1.heap[w.heap.size]?=some (.cells #[.slice none 0 0] 31 (0,0)):=by
  rw [<- aV,Below.heap_setCell _ _ _ _ (by show w.heap.size ≠ w.heap.size+1; omega)]; exact Uh
 have hbF:W1.heap[w.heap.size+1]?=some (.cells #[.func (.func 58) #[] #[.pointer (some ⟨w.heap.size,0,none⟩)]] 88 (0,0)):=by
  rw [<- aV]; exact Boxed.set _ FN
 have We:Hid (FS w.heap.size (w.heap.size+2) W1 []):=hid ⟨by omega,by omega,_,FM,jg.nil _ _ _⟩;have HBF:=hid hbF;have Gt:=hid FM;have tK:=hid hx1;have lQ:=hid aK;have iG:=hid aF;have Jo:=hid lZ;clear hx1 FM hbF aK aF lZ Uh FN Gy BG;refine (callsIn_wide (n:=5)).1 ?_;refine callsIn_of_wp_marks Tryz.func34 rfl trivial ?_ rfl;simp only [Tryz.ntmps34,tP,pL,r8,Nat.reduceAdd,Nat.reduceSub,uW,uR,Pb,we,tI,rI]
 gi_wp2_with fail
 clear Uw aV cn fn;refine ⟨trivial,?_⟩;refine (callsIn_wide.2 (zb0 (w:=W1))).mono ?_;rintro e w2 ⟨rfl,cL,cV,jG,x2⟩;have X2:=hid (tK.out.trans x2);have V4:=hid (We.out.ext x2);have adH:=hid ((x2.below.block _ (by omega)).trans HBF.out);have jC:Fw w.heap.size w2:=⟨by omega,V4.out.fresh⟩;have hT2:w2.cell? ⟨w.heap.size,0,none⟩=some (.slice none 0 0):=(x2.cell (p:=⟨w.heap.size,0,none⟩) (by show w.heap.size < _; omega)).trans (box1 Gt.out);have iZ:∀ b,b < w2.heap.size->b ≠ w.heap.size->Safe w.heap.size w2 b:=fun b hb hn=>⟨hb,hn,fun e=>by
  obtain ⟨v,hv,e'⟩:=e;rw [hT2] at hv;injection hv with hv
  subst hv
  cases e'⟩
 have vV:=hid (fun n=>wbz (T:=w.heap.size) (lo:=w2.heap.size) hl ag jC (pj _) (iZ W1.heap.size (by omega) (by omega)) (iZ (W1.heap.size+1) (by omega) (by omega)) cL cV bZ dO ((lQ.out.xo.ext X2.out).mono fun b hb hq=>iZ b hb (by omega)) uC iG.out hE hD HP n);have HKO:=hid (fun (W:World) (l:Nat) (o o':Obj) (h1:w2.heap.size<=l) (h2:W.heap[l]?=some o) (h3:o.isCells=false)=>yg.putObj w.heap.size W l o o' (by omega) h2 h3);obtain ⟨M,hM⟩:=n_m (elems l fs);have acS:Hid (dF l fs=putA [] M):=hid (by rw [<- hM]; rfl);rw [hM] at vV Jo jQ;rw [bW] at vV;clear x2 cL cV jC iZ hT2 Gt We HBF tK hM
 gi_wp2_with fail
 refine zcv (by omega) (gf := 85) (lb := #[.pointer (some ⟨w.heap.size + 2, 0, none⟩), .pointer (some ⟨w.heap.size + 2 + 1, 0, none⟩)]) rfl (enters_of Tryz.func85 (by kernel_rfl) rfl) (vV.out _) (fun A B h => h.other) yg.trans (fun W l o o' h1 h2 h3 _ => HKO.out W l o o' h1 h2 h3) (Below.refl _ _) (fun _ => rfl)
  (fun k W=>Ext w W/\w2.heap.size<=W.heap.size/\FS w.heap.size (w.heap.size+2) W (putA [] (M.take k))/\W.heap[w.heap.size+1]?=some (.cells #[.func (.func 58) #[] #[.pointer (some ⟨w.heap.size,0,none⟩)]] 88 (0,0)))
  ?ownI ?relI ?startI
  (fun k x a' W=>(∃ g A0 m0 e0 A1 e1,a'={ tmps:=#[.slice D0 fs.length c0,.int .i64 l,undef,undef,.slice none 0 0,.pointer (some ⟨w.heap.size,0,none⟩),.pointer (some ⟨w.heap.size+1,0,none⟩),.pointer (some ⟨g,0,none⟩),.func (.func 58) #[] #[.pointer (some ⟨w.heap.size,0,none⟩)],.slice D0 fs.length c0,.int .i64 l,.func (.func 85) #[] #[.pointer (some ⟨w.heap.size+2,0,none⟩),.pointer (some ⟨w.heap.size+2+1,0,none⟩)],x,undef,undef,undef,undef],defers:=[] }/\w2.heap.size<=g/\W.heap[g]?=some (.cells #[.int .i64 (M.getD k Pl.zero).lv,.bool (M.getD k Pl.zero).neg,.slice A0 m0 e0,.slice A1 (M.getD k Pl.zero).cs.length e1] 33 (0,0))/\∃ q,PlV W q (M.getD k Pl.zero) (plV (M.getD k Pl.zero) (.slice A0 m0 e0) (.slice A1 (M.getD k Pl.zero).cs.length e1)))/\Ext w W/\w2.heap.size<=W.heap.size/\FS w.heap.size (w.heap.size+2) W (putA [] (M.take k))/\W.heap[w.heap.size+1]?=some (.cells #[.func (.func 58) #[] #[.pointer (some ⟨w.heap.size,0,none⟩)]] 88 (0,0)))
  ?ownA ?assign ?body ?done
 case ownI =>
  rintro k W W' row ⟨h1,h2,h3,h4⟩ hg hr;have fJ:=fun r e=>(hr r e).2
  exact ⟨Below.grown h1.below hg h1.size (fun r e=>by have:=(hr r e).1; have:=h1.size; have:=X2.out.size; omega),py h2 hg.size,h3.kept hg fJ,cells_kept hg fJ h4⟩
 case relI =>
  rintro k A B ⟨h1,h2,h3,h4⟩ hr;have hk:=hr.keep.2;refine ⟨hr.ext h1 X2.out.size,by omega,h3.rel hr,?_⟩;obtain ⟨R,i,u,D,n,c,r1,-,-,-,-,rfl⟩:=hr;rw [Below.heap_setCell _ _ _ _ (by show w.heap.size+1 ≠ R; omega)]; exact h4
 case startI=>exact ⟨X2.out,pj _,V4.out,adH.out⟩
 case ownA =>
  rintro k x a' s W W' row ⟨⟨g,A0,m0,e0,A1,e1,ha,jT,dR,q,hq⟩,h1,h2,h3,h4⟩ hg hr;have fJ:=fun r e=>(hr r e).2
  exact ⟨⟨g,A0,m0,e0,A1,e1,ha,jT,cells_kept hg fJ dR,q,hq.kept hg fJ⟩,Below.grown h1.below hg h1.size (fun r e=>by have:=(hr r e).1; have:=h1.size; have:=X2.out.size; omega),py h2 hg.size,h3.kept hg fJ,cells_kept hg fJ h4⟩
 case assign =>
  rintro mm lp k x W K hk ⟨h1,h2,h3,h4⟩ ⟨lW,q,hq⟩ hK;have jB:M[k]=M.getD k Pl.zero:=by rw [pr,po lW]; rfl
  rw [jB] at hq;obtain ⟨A0,m0,e0,A1,e1,rfl,-⟩:=id hq.open_;generalize M.getD k Pl.zero=p at *;have hx1:Ext W (W.alloc (.cells #[.int .i64 p.lv,.bool p.neg,.slice A0 m0 e0,.slice A1 p.cs.length e1] 33)):=(Ext.refl W).alloc _;have HK:=hK { tmps:=#[.slice D0 fs.length c0,.int .i64 l,undef,undef,.slice none 0 0,.pointer (some ⟨w.heap.size,0,none⟩),.pointer (some ⟨w.heap.size+1,0,none⟩),.pointer (some ⟨W.heap.size,0,none⟩),.func (.func 58) #[] #[.pointer (some ⟨w.heap.size,0,none⟩)],.slice D0 fs.length c0,.int .i64 l,.func (.func 85) #[] #[.pointer (some ⟨w.heap.size+2,0,none⟩),.pointer (some ⟨w.heap.size+2+1,0,none⟩)],plV p (.slice A0 m0 e0) (.slice A1 p.cs.length e1),undef,undef,undef,undef],defers:=[] } _ (xas hx1) (yg.q9 h3.lt hx1) ⟨⟨W.heap.size,A0,m0,e0,A1,e1,rfl,h2,heap_alloc_new W _,q,hq.ext hx1⟩,h1.trans hx1,py h2 hx1.size,h3.ext hx1,(hx1.below.block _ (by omega)).trans h4⟩;have PH:=hid HK;clear HK hK h1 h2 h3 h4 hx1 hq;simp only [jdb];unfold plV at PH ⊢
  gi_wp2
  exact PH.out
 case body =>
  rintro mm lp k x a' W hk ⟨⟨g,A0,m0,e0,A1,e1,rfl,jT,dR,q,hq⟩,h1,h2,h3,h4⟩;have jB:M[k]=M.getD k Pl.zero:=by rw [pr,po hk]; rfl
  have dB:M.getD k Pl.zero ∈ M:=by rw [<- jB]; exact pt hk
  have tq:∀ c ∈ putA [] (M.take k),Fit c E2 D2:=fun c hc=>by
   rcases kbv _ _ c hc with h | ⟨p,hp,rfl⟩
   · cases h
   · exact ual (Jo.out p (tl hp))
  have hlen:(putA [] (M.take k)).length<=100000:=by
   have:=wbd (M.take k) [];rw [pA] at this;simp only [r8] at this;omega
  have YS:=hid (jc0 _ hq (Jo.out _ dB) UO Dc h3 tq hlen);have Ep:Hid (putL (putA [] (M.take k)) (M.getD k Pl.zero)=putA [] (M.take (k+1))):=hid (by rw [vcl hk,jB]);rw [Ep.out] at YS;have H1:=hid h1;have H4:=hid h4;have H3:=hid h3;obtain ⟨c0',c1',c2',c3'⟩:=box4 dR;have cF:=box1 h4;clear h1 h3 h4 dR hq tq hlen jB dB;generalize M.getD k Pl.zero=p at *;unfold plV at YS
  gi_wp2_with fail
  clear c0' c1' c2' c3' cF;refine ⟨trivial,nH _,?_⟩;refine (callsIn_wide.2 YS.out).mono ?_;rintro e W3 ⟨⟨r,rfl⟩,TV⟩;have bT:Hid (KeepsFrom w2.heap.size W W3/\yg w.heap.size W W3/\Ext w W3/\w2.heap.size<=W3.heap.size/\FS w.heap.size (w.heap.size+2) W3 (putA [] (M.take (k+1)))/\W3.heap[w.heap.size+1]?=some (.cells #[.func (.func 58) #[] #[.pointer (some ⟨w.heap.size,0,none⟩)]] 88 (0,0))):=hid (by
   obtain ⟨cf,ck,co,ce⟩:=TV;refine ⟨⟨ck.size,fun i o _ hi ho=>co i o hi ho⟩,ck,ce w H1.out (pj _),py h2 ck.size,cf,?_⟩;refine ck.obj _ _ (by omega) (fun e=>?_) H4.out rfl;obtain ⟨v,hv,e'⟩:=e;obtain ⟨-,-,fv,CJ,hq⟩:=H3.out;rw [box1 CJ] at hv;injection hv with hv
   subst hv;have:=(hq.own e').1
   omega)
  clear TV YS
  gi_wp2_with fail
  simp only [ga6];exact bT.out
 case done =>
  rintro D W hD ⟨h1,h2,h3,h4⟩ hK;rw [pP] at h3;rw [<- acS.out] at h3;obtain ⟨-,-,fv,CJ,hq⟩:=id h3;obtain ⟨FA,fc,rfl,kE,lY⟩:=hq.len;have t0:=box1 CJ;have H1:=hid h1;have PI:=hid hK;have HQ:=hid hq;have yH:=X2.out.size;clear h1 h2 h3 h4 hK CJ hq
  gi_wp2_with fail
  refine ⟨by simp,.inl ⟨_,_,rfl,run_takeDeferred PI.out,?_⟩⟩;have jS:=grownBy_putObj' W D (.deferred none);have fJ:∀ r,some D=some r->∃ o:Obj,W.heap[r]?=some o/\o.isCells=false:=fun r e=>⟨_,by injection e with e; subst e; exact PI.out,rfl⟩
  have abp:jg w.heap.size (fun b=>w.heap.size<=b) (W.putObj D (.deferred none)) (.slice FA (dF l fs).length fc) (dF l fs):=by
   refine ((HQ.out.jt jS.size (fun v ds hv=>kat jS fJ hv) fun i o hi hc=>?_).less (by omega)).mono fun b hb=>by omega
   obtain ⟨c,t,f,rfl⟩:∃ c t f,o=.cells c t f:=by cases o <;> simp_all [Obj.isCells]
   exact cells_kept jS fJ hi
  exact ⟨.slice FA (dF l fs).length fc,by simp [results,Tryz.results34,go_sem],_,rfl,abp,Below.grown H1.out.below jS H1.out.size (fun k e=>by injection e with e; omega)⟩
end Go.Proofs.YtcepajijiabkmaaGreat

namespace Go.Proofs.YtcepajijiabkmaaGreat
open Lib (hid)
open Go.RowKit
theorem kbc {w:World} {E D E2 D2 c0:Nat} {q:Nat->Prop} {D0:Option Addr} {l:Int} {fs:List Pl} (hl:1<=l) (ag:l<=4) (aK:jd w q fs D0 0) (bZ:fs.length<=c0) (dO:c0<=9223372036854775807) (uC:fs.length<=1000) (aF:∀ f ∈ fs,Fit f E D) (hE:E<=60) (hD:D<=100000000000) (HP:Hid (xa9 l fs)) (lZ:∀ p ∈ elems l fs,Fit p E2 D2) (UO:E2<=170) (Dc:D2<=1099511627776) (jQ:(elems l fs).length<=90000) (fC:∀ f ∈ fs,f.lv<=l) :
 Calls Tryz.prog 12 #[.slice D0 fs.length c0,.int .i64 l] w (xbn (fun b=>w.heap.size<=b) (dF l fs) 0 w):=by
 have lQ:=hid aK;have qY:=hid (fun (W':World) (hx:Ext w W')=>zbh (w:=W') hl ag (aK.ext hx) bZ dO uC aF hE hD HP lZ UO Dc jQ);have iG:=hid aF;have Eu:=hid fC;have D8:¬ l < 1:=by omega
 have Fg:¬ 4 < l:=by omega
 clear aK aF fC lZ;go_enter Tryz.func12,Tryz.ntmps12;go_wp2_with fail
 go_loopw [16] (fun iv wr=>∃ k:Nat,k<=fs.length/\iv=.int .i64 k/\Hid (Ext w wr)) (fun iv _=>fs.length - (intOf iv).toNat)
 case atStart=>exact ⟨0,pS _,rfl,hid (Ext.refl w)⟩
 case round =>
  obtain ⟨k,hk,rfl,HI⟩:=hrel
  by_cases af:k < fs.length
  · obtain ⟨ad,C0,j0,k0,C1,j1,k1,rfl,ah,⟨g0,g1,g2,g3⟩,fP⟩:=(lQ.out.ext HI.out).ym k af;have fU:=iG.out fs[k] (pt af);have Cm:¬ l < fs[k].lv:=by have:=Eu.out fs[k] (pt af); omega
    obtain ⟨U,hU⟩:=n_m ((wr.alloc (.cells #[.int .i64 fs[k].lv,.bool fs[k].neg,.slice C0 j0 k0,.slice C1 j1 k1] 33)));have hxU:Ext wr U:=by rw [<- hU]; exact (Ext.refl wr).alloc _
    obtain ⟨s0,s1,s2,s3⟩:jb U wr.heap.size fs[k] (.slice C0 j0 k0) (.slice C1 j1 k1):=by rw [<- hU]; exact jb.new wr fs[k] _ _ _
    have nK:=hid (ga2 (w:=U) _ (fP.ext hxU) (Or.inr ⟨fU.can,fU.copy_ (by omega),by have:=fU.dm; omega⟩));rw [Pl.q7 fU.can] at nK;have Em:=hid (HI.out.trans hxU);generalize fs[k]=f at *;unfold plV at nK;clear ah fP fU hxU HI;go_wp2_with fail;clear g0 g1 g2 g3 s0 s1 s2 s3 hU;refine nK.out.mono ?_;rintro e w2 ⟨rfl,x2⟩;have HN:=hid (Em.out.trans x2);clear x2 nK;go_wp2_with fail
    go_roundw
    case rel=>exact ⟨k+1,by omega,by go_num,HN.out⟩
    case measure=>simp [intOf]; omega
  · obtain rfl:k=fs.length:=by omega
    have HR:=hid (qY.out wr HI.out);have HX:=hid HI.out;clear HI qY;go_wp2_with fail;refine HR.out.mono ?_;rintro e w2 ⟨v2,rfl,qM,x2⟩;obtain ⟨F0,fc,rfl,kE,lY⟩:=qM.len;have jL:=HX.out.size;have kF:jd w2 (fun b=>w.heap.size<=b) (dF l fs) F0 0:=jd.xl (pj _) (fun _ _ h=>h) (fun b _ hb=>⟨by rcases hb with h | h <;> omega,rfl⟩) _ _ _ qM.at_;have HF:Hid (xbn (fun b=>w.heap.size<=b) (dF l fs) 0 w (.returned (.tuple #[.slice F0 (dF l fs).length fc,.int .i64 0])) w2):=hid ⟨_,rfl,⟨F0,fc,rfl,kE,lY,kF⟩,HX.out.trans x2⟩;clear kF x2 HR qM jL;go_wp2_with fail;exact bodyPost_ret (v:=.tuple #[.slice F0 (dF l fs).length fc,.int .i64 0]) (by simp [results,Tryz.results12,go_sem]) rfl HF.out
theorem zbs {w:World} {E D E2 D2 c0:Nat} {q:Nat->Prop} {D0:Option Addr} {l:Int} {fs:List Pl} (hl:1<=l) (ag:l<=4) (aK:jd w q fs D0 0) (bZ:fs.length<=c0) (dO:c0<=9223372036854775807) (uC:fs.length<=1000) (aF:∀ f ∈ fs,Fit f E D) (hE:E<=60) (hD:D<=100000000000) (HP:Hid (xa9 l fs)) (lZ:∀ p ∈ elems l fs,Fit p E2 D2) (UO:E2<=170) (Dc:D2<=1099511627776) (jQ:(elems l fs).length<=90000) (fC:∀ f ∈ fs,f.lv<=l) :
 Calls Tryz.prog 12 #[.slice D0 fs.length c0,.int .i64 l] w (xbn (fun _=>True) (dF l fs) 0 w):=by
 refine (kbc hl ag aK bZ dO uC aF hE hD HP lZ UO Dc jQ fC).mono ?_;rintro e w2 ⟨v,rfl,⟨F0,fc,rfl,h1,h2,h3⟩,hx⟩;exact ⟨_,rfl,⟨F0,fc,rfl,h1,h2,jd.xl (pj _) (fun _ _ h=>h) (fun b _ _=>⟨trivial,rfl⟩) _ _ _ h3⟩,hx⟩
theorem udd {z:Int} (h:z ≠ 0):dg z.natAbs ≠ []:=fun e=>by
 have h1:=vak (n:=z.natAbs) (by omega);rw [e] at h1;simp at h1
theorem ua3 {z:Int} (h:z ≠ 0):Pl.const z ≠ Pl.zero:=fun e=>by
 unfold Pl.const Pl.zero at e;injection e with _ _ e _
 exact udd h e
def qd (l:Int) (a b:Pl):Pl:=.mk l false [] [b,Pl.zero,a]
theorem jbv {l:Int} (h1:1<=l) (h4:l<=4) {a b:Pl} (ha:a.Can) (hb:b.Can) (Lt:a.lv < l) (xA:b.lv < l) (h0:a ≠ Pl.zero):(qd l a b).Can:=by
 refine wa6 h1 h4 (by simp) (zaf fun c hc=>?_) (by simpa using h0);simp only [pQ,sM,or_false] at hc;rcases hc with rfl | rfl | rfl
 · exact ⟨xA,hb⟩
 · exact ⟨by simp only [Pl.zero,Pl.lv]; omega,Pl.qS⟩
 · exact ⟨Lt,ha⟩
theorem qbv (ρ:Int->Rat) {l:Int} (h1:1<=l) (h4:l<=4) (a b:Pl):(qd l a b).val ρ=b.val ρ+ρ l * ρ l * a.val ρ:=by
 unfold qd;rw [Pl.mk_val ρ _ _ _ (by omega) h4,ve,ve,ve,ve,Pl.qu]
 grind
theorem kae (z:Int):(Pl.const z).lv=0:=rfl
def gQ:Pl:=qd 1 (Pl.const 1) (Pl.const (-1))
def fQ:Pl:=qd 2 (Pl.const 1) gQ
theorem gbi:gQ.Can:=jbv (by omega) (by omega) (zt _) (zt _) (by rw [kae]; omega) (by rw [kae]; omega) (ua3 (by omega))
theorem qbj:fQ.Can:=jbv (by omega) (by omega) (zt _) gbi (by rw [kae]; omega) (by simp [gQ,qd,Pl.lv]) (ua3 (by omega))
theorem ubi (ρ:Int->Rat):gQ.val ρ=ρ 1 * ρ 1 - 1:=by
 unfold gQ; rw [qbv ρ (by omega) (by omega),Pl.qT,Pl.qT]; push_cast; grind
theorem zdb (ρ:Int->Rat):fQ.val ρ=ρ 1 * ρ 1 - 1+ρ 2 * ρ 2:=by
 unfold fQ; rw [qbv ρ (by omega) (by omega),Pl.qT,ubi]; push_cast; grind
theorem gc2:(((Pl.var 1).pow 2).add ((Pl.var 2).pow 2)).add (Pl.const 1).z8=fQ:=Pl.qz (Pl.yk _ _) qbj fun ρ=>by
 rw [Pl.yi,Pl.yi,Pl.xV,Pl.yW,Pl.yW,Pl.qT,Pl.vt ρ (by omega) (by omega),Pl.vt ρ (by omega) (by omega),zdb]
 push_cast; grind
theorem uc2:((Pl.var 1).pow 2).add (Pl.const 1).z8=gQ:=Pl.qz (Pl.yk _ _) gbi fun ρ=>by
 rw [Pl.yi,Pl.xV,Pl.yW,Pl.qT,Pl.vt ρ (by omega) (by omega),ubi]
 push_cast; grind
theorem xbj:fQ.xi 2=[gQ,Pl.zero,Pl.const 1]:=(Pl.xf (by omega) (by omega) qbj).uniq (wat qbj (by omega))
theorem waz:mdg 2 fQ=2:=by unfold mdg; rw [xbj]; rfl
theorem kbm:qo 2 fQ=Pl.const 1:=by unfold qo; rw [xbj]; rfl
theorem xcp:uh 2 fQ=[fQ]:=by
 unfold uh; rw [waz];show yad 2 (1+1) fQ=_;rw [qay (by rw [waz]; omega),kbm,if_pos (kae 1)]
theorem qdb:qak 2 fQ=true:=by
 unfold qak; rw [waz];show jan 2 (1+1) fQ=_;rw [vba (by rw [waz]; omega),kbm,if_pos (kae 1)]
def dQ:Pl:=.mk 2 false [] [Pl.zero,Pl.const 2]
theorem ua0:dQ.Can:=by
 refine wa6 (by omega) (by omega) (by simp) (zaf fun c hc=>?_) (by simpa using ua3 (z:=2) (by omega));simp only [pQ,sM,or_false] at hc;rcases hc with rfl | rfl
 · exact ⟨by simp only [Pl.zero,Pl.lv]; omega,Pl.qS⟩
 · exact ⟨by rw [kae]; omega,zt _⟩
theorem vdb (ρ:Int->Rat):dQ.val ρ=ρ 2 * 2:=by
 unfold dQ;rw [Pl.mk_val ρ _ _ _ (by omega) (by omega),ve,ve,ve,Pl.qu,Pl.qT]; push_cast; grind
theorem gcg:jac 2 fQ=dQ:=Pl.qz (qcz _ _) ua0 fun ρ=>by
 unfold jac;rw [if_pos ⟨by omega,by omega⟩,zad (by omega) (by omega),xbj,vdb];simp only [List.tail_cons,zaj,ve,Pl.qD,Pl.qu,Pl.qT]
 push_cast; grind
theorem zcq:dQ.xi 2=[Pl.zero,Pl.const 2]:=(Pl.xf (by omega) (by omega) ua0).uniq (wat ua0 (by omega))
theorem va0:mdg 2 dQ=1:=by unfold mdg; rw [zcq]; rfl
def sQ:Pl:=qd 1 (Pl.const 4) (Pl.const (-4))
theorem wck:sQ.Can:=jbv (by omega) (by omega) (zt _) (zt _) (by rw [kae]; omega) (by rw [kae]; omega) (ua3 (by omega))
theorem ubu (ρ:Int->Rat):sQ.val ρ=4 * (ρ 1 * ρ 1) - 4:=by
 unfold sQ; rw [qbv ρ (by omega) (by omega),Pl.qT,Pl.qT]; push_cast; grind
theorem xcd:qi 2 fQ dQ=sQ:=Pl.qz (qac _ _ _) wck fun ρ=>by
 have hz:dQ.z8.zp=false:=by
  cases e:dQ.z8.zp
  · rfl
  · exfalso
    have h1:=(Pl.xj (Pl.ye _)).1 e;have h2:=vb9 (l:=2) (by omega) (by omega) ua0;rw [h1,va0] at h2;have h3:mdg 2 Pl.zero=-1:=(jav Pl.qS).2 rfl;rw [h3] at h2; omega
 unfold qi qag;rw [if_pos ⟨by omega,by omega⟩,hz,if_neg (by simp),zad (by omega) (by omega),ubl (by omega) (by omega) ua0,xbj,zcq,ubu];have hg:=ubi ρ;simp [jq,qy,ve,Pl.qD,Pl.yd,Pl.xV,Pl.qu,Pl.qT,hg]
 grind
theorem gck:wu 2 fQ dQ=[sQ]:=by
 unfold wu;rw [waz,va0,if_neg (by omega),if_pos rfl,xcd,ga3 (by omega) (by omega) wck];have:=ga1 (l:=2) (by omega) (by omega) qbj ua0 (qah (l:=2) (by rw [va0]; omega));rw [xcd,va0] at this; omega
theorem ybf:elems 2 [fQ]=[Pl.const 1,sQ]:=by
 unfold elems ybe;have:wak 2 fQ=[Pl.const 1,sQ]:=by
  unfold wak kac;rw [xcp,qdb,if_pos (Or.inr rfl)];simp [kbm,gcg,gck]
 simp [this,RB]
theorem xdd:sQ.sp=[(4,⟨2,0,0,0⟩),(-4,Mo.one)]:=by
 refine (Pl.Kx ?_ ?_ fun ρ=>?_).symm
 · unfold yt;refine ⟨by omega,fun x hx=>?_,?_⟩
   · rw [pD] at hx;subst hx;simp [Mo.lt,Mo.one]
   · unfold yt;exact ⟨by omega,by simp,by trivial⟩
 · intro x hx;simp only [pQ,sM,or_false] at hx;rcases hx with rfl | rfl <;> simp [Mo.qe,Mo.one]
 · rw [ubu];simp only [xn,Mo.val,Mo.one];rw [show Int.toNat 2=2 from rfl,show Int.toNat 0=0 from rfl]
   push_cast
   grind
theorem qdd:snP sQ=gQ:=Pl.qz (jaz _) gbi fun ρ=>by
 have h:=kc5 ρ sQ;have hd:sdv sQ.sp=4:=by rw [xdd]; rfl
 rw [hd,ubu] at h;rw [ubi]
 push_cast at h
 grind
theorem ydb:dF 2 [fQ]=[gQ]:=by
 unfold dF;rw [ybf];unfold putA;simp only [Sn,List.foldl_nil];have h1:putL [] (Pl.const 1)=[]:=by unfold putL; rw [if_pos (kae 1)]
 rw [h1];unfold putL;rw [if_neg (by simp [sQ,qd,Pl.lv]),if_neg (by simp),qdd]
 rfl
theorem qb8 (n:Int) (w:World):Calls Tryz.prog 23 #[.int .i64 n] w (uf (fun b=>w.heap.size<=b) (Pl.var n) w):=by
 obtain ⟨W,hW⟩:=n_m (w.alloc (.cells #[.int .i64 0,.bool false,.slice none 0 0,.slice none 0 0] 33));have ai:Ext w W:=by rw [<- hW]; exact (Ext.refl w).alloc _
 have hz:jf W w.heap.size:=by rw [<- hW]; exact jf.new w _
 have hs:=ai.size;have bW:W.heap.size=w.heap.size+1:=by rw [<- hW]; simp
 have aG:=hid ai;have HZ:=hid hz;have HL:=hid (uay n W);clear ai hz
 by_cases h:1<=n/\n<=4
 · have hv:Pl.var n=.mk n false [] [Pl.zero,Pl.const 1]:=if_pos h;rw [hv];rw [decide_eq_true h.1,decide_eq_true h.2] at HL;clear hv;go_enter Tryz.func23,Tryz.ntmps23;go_wp2_with fail;clear hW;refine HL.out.mono ?_;rintro e w1 ⟨rfl,rfl⟩;go_wp2_with fail;refine (of_int 1 w1 (by omega) (by omega)).mono ?_;rintro e w2 ⟨z2,rfl,⟨y2,rfl,m2⟩,x2⟩;obtain ⟨C2,k2,rfl,-⟩:=id m2;have aQ:=HZ.out.ext x2 (by omega);have jG:=x2.size
   have HF:Hid (∀ W2:World,Ext w2 W2->(∀ j,j < 8->W2.cell? ⟨w2.heap.size,j,none⟩=#[Value.int .i64 0,.bool false,.slice none 0 0,.slice none 0 0,.int .i64 0,.bool (decide ((1:Int) < 0)),.slice C2 (dg (1:Int).natAbs).length k2,.slice none 0 0][j]?)->w2.heap.size < W2.heap.size ->
    PlV W2 (fun b=>b=w2.heap.size) (.mk n false [] [Pl.zero,Pl.const 1]) (plV (.mk n false [] [Pl.zero,Pl.const 1]) (.slice none 0 0) (.slice (some ⟨w2.heap.size,0,none⟩) 2 2))):=by
    refine hid ?_;intro W2 hx hc af;refine PlV.mk (t:=.mk n false [] [Pl.zero,Pl.const 1]) (A:=some ⟨w2.heap.size,0,none⟩) (c:=2) (jc.nil W2) (pj 2) (by decide) ?_;refine ⟨⟨⟨w2.heap.size,0,none⟩,.slice none 0 0,.slice none 0 0,rfl,af,rfl,⟨hc 0 (by omega),hc 1 (by omega),hc 2 (by omega),hc 3 (by omega)⟩,Pl.xt _ _ none 0 (by decide)⟩,⟨⟨w2.heap.size,0,none⟩,.slice C2 (dg (1:Int).natAbs).length k2,.slice none 0 0,rfl,af,rfl,⟨?_,hc 5 (by omega),hc 6 (by omega),hc 7 (by omega)⟩,jbq _ (m2.ext hx)⟩,trivial⟩;rw [zu];exact hc 4 (by omega)
   obtain ⟨W2,zK⟩:=n_m (w2.alloc (.cells #[.int .i64 0,.bool false,.slice none 0 0,.slice none 0 0,.int .i64 0,.bool false,.slice C2 (dg 1).length k2,.slice none 0 0] 33));have aN:Ext w2 W2:=by rw [<- zK]; exact (Ext.refl w2).alloc _
   have jH:=HF.out W2 aN (fun j hj=>by
    rcases (show j=0\/j=1\/j=2\/j=3\/j=4\/j=5\/j=6\/j=7 by omega) with rfl | rfl | rfl | rfl | rfl | rfl | rfl | rfl <;> (rw [<- zK]; simp [go_sem])) (by rw [<- zK]; simp)
   have Qh:=aQ.ext aN (by omega);have Wh:=hid (qf (q':=fun b=>w.heap.size<=b) ((aG.out.trans x2).trans aN) (pj _) Qh jH (fun b _ hb=>⟨by omega,by omega⟩));obtain ⟨⟨z0,z1,z2',z3⟩,zf⟩:=Qh;clear x2 m2 aQ jH aN HF;go_wp2_with fail;exact bodyPost_ret (by simp [results,Tryz.results23,go_sem,z0,z1,z2',z3,plV,Pl.lv,Pl.neg,Pl.cs]) rfl Wh.out
 · have hv:Pl.var n=Pl.zero:=if_neg h;rw [hv];have VT:Hid (Calls Tryz.prog 50 #[.int .i64 n] W fun e w'=>e=.returned (.bool false)/\w'=W):=by
    rw [show (decide (1<=n) && decide (n<=4))=false by simp; omega] at HL;exact HL
   have Wh:=hid (qf (q':=fun b=>w.heap.size<=b) aG.out (pj _) HZ.out (Pl.xt W (fun b=>w.heap.size<=b/\b ≠ w.heap.size) none 0 (by decide)) (fun b _ hb=>⟨hb.2,hb.1⟩));obtain ⟨⟨z0,z1,z2',z3⟩,zf⟩:=HZ.out;clear hv HL h;go_enter Tryz.func23,Tryz.ntmps23;go_wp2_with fail;clear hW;refine VT.out.mono ?_;rintro e w1 ⟨rfl,rfl⟩;go_wp2_with fail;exact bodyPost_ret (by simp [results,Tryz.results23,go_sem,z0,z1,z2',z3,plV,Pl.zero,Pl.lv,Pl.neg,Pl.cs]) rfl Wh.out
end Go.Proofs.YtcepajijiabkmaaGreat
