/- Layer 41: collins.required's collecting closure. -/
import Derived.Test.YtcepajijiabkmaaGreatMo39
set_option linter.all false
set_option maxRecDepth 100000
set_option maxHeartbeats 8000000
namespace Go.Proofs.YtcepajijiabkmaaGreat
open Lib (hid)
open Go.RowKit
structure vba (T base : Nat) (acc : List Pl) (w w' : World) : Prop where
 fs:FS T base w' acc
 keep:yg T w w'
 other:∀ (i:Nat) (o:Obj),w.heap[i]?=some o->o.isCells=false->w'.heap[i]?=some o
 ext:∀ w0,Ext w0 w->w0.heap.size<=T->Ext w0 w'
theorem vba.xi {T base:Nat} {acc:List Pl} {w w':World} (h:FS T base w acc) (hx:Ext w w'):vba T base acc w w':=
 ⟨h.ext hx,yg.xi h.lt hx,fun i o hi _=>(hx.below.block i (lt_of_some hi)).trans hi,fun w0 h0 _=>h0.trans hx⟩
theorem xao {W:World} {a b:Addr} {u v:Value} (h:a.block ≠ b.block):(W.setCell a u).setCell b v=(W.setCell b v).setCell a u:=by
 unfold World.setCell
 congr 1
 refine Array.ext (by simp) fun i h1 h2=>?_
 simp only [pae]
 by_cases e1:a.block=i <;> by_cases e2:b.block=i
 · omega
 · simp [e1,e2]
 · simp [e1,e2]
 · simp [e1,e2]
theorem xg.pos {base:Nat} {q:Nat->Prop} {W:World} {v:Value} {l:List Pl} (h:xg base q W v l) (hl:0 < l.length):∃ g c,v=.slice (some ⟨g,0,none⟩) l.length c/\l.length<=c/\c<=9223372036854775807/\base<=g/\g < W.heap.size/\∀ i,W.frozen? ⟨g,i,none⟩=false:=by
 obtain ⟨rs,rfl,h2,-⟩:=h;rw [pw] at hl ⊢;exact h2.pos hl
theorem xg.obj {base:Nat} {q:Nat->Prop} {W:World} {v:Value} {l:List Pl} (h:xg base q W v l) {R:Nat} (hR:v.ownBlock=some R):∃ cur T fr,W.heap[R]?=some (.cells cur T fr):=by
 obtain ⟨rs,-,h2,-⟩:=h;exact yag h2.1 R hR
theorem yck {T base g c : Nat} {acc : List Pl} {P : Pl} {w wr w4 w5 Wf : World} {fv : Value} {A0 A1 : Option Addr} {n0 c0 n1 c1 : Nat} (MC : FS T base w acc) (hx : Ext w wr) (CJ : wr.heap[T]? = some (.cells #[fv] 31 (0, 0))) (hq : xg base (fun b => base <= b) wr fv acc) (nV : wr.grownBy w4 fv.ownBlock) (iE : ∀ v ds, jc wr v ds -> jc w4 v ds)
 (dO:xg base (fun b=>base<=b) w4 (.slice (some ⟨g,0,none⟩) (acc ++ [Pl.zero]).length c) (acc ++ [Pl.zero])) (nG:some g=fv.ownBlock\/wr.heap.size<=g) (hp:PlV w4 (fun b=>b ≠ g/\base<=b) P (plV P (.slice A0 n0 c0) (.slice A1 n1 c1)))
 (h5:((((w4.setCell ⟨g,acc.length * 4,none⟩ (.int .i64 P.lv)).setCell ⟨g,acc.length * 4+1,none⟩ (.bool P.neg)).setCell ⟨g,acc.length * 4+2,none⟩ (.slice A0 n0 c0)).setCell ⟨g,acc.length * 4+3,none⟩ (.slice A1 n1 c1))=w5) (hf:w5.setCell ⟨T,0,none⟩ (.slice (some ⟨g,0,none⟩) (acc ++ [Pl.zero]).length c)=Wf):vba T base (acc ++ [P]) w Wf:=by
 have af:acc.length < (acc ++ [Pl.zero]).length:=by simp
 have aV:=dO.xD acc.length af P hp;rw [h5] at aV;have hl:(acc ++ [Pl.zero]).set acc.length P=acc ++ [P]:=by rw [ti _ _ (pj _),Pw]; rfl
 rw [hl] at aV;obtain ⟨hs,BF⟩:=aV;have CE:=dO.own (R:=g) rfl;obtain ⟨hTb,hbw,fw,jB,-⟩:=id MC;have hTw:T < w.heap.size:=by omega
 have e0:fw=fv:=by
  have:=(hx.below.block T hTw).trans jB;rw [CJ] at this;simp at this;exact this.symm
 subst e0;have hTg:T ≠ g:=by omega
 have hTo:fw.ownBlock ≠ some T:=fun e=>by have:=(hq.own e).1; omega
 have hFo:∀ b,fw.ownBlock=some b->vae T w b:=fun b e=>⟨fw,box1 jB,e⟩
 have b5:∀ k,k ≠ g->w5.heap[k]?=w4.heap[k]?:=fun k hk=>by rw [<- h5,Below.heap_setCell _ _ _ k hk,Below.heap_setCell _ _ _ k hk,Below.heap_setCell _ _ _ k hk,Below.heap_setCell _ _ _ k hk]
 have b4:∀ k,k < wr.heap.size->fw.ownBlock ≠ some k->w4.heap[k]?=wr.heap[k]?:=fun k hk hn=>rz nV k hk (fun e=>hn e.symm)
 have bf:∀ k,k ≠ T->Wf.heap[k]?=w5.heap[k]?:=fun k hk=>by rw [<- hf]; exact Below.heap_setCell _ _ _ k hk
 have s5:w5.heap.size=w4.heap.size:=by rw [<- h5]; simp [World.setCell]
 have sf:Wf.heap.size=w5.heap.size:=by rw [<- hf]; simp [World.setCell]
 have sx:=hx.size;have s4:=nV.size;have hT5:w5.heap[T]?=some (.cells #[fw] 31 (0,0)):=(b5 T hTg).trans ((b4 T (by omega) hTo).trans CJ);have hTf:Wf.heap[T]?=some (.cells #[.slice (some ⟨g,0,none⟩) (acc ++ [Pl.zero]).length c] 31 (0,0)):=by rw [<- hf]; exact Boxed.set _ hT5
 have ik:uo fw=false:=by obtain ⟨A,c,rfl,-⟩:=hq.len; rfl
 have nf:∀ v ds,jc w5 v ds->jc Wf v ds:=fun v ds hv=>by rw [<- hf]; exact hv.box (box1 hT5) ik _
 have kU:∀ b,vae T Wf b->b=g:=fun b ⟨v,hv,e⟩=>by
  rw [box1 hTf] at hv;injection hv with hv
  subst hv;injection e with e; exact e.symm
 have hgw:∀ i,i < w.heap.size->¬ vae T w i->i ≠ g:=fun i hi hn e=>by
  rcases nG with h | h
  · exact hn (hFo i (by rw [e]; exact h.symm))
  · omega
 have QO:xg base (fun b=>base<=b) Wf (.slice (some ⟨g,0,none⟩) (acc ++ [Pl.zero]).length c) (acc ++ [P]):=
  hs.Vn ⟨by omega,nf,fun b _ hb=>bf b hb⟩ (fun e=>by injection e with e; exact hTg e.symm) (fun b hb=>by omega)
 refine ⟨⟨hTb,by omega,_,hTf,QO⟩,⟨by omega,fun i o hiT hn hi _=>?_,fun i hi e=>?_,fun _ b e=>?_,fun v ds hv=>nf _ _ (BF _ _ (iE _ _ (hv.ext hx)))⟩,fun i o hi ho=>?_,fun w0 h0 h0T=>?_⟩
 · have fV:=lt_of_some hi;exact (bf i hiT).trans ((b5 i (hgw i fV hn)).trans ((b4 i (by omega) (fun e=>hn (hFo i e))).trans ((hx.below.block i fV).trans hi)))
 · have e1:=kU i e;rcases nG with h | h
   · exact hFo i (by rw [e1]; exact h.symm)
   · omega
 · have e1:=kU b e;omega
 · have fV:=lt_of_some hi;have h1:=(hx.below.block i fV).trans hi;have n1:fw.ownBlock ≠ some i:=fun e=>by
    obtain ⟨cur,t,fr,hc⟩:=hq.obj e;rw [h1] at hc; injection hc with hc; rw [hc] at ho; cases ho
   have h2:=(b4 i (by omega) n1).trans h1;have n2:i ≠ g:=fun e=>by
    obtain ⟨cur,t,fr,hc⟩:=dO.obj (R:=g) rfl;rw [e,hc] at h2; injection h2 with h2; rw [<- h2] at ho; cases ho
   have n3:i ≠ T:=fun e=>by
    rw [e,jB] at hi; injection hi with hi; rw [<- hi] at ho; cases ho
   exact (bf i n3).trans ((b5 i n2).trans h2)
 · have GN:=h0.size;have h1:Ext w0 w4:=Below.grown (h0.trans hx).below nV (by omega) (fun k e=>by have:=(hq.own e).1; omega);have FB:w0.heap.size<=g:=by omega
   rw [<- hf,<- h5];exact ((((h1.setCell FB _).setCell FB _).setCell FB _).setCell FB _).setCell h0T _
theorem jc7 {w:World} {T base E D:Nat} {q:Nat->Prop} {acc:List Pl} {p:Pl} (v:Value) (h0:PlV w q p v) (hp:Fit p E D) (hE:E<=170) (hD:D<=1099511627776) (MC:FS T base w acc) (tu:∀ c ∈ acc,Fit c E D) (hn:acc.length<=100000) :
 Calls Tryz.prog 58 #[v,.pointer (some ⟨T,0,none⟩)] w fun e w'=>(∃ r,e=.returned r)/\vba T base (putL acc p) w w':=by
 have H0:=hid h0;obtain ⟨A0,m0,e0,B0,f0,rfl,-⟩:=h0.open_;obtain ⟨W,gI,iT,aC,aX⟩:=b_1 w p (.slice A0 m0 e0) (.slice B0 p.cs.length f0);have HX:=hid aC;have dJ:=hid aX;have fZ:W.heap.size=w.heap.size+1:=iT;clear h0 aC aX;have Ju:=hid MC;have alM:=hid tu;have HC:=hid (fun (W':World) (hx:Ext w W')=>ua9 p _ (H0.out.ext hx) (hp.small hE) (by have:=hp.dm; omega) (by rw [Pl.q7 hp.can]; exact hp) (by omega));rw [Pl.q7 hp.can] at HC;have HS:=hid (fun (W':World) (hx:Ext w W')=>gda _ (H0.out.ext hx) hp hE hD);have o8:=uam hp;have Po:=hid (fun (W':World) (q' q'':Nat->Prop) (u u':Value) (c:Pl) (hc:c ∈ acc) (h1:PlV W' q' (snP p) u) (h2:PlV W' q'' c u')=>xbr u u' h1 h2 (o8.small hE) (by have:=o8.dm; omega) ((tu c hc).small hE) (by have:=(tu c hc).dm; omega) (by rw [Pl.q7 o8.can]; exact o8) hE);have qZ:Hid (∀ i,W.frozen? ⟨w.heap.size,i,none⟩=false):=hid (by rw [<- gI]; intro i; simp [go_sem]);have EG:=hid (And.intro o8.can fun c hc=>(tu c hc).can);obtain ⟨b0,b1,b2,b3⟩:=dJ.out;unfold plV at HC HS ⊢;clear hp MC tu iT;go_enter Tryz.func58,Tryz.ntmps58;go_wp2_with fail;clear b0 b1 b2 b3;refine (HC.out _ HX.out).mono ?_;rintro e w1 ⟨x1,rfl,i1,y1⟩;obtain ⟨bx,Bx,nx,cx,rfl⟩:=i1.unpack;obtain ⟨W1,aW⟩:=n_m ((w1.alloc (.cells #[.bool bx,.slice Bx nx cx] 30)));have yB:Ext W W1:=by rw [<- aW]; exact y1.alloc _
 have tN:=hid yB;obtain ⟨b0,b1,b2,b3⟩:=dJ.out.ext yB (by omega);clear i1 y1 HC yB
 by_cases fF:p.lv=0
 · have HF:Hid (vba T base (putL acc p) w W1):=hid (by unfold putL; rw [if_pos fF]; exact vba.xi Ju.out (HX.out.trans tN.out));have qC:decide (p.lv=0)=true:=by simpa using fF
   clear fF;go_wp2_with fail;exact bodyPost_ret (v:=.tuple #[]) (by simp [results,Tryz.results58,go_sem]) rfl ⟨⟨_,rfl⟩,HF.out⟩
 · have qC:decide (p.lv=0)=false:=by simpa using fF
   have mZ:Hid (putL acc p=if acc.any (qF (snP p))=true then acc else acc ++ [snP p]):=hid (by unfold putL; rw [if_neg fF]);have HSN:=hid (HS.out W1 (HX.out.trans tN.out));clear fF HS;go_wp2_with fail;clear aW b0 b1 b2 b3 gI;refine HSN.out.mono ?_;rintro e w2 ⟨v2,rfl,p2,x2⟩;obtain ⟨C0,j0,k0,C1,j1,rfl,-⟩:=id p2.open_;obtain ⟨P,hP⟩:=n_m (snP p);rw [hP] at p2 Po mZ EG ⊢;have hbW:PBx W (fun b=>b < w.heap.size) w.heap.size p:=⟨by omega,qZ.out,A0,m0,e0,B0,f0,dJ.out,(H0.out.xo.ext HX.out).mono fun b hb=>⟨hb.2,by have:=hb.2; omega⟩⟩;have dE:=(hbW.ext tN.out).ext x2;obtain ⟨-,hbf,Z0,zn,zc,Z1,vZ,⟨g0,g1,g2,g3⟩,-⟩:=id dE;obtain ⟨V,hV⟩:=n_m (((((w2.setCell ⟨w.heap.size,0,none⟩ (.int .i64 P.lv)).setCell ⟨w.heap.size,1,none⟩ (.bool P.neg)).setCell ⟨w.heap.size,2,none⟩ (.slice C0 j0 k0)).setCell ⟨w.heap.size,3,none⟩ (.slice C1 P.cs.length j1)));have dN:Ext w V:=by rw [<- hV]; exact (((((HX.out.trans tN.out).trans x2).setCell (pj _) _).setCell (pj _) _).setCell (pj _) _).setCell (pj _) _
   have bW:=tN.out.size;have LC:PBx V (fun b=>w.heap.size < b) w.heap.size P:=by rw [<- hV]; exact dE.store (p2.mono fun b hb=>⟨by omega,by omega⟩)
   have xK:=hid dN;have PT:=hid LC;obtain ⟨hTb,Xw,fv,CJ,Eh⟩:=Ju.out.ext dN;obtain ⟨F0,fc,rfl,jY,lZ⟩:=Eh.len;have hT0:=box1 CJ;have HQ:=hid Eh;have hbw:base<=w.heap.size:=Ju.out.2.1;obtain ⟨n0,gX⟩:=n_m (acc.length);have rF:=hid gX;have EE:=hid CJ;clear hbW dE dN LC x2 hP HSN Eh CJ;unfold plV;go_wp2_with fail;clear g0 g1 g2 g3 hbf hV hT0;rw [rF.out] at jY
   go_loopw [17] (fun iv wr=>∃ k:Nat,k<=n0/\iv=.int .i64 k/\Hid ((∀ c ∈ acc.take k,c ≠ P)/\Ext V wr)) (fun iv _=>n0 - (intOf iv).toNat)
   case atStart=>exact ⟨0,pZ _,rfl,hid ⟨by simp,Ext.refl V⟩⟩
   case round =>
    obtain ⟨k,hk,rfl,HI⟩:=hrel;obtain ⟨au,hx⟩:=HI.out;obtain ⟨-,-,Aj,xZ,k0',xX,j1',⟨b0,b1,b2,b3⟩,Xh⟩:=PT.out.ext hx
    by_cases af:k < n0
    · have fV:k < acc.length:=by rw [rF.out]; exact af
      have aK:=(HQ.out.ext hx).at_;obtain ⟨ad,G0,i0,h0,G1,i1,h1,rfl,ah,⟨g0,g1,g2,g3⟩,fP⟩:=aK.ym k fV;have uI:=hid hx;have Jl:=hid au;obtain ⟨U,hU⟩:=n_m ((wr.alloc (.cells #[.int .i64 acc[k].lv,.bool acc[k].neg,.slice G0 i0 h0,.slice G1 i1 h1] 33)));have hxU:Ext wr U:=by rw [<- hU]; exact (Ext.refl wr).alloc _
      obtain ⟨s0,s1,s2,s3⟩:jb U wr.heap.size acc[k] (.slice G0 i0 h0) (.slice G1 i1 h1):=by rw [<- hU]; exact jb.new wr acc[k] _ _ _
      have hgw:w.heap.size < wr.heap.size:=px PT.out.1 hx.size;obtain ⟨y0,y1,y2,y3⟩:jb U w.heap.size P (.slice Aj xZ k0') (.slice xX P.cs.length j1'):=(show jb wr w.heap.size P _ _ from ⟨b0,b1,b2,b3⟩).ext hxU hgw;have hsm:=Po.out U _ _ _ _ acc[k] (pt fV) (Xh.ext hxU) (fP.ext hxU);rw [Pl.q7 EG.out.1,Pl.q7 (EG.out.2 acc[k] (pt fV))] at hsm;have MQ:=hid (hx.trans hxU);have oq:=hid (pt fV);have xM:Hid (∀ c ∈ acc.take (k+1),c ∈ acc.take k\/c=acc[k]):=hid (fun c hc=>by
       rw [pC fV,pT,pD] at hc; exact hc)
      generalize acc[k]=ck at *;unfold plV at hsm;clear au hx Xh aK ah fP hxU HI
      by_cases he:P=ck
      · rw [jap he] at hsm;have HF:Hid (∀ w',Ext U w'->vba T base (putL acc p) w w'):=hid (fun w' hx=>by
         rw [mZ.out,if_pos (Ta.2 ⟨ck,oq.out,jap he⟩)]
         exact vba.xi Ju.out (xK.out.trans (MQ.out.trans hx)))
        clear he;go_wp2_with fail;clear b0 b1 b2 b3 g0 g1 g2 g3 s0 s1 s2 s3 y0 y1 y2 y3 hU;refine hsm.mono ?_;rintro e w5 ⟨rfl,x5⟩;have Ad:=hid (HF.out _ x5);clear x5 hsm;go_wp2_with fail;exact bodyPost_ret (v:=.tuple #[]) (by simp [results,Tryz.results58,go_sem]) rfl ⟨⟨_,rfl⟩,Ad.out⟩
      · rw [gas he] at hsm;have adf:Hid (∀ c ∈ acc.take (k+1),c ≠ P):=hid (fun c hc=>by
         rcases xM.out c hc with h | h
         · exact Jl.out c h
         · rw [h]; exact fun e=>he e.symm)
        clear he;go_wp2_with fail;clear b0 b1 b2 b3 g0 g1 g2 g3 s0 s1 s2 s3 y0 y1 y2 y3 hU;refine hsm.mono ?_;rintro e w5 ⟨rfl,x5⟩;have Dl:=hid (MQ.out.trans x5);clear x5 hsm;go_wp2_with fail
        go_roundw
        case rel=>exact ⟨k+1,by omega,by go_num,adf.out,Dl.out⟩
        case measure=>simp [intOf]; omega
    · obtain rfl:k=n0:=by omega
      have Hu:acc.any (qF P)=false:=by
       rw [<- Bool.not_eq_true];intro h;obtain ⟨c,hc,he⟩:=Ta.1 h;refine au c ?_ (xbb.1 he).symm;rw [show k=acc.length from rF.out.symm,pQ]; exact hc
      rw [Hu,if_neg (by simp)] at mZ;obtain ⟨D,hD⟩:=n_m (wr.drew);have AB:Ext V D:=by rw [<- hD]; exact hx.drew
      have JL:Ext wr D:=by rw [<- hD]; exact (Ext.refl wr).drew
      have Xd:=HQ.out.ext AB;have Tf:=PT.out.1;have hgD:w.heap.size < D.heap.size:=px Tf AB.size;have IC:=(AB.below.block T (by omega)).trans EE.out;obtain ⟨v4,w4,ak,nV,iE,dO,nG⟩:=Xd.push (x:=Pl.zero) (A0:=none) (n0:=0) (c0:=0) (A1:=none) (n1:=0) (c1:=0) (by omega) (Pl.xt _ _ none 0 (by omega)) (by rw [rF.out]; omega) 31;obtain ⟨g,c4,rfl,abn,abm,Il,OG,Tn⟩:=dO.pos (by simp);have pY:(acc ++ [Pl.zero]).length=k+1:=by rw [rh,rF.out]; rfl
      have Io:¬ g=T:=by omega
      have LY:w4.heap[T]?=D.heap[T]?:=rz nV T (by omega) (fun e=>by have:=(Xd.own e.symm).1; omega);have Ue:w4.heap[w.heap.size]?=D.heap[w.heap.size]?:=rz nV _ hgD (fun e=>by
       have:=Ju.out.fresh w.heap.size ⟨_,(by
        have h1:=(xK.out.trans AB).below.block T (by omega);rw [IC] at h1
        exact box1 h1.symm),e.symm⟩
       omega)
      have hT4:w4.cell? ⟨T,0,none⟩=some (.slice F0 acc.length fc):=by rw [pB (a:=⟨T,0,none⟩) LY]; exact box1 IC
      have abK:∀ i,w4.frozen? ⟨T,i,none⟩=false:=fun i=>by rw [sP (a:=⟨T,i,none⟩) LY]; simp [World.frozen?,IC]
      obtain ⟨uH,Z0',zn',zc',Z1',ahL,ahM,e4,-,⟨q0,q1,q2,q3⟩,-⟩:=dO.at_.ym k (by rw [pY]; omega);injection e4 with e4
      subst e4;rw [uu,ri] at q0 q1 q2 q3;simp only at q1 q2 q3;have Qv:¬ w.heap.size=g:=fun e=>by
       rcases nG with h | h
       · have:=Ju.out.fresh g ⟨_,(by
          have h1:=(xK.out.trans AB).below.block T (by omega);rw [IC] at h1
          exact box1 h1.symm),h.symm⟩
         omega
       · injection h with h; (try dsimp only at h); omega
      have hpD:PlV w4 (fun b=>b ≠ g/\base<=b) P (plV P (.slice Aj xZ k0') (.slice xX P.cs.length j1')):=by
       refine PlV.zd nV.size iE (fun b hb hq=>?_) ((Xh.xo.ext JL));have bF:=hq.1.1;have dE:=hq.2;have Xj:(Value.slice F0 acc.length fc).ownBlock ≠ some b:=fun e=>by
        have:=Ju.out.fresh b ⟨_,(by
         have h1:=(xK.out.trans AB).below.block T (by omega);rw [IC] at h1
         exact box1 h1.symm),e⟩
        omega
       refine ⟨⟨fun e=>?_,by omega⟩,rz nV b hb (fun e=>Xj e.symm)⟩;rcases nG with h | h
       · exact Xj (by rw [<- h,e]; rfl)
       · injection h with h; (try dsimp only at h); have:=JL.size; omega
      have aT:=fun (w5 Wf:World)=>yck (w5:=w5) (Wf:=Wf) Ju.out (xK.out.trans AB) IC Xd nV iE dO (by rcases nG with h | h; exact Or.inl h; injection h with h; exact Or.inr (by (try dsimp only at h); omega)) hpD
      rw [<- mZ.out,rF.out,pY] at aT;have bT:=hid aT;have t0:D.cell? ⟨T,0,none⟩=some (.slice F0 acc.length fc):=box1 IC;obtain ⟨d0,d1,d2,d3⟩:=(show jb wr w.heap.size P (.slice Aj xZ k0') (.slice xX P.cs.length j1') from ⟨b0,b1,b2,b3⟩).ext JL (px Tf hx.size);have U4:∀ i,w4.cell? ⟨w.heap.size,i,none⟩=D.cell? ⟨w.heap.size,i,none⟩:=fun i=>pB (a:=⟨w.heap.size,i,none⟩) Ue
      obtain ⟨En,f1',f2',f3'⟩:jb w4 w.heap.size P (.slice Aj xZ k0') (.slice xX P.cs.length j1'):=⟨(U4 0).trans d0,(U4 1).trans d1,(U4 2).trans d2,(U4 3).trans d3⟩;clear aT hpD nV iE dO nG Xd LY Ue U4 IC Xh au Hu HI abn abm;rw [pY] at ak;go_upto_region 9 with fail;have hS0:jb D (w.heap.size) P (.slice Aj xZ k0') (.slice xX P.cs.length j1'):=⟨d0,d1,d2,d3⟩;have BK:(Builtin.append_ #[31,31] 31 #[.slice F0 k fc,.slice (some ⟨D.heap.size,0,none⟩) 1 1]).run Tryz.prog (D.alloc (.cells #[.int .i64 0,.bool false,.slice none 0 0,.slice none 0 0] 33))=.ok (.slice (some ⟨g,0,none⟩) (k+1) c4) w4:=by rw [rF.out] at ak; exact ak
      have L6:=(show jb D w.heap.size P (.slice Aj xZ k0') (.slice xX P.cs.length j1') from hS0).ext ((Ext.refl D).alloc (.cells #[.int .i64 0,.bool false,.slice none 0 0,.slice none 0 0] 33)) hgD;obtain ⟨DA,UR⟩:=n_m (D.alloc (.cells #[.int .i64 0,.bool false,.slice none 0 0,.slice none 0 0] 33));rw [UR] at BK L6;have tA:DA.cell? ⟨T,0,none⟩=some (.slice F0 acc.length fc):=by
       have Qo:Ext D DA:=by rw [<- UR]; exact (Ext.refl D).alloc _
       exact (Qo.cell (p:=⟨T,0,none⟩) (by show T < _; omega)).trans t0
      clear ak;refine wp_region_held_drew (S:=fun W'=>jb W' (w.heap.size) P (.slice Aj xZ k0') (.slice xX P.cs.length j1')) (by kernel_rfl) (by rw [hD]; exact hS0) (fun hHeld=>?_);rw [hD];rw [hD] at hHeld;clear hD;refine tk 1 ?_ (hy:=Or.inl ⟨by rfl,by intro w' aO; obtain ⟨k0,k1,k2,k3⟩:=aO; go_simp; (try (with_reducible rfl))⟩);refine r_2 0 3 (fun K hK=>?brA) fun K hK=>?brB
      case' brA =>
       go_simp;refine k_t hK hS0 fun hHeld=>?_
       clear hK K;refine tk 2 ?_;refine r_1 3 fun K hK=>?_
       go_simp
       (try rw [UR])
       refine k_t hK L6 fun hHeld=>?_
       clear hK K
      case' brB =>
       go_simp
       (try rw [UR])
       refine k_t hK L6 fun hHeld=>?_
       clear hK K;refine r_1 0 fun K hK=>?_
       go_simp;refine k_t hK L6 fun hHeld=>?_
       clear hK K;refine tk 2 ?_
      all_goals
       clear UR tA;have hkk:(k:Int) < (k:Int)+1:=by omega
       refine r_1 4 fun K hK=>?_
       refine zaf rfl (.tmp 25) (.tmp 28) 31 31 rfl _ _ _ _ (by simp [Act.eval,Act.put]) (by simp [Act.eval,Act.put]) BK ?_;refine k_t hK ⟨En,f1',f2',f3'⟩ fun hHeld=>?_
       clear hK K BK;refine tk 5 ?_;have UB:¬ T=w.heap.size:=by omega
       refine r_2 6 7 (fun K hK=>?_) fun K hK=>?_
       · go_simp;clear q0 q1 q2 q3;refine xw (P:=fun V=>((((w4.setCell ⟨g,k * 4,none⟩ (.int .i64 P.lv)).setCell ⟨g,k * 4+1,none⟩ (.bool P.neg)).setCell ⟨g,k * 4+2,none⟩ (.slice Aj xZ k0')).setCell ⟨g,k * 4+3,none⟩ (.slice xX P.cs.length j1'))=V) rfl (fun V5 LW=>?_);have b5:∀ b,b ≠ g->V5.heap[b]?=w4.heap[b]?:=fun b hb=>by rw [<- LW,Below.heap_setCell _ _ _ b hb,Below.heap_setCell _ _ _ b hb,Below.heap_setCell _ _ _ b hb,Below.heap_setCell _ _ _ b hb]
         have x0:∀ i,V5.cell? ⟨w.heap.size,i,none⟩=w4.cell? ⟨w.heap.size,i,none⟩:=fun i=>pB (a:=⟨w.heap.size,i,none⟩) (b5 _ Qv)
         have z0:V5.cell? ⟨T,0,none⟩=some (.slice F0 acc.length fc):=(pB (a:=⟨T,0,none⟩) (b5 _ (fun e=>Io e.symm))).trans hT4;have z1:∀ i,V5.frozen? ⟨T,i,none⟩=false:=fun i=>(sP (a:=⟨T,i,none⟩) (b5 _ (fun e=>Io e.symm))).trans (abK i)
         have zK:jb V5 (w.heap.size) P (.slice Aj xZ k0') (.slice xX P.cs.length j1'):=⟨(x0 0).trans En,(x0 1).trans f1',(x0 2).trans f2',(x0 3).trans f3'⟩;have CY:=bT.out V5 _ LW rfl;refine k_t hK zK fun hHeld=>?_
         clear hK K b5 x0 LW;refine r_1 7 fun K hK=>?_
         go_simp;refine xw (P:=fun V=>V5.setCell ⟨T,0,none⟩ (.slice (some ⟨g,0,none⟩) (k+1) c4)=V) rfl (fun V6 zI=>?_);rw [zI] at CY;have x6:∀ i,V6.cell? ⟨w.heap.size,i,none⟩=V5.cell? ⟨w.heap.size,i,none⟩:=fun i=>pB (a:=⟨w.heap.size,i,none⟩) (by rw [<- zI]; exact Below.heap_setCell _ _ _ _ (fun e=>UB e.symm))
         refine k_t hK ⟨(x6 0).trans zK.1,(x6 1).trans zK.2.1,(x6 2).trans zK.2.2.1,(x6 3).trans zK.2.2.2⟩ fun hHeld=>?_
         clear hK K;refine w_d ?_;have HF6:=hid CY;clear CY zI x6 z0 z1 zK;go_wp2_with fail
         go_end0
         exact ⟨⟨_,rfl⟩,HF6.out⟩
       · go_simp;refine xw (P:=fun V=>w4.setCell ⟨T,0,none⟩ (.slice (some ⟨g,0,none⟩) (k+1) c4)=V) rfl (fun V5 LW=>?_);have b5:∀ b,b ≠ T->V5.heap[b]?=w4.heap[b]?:=fun b hb=>by rw [<- LW,Below.heap_setCell _ _ _ b hb]
         have x0:∀ i,V5.cell? ⟨w.heap.size,i,none⟩=w4.cell? ⟨w.heap.size,i,none⟩:=fun i=>pB (a:=⟨w.heap.size,i,none⟩) (b5 _ (fun e=>UB e.symm))
         have z0:∀ i,V5.cell? ⟨g,i,none⟩=w4.cell? ⟨g,i,none⟩:=fun i=>pB (a:=⟨g,i,none⟩) (b5 _ Io)
         have z1:∀ i,V5.frozen? ⟨g,i,none⟩=false:=fun i=>(sP (a:=⟨g,i,none⟩) (b5 _ Io)).trans (Tn i)
         rw [<- z0] at q0 q1 q2 q3;have zK:jb V5 (w.heap.size) P (.slice Aj xZ k0') (.slice xX P.cs.length j1'):=⟨(x0 0).trans En,(x0 1).trans f1',(x0 2).trans f2',(x0 3).trans f3'⟩;have CY:=bT.out _ _ rfl rfl;have gY:((((w4.setCell ⟨g,k * 4,none⟩ (.int .i64 P.lv)).setCell ⟨g,k * 4+1,none⟩ (.bool P.neg)).setCell ⟨g,k * 4+2,none⟩ (.slice Aj xZ k0')).setCell ⟨g,k * 4+3,none⟩ (.slice xX P.cs.length j1')).setCell ⟨T,0,none⟩ (.slice (some ⟨g,0,none⟩) (k+1) c4)=((((V5.setCell ⟨g,k * 4,none⟩ (.int .i64 P.lv)).setCell ⟨g,k * 4+1,none⟩ (.bool P.neg)).setCell ⟨g,k * 4+2,none⟩ (.slice Aj xZ k0')).setCell ⟨g,k * 4+3,none⟩ (.slice xX P.cs.length j1')):=by
          rw [<- LW,xao (by exact Io),xao (b:=⟨T,0,none⟩) (a:=⟨g,k * 4+2,none⟩) (by exact Io),xao (b:=⟨T,0,none⟩) (a:=⟨g,k * 4+1,none⟩) (by exact Io),xao (b:=⟨T,0,none⟩) (a:=⟨g,k * 4,none⟩) (by exact Io)]
         rw [gY] at CY;refine k_t hK zK fun hHeld=>?_
         clear hK K b5 x0 LW z0 gY;refine r_1 6 fun K hK=>?_
         go_simp;clear q0 q1 q2 q3;refine xw (P:=fun V=>((((V5.setCell ⟨g,k * 4,none⟩ (.int .i64 P.lv)).setCell ⟨g,k * 4+1,none⟩ (.bool P.neg)).setCell ⟨g,k * 4+2,none⟩ (.slice Aj xZ k0')).setCell ⟨g,k * 4+3,none⟩ (.slice xX P.cs.length j1'))=V) rfl (fun V6 zI=>?_);rw [zI] at CY;have x6:∀ i,V6.cell? ⟨w.heap.size,i,none⟩=V5.cell? ⟨w.heap.size,i,none⟩:=fun i=>pB (a:=⟨w.heap.size,i,none⟩) (by rw [<- zI,Below.heap_setCell _ _ _ _ Qv,Below.heap_setCell _ _ _ _ Qv,Below.heap_setCell _ _ _ _ Qv,Below.heap_setCell _ _ _ _ Qv])
         refine k_t hK ⟨(x6 0).trans zK.1,(x6 1).trans zK.2.1,(x6 2).trans zK.2.2.1,(x6 3).trans zK.2.2.2⟩ fun hHeld=>?_
         clear hK K;refine w_d ?_;have HF6:=hid CY;clear CY zI x6 z1 zK;go_wp2_with fail
         go_end0
         exact ⟨⟨_,rfl⟩,HF6.out⟩
open Go.Shelf
attribute [local go_sem] Oper.semAt_some
theorem gcg {P:Program} {w:World} {a:Addr} {m:Mode} (fn:Fn) (first captured:Array Value):(store a (.func fn first captured) m).run P w=stored P w a (.func fn first captured) m:=run_store P w a _ m rfl
attribute [local go_sem] gcg
theorem PlV.kept {W W':World} {row:Option Nat} {q:Nat->Prop} {p:Pl} {v:Value} (h:PlV W q p v) (hg:W.grownBy W' row) (hr:∀ r,row=some r->∃ o:Obj,W.heap[r]?=some o/\o.isCells=false):PlV W' q p v:=
 PlV.ju hg.size (fun v ds hv=>vau hg hr hv) (fun a v hp hv=>⟨hp,by
  obtain ⟨o,ho,hc⟩:=cells_of_cell hv;obtain ⟨c,t,f,rfl⟩:∃ c t f,o=.cells c t f:=by cases o <;> simp_all [Obj.isCells]
  exact (pB ((cells_kept hg hr ho).trans ho.symm)).trans hv⟩) _ _ h
theorem kcq {M acc:List Pl} {k:Nat} (hk:k < M.length):putA acc (M.take (k+1))=putL (putA acc (M.take k)) M[k]:=by
 unfold putA;rw [pC hk,T9]; rfl
theorem qbz : ∀ (M acc : List Pl), ∀ c ∈ putA acc M, c ∈ acc \/ ∃ p ∈ M, c = snP p
 | [],acc,c,h=>.inl h
 | p :: M,acc,c,h=>by
   have h':c ∈ putA (putL acc p) M:=h;rcases qbz M _ c h' with h1 | ⟨x,hx,e⟩
   · unfold putL at h1
     split at h1
     · exact .inl h1
     · split at h1
       · exact .inl h1
       · rw [pT,pD] at h1;rcases h1 with h1 | h1
         · exact .inl h1
         · exact .inr ⟨p,rS,h1⟩
   · exact .inr ⟨x,rr _ hx,e⟩
theorem qbg : ∀ (M acc : List Pl), (putA acc M).length <= acc.length + M.length
 | [],acc=>by simp [putA]
 | p :: M,acc=>by
   have h:=qbg M (putL acc p);have h2:(putL acc p).length<=acc.length+1:=by unfold putL; split <;> (try split) <;> simp
   show (putA (putL acc p) M).length<=_;simp only [pH]; omega
theorem xb5 {w:World} {D0:Option Addr} {n c0:Nat} {l:Int} :
 Calls Tryz.prog 61 #[.slice D0 n c0,.int .i64 l] w fun e w'=>e=.returned (.func (.func 85) #[] #[.pointer (some ⟨w.heap.size,0,none⟩),.pointer (some ⟨w.heap.size+1,0,none⟩)])/\w'.cell? ⟨w.heap.size,0,none⟩=some (.slice D0 n c0)/\w'.cell? ⟨w.heap.size+1,0,none⟩=some (.int .i64 l)/\w'.heap.size=w.heap.size+2/\Ext w w':=by
 have HF:Hid (Ext w ((w.alloc (.cells #[.slice D0 n c0] 31)).alloc (.cells #[.int .i64 l] 3))):=hid (((Ext.refl w).alloc _).alloc _);go_enter Tryz.func61,Tryz.ntmps61;go_wp2_with fail;go_ret;exact ⟨rfl,by simp [go_sem],by simp [go_sem],by simp,HF.out⟩
def gde (L:List Pl) (w:World) (e:Ending) (w':World):Prop:=∃ v,e=.returned v/\xg w.heap.size (fun b=>w.heap.size<=b) w' v L/\Ext w w'
theorem xg.mono {base:Nat} {q q':Nat->Prop} {W:World} {v:Value} {l:List Pl} (h:xg base q W v l) (hq:∀ b,q b->q' b):xg base q' W v l:=by
 obtain ⟨rs,e,h2,h3⟩:=h;exact ⟨rs,e,h2,fun r hr=>⟨(h3 r hr).1,(h3 r hr).2.mono fun b hb=>⟨hb.1,hq b hb.2⟩⟩⟩
theorem xbk {w:World} {E D E2 D2 c0:Nat} {q:Nat->Prop} {D0:Option Addr} {l:Int} {fs:List Pl} (hl:1<=l) (ag:l<=4) (aK:jd w q fs D0 0) (bY:fs.length<=c0) (dP:c0<=9223372036854775807) (yR:fs.length<=1000) (aF:∀ f ∈ fs,Fit f E D) (hE:E<=60) (hD:D<=100000000000) (HP:Hid (jbb l fs)) (mf:∀ p ∈ elems l fs,Fit p E2 D2) (UQ:E2<=170) (CZ:D2<=1099511627776) (jM:(elems l fs).length<=90000) :
 Calls Tryz.prog 34 #[.slice D0 fs.length c0,.int .i64 l] w (gde (dF l fs) w):=by
 have nJ:∀ k:Nat,(Fence.wide.depth.isSome=true->1<=k):=fun k h=>by cases h
 obtain ⟨WN,Uw⟩:=n_m (((w.alloc (.cells #[.slice none 0 0] 31)).alloc (.cells #[.nilFunc] 88)));have GL:Ext w WN:=by rw [<- Uw]; exact ((Ext.refl w).alloc _).alloc _
 have BF:WN.heap.size=w.heap.size+2:=by rw [<- Uw]; simp
 have Uh:WN.heap[w.heap.size]?=some (.cells #[.slice none 0 0] 31 (0,0)):=by
  rw [<- Uw,Below.heap_alloc _ _ _ (by simp)]; exact heap_alloc_new w _
 have FU:WN.heap[w.heap.size+1]?=some (.cells #[.nilFunc] 88 (0,0)):=by
  rw [<- Uw];have:=heap_alloc_new (w.alloc (.cells #[.slice none 0 0] 31)) (.cells #[.nilFunc] 88)
  rwa [tP] at this
 have cn:=box1 FU;have fn:WN.frozen? ⟨w.heap.size+1,0,none⟩=false:=by simp [World.frozen?,FU]
 obtain ⟨W1,aW⟩:=n_m (WN.setCell ⟨w.heap.size+1,0,none⟩ (.func (.func 58) #[] #[.pointer (some ⟨w.heap.size,0,none⟩)]));have hx1:Ext w W1:=by rw [<- aW]; exact GL.setCell (by show w.heap.size<=w.heap.size+1; omega) _
 have bW:W1.heap.size=w.heap.size+2:=by rw [<- aW]; simp only [World.setCell,Uq]; exact BF
 have FT:W1.heap[w.heap.size]?=some (.cells #[.slice none 0 0] 31 (0,0)):=by
  rw [<- aW,Below.heap_setCell _ _ _ _ (by show w.heap.size ≠ w.heap.size+1; omega)]; exact Uh
 have hbF:W1.heap[w.heap.size+1]?=some (.cells #[.func (.func 58) #[] #[.pointer (some ⟨w.heap.size,0,none⟩)]] 88 (0,0)):=by
  rw [<- aW]; exact Boxed.set _ FU
 have We:Hid (FS w.heap.size (w.heap.size+2) W1 []):=hid ⟨by omega,by omega,_,FT,xg.nil _ _ _⟩;have YX:=hid hbF;have Gz:=hid FT;have tN:=hid hx1;have lF:=hid aK;have fE:=hid aF;have xU:=hid mf;clear hx1 FT hbF aK aF mf Uh FU GL BF;refine (callsIn_wide (n:=5)).1 ?_;refine callsIn_of_wp_marks Tryz.func34 rfl trivial ?_ rfl;simp only [Tryz.ntmps34,tB,pH,rK,Nat.reduceAdd,Nat.reduceSub,u7,u6,Pd,wh,tz,rI]
 gi_wp2_with fail
 clear Uw aW cn fn;refine ⟨trivial,?_⟩;refine (callsIn_wide.2 (xb5 (w:=W1))).mono ?_;rintro e w2 ⟨rfl,cL,cV,jF,x2⟩;have X2:=hid (tN.out.trans x2);have V4:=hid (We.out.ext x2);have adM:=hid ((x2.below.block _ (by omega)).trans YX.out);have jB:Fw w.heap.size w2:=⟨by omega,V4.out.fresh⟩;have hT2:w2.cell? ⟨w.heap.size,0,none⟩=some (.slice none 0 0):=(x2.cell (p:=⟨w.heap.size,0,none⟩) (by show w.heap.size < _; omega)).trans (box1 Gz.out);have iZ:∀ b,b < w2.heap.size->b ≠ w.heap.size->Safe w.heap.size w2 b:=fun b hb hn=>⟨hb,hn,fun e=>by
  obtain ⟨v,hv,e'⟩:=e;rw [hT2] at hv;injection hv with hv
  subst hv
  cases e'⟩
 have vT:=hid (fun n=>yb5 (T:=w.heap.size) (lo:=w2.heap.size) hl ag jB (pj _) (iZ W1.heap.size (by omega) (by omega)) (iZ (W1.heap.size+1) (by omega) (by omega)) cL cV bY dP ((lF.out.xo.ext X2.out).mono fun b hb hq=>iZ b hb (by omega)) yR fE.out hE hD HP n);have HKO:=hid (fun (W:World) (l:Nat) (o o':Obj) (h1:w2.heap.size<=l) (h2:W.heap[l]?=some o) (h3:o.isCells=false)=>yg.putObj w.heap.size W l o o' (by omega) h2 h3);obtain ⟨M,hM⟩:=n_m (elems l fs);have acU:Hid (dF l fs=putA [] M):=hid (by rw [<- hM]; rfl);rw [hM] at vT xU jM;rw [bW] at vT;clear x2 cL cV jB iZ hT2 Gz We YX tN hM
 gi_wp2_with fail
 refine wc0 (by omega) (gf := 85) (lb := #[.pointer (some ⟨w.heap.size + 2, 0, none⟩), .pointer (some ⟨w.heap.size + 2 + 1, 0, none⟩)]) rfl (enters_of Tryz.func85 (by kernel_rfl) rfl) (vT.out _) (fun A B h => h.other) yg.trans (fun W l o o' h1 h2 h3 _ => HKO.out W l o o' h1 h2 h3) (Below.refl _ _) (fun _ => rfl)
  (fun k W=>Ext w W/\w2.heap.size<=W.heap.size/\FS w.heap.size (w.heap.size+2) W (putA [] (M.take k))/\W.heap[w.heap.size+1]?=some (.cells #[.func (.func 58) #[] #[.pointer (some ⟨w.heap.size,0,none⟩)]] 88 (0,0)))
  ?ownI ?relI ?startI
  (fun k x a' W=>(∃ g A0 m0 e0 A1 e1,a'={ tmps:=#[.slice D0 fs.length c0,.int .i64 l,undef,undef,.slice none 0 0,.pointer (some ⟨w.heap.size,0,none⟩),.pointer (some ⟨w.heap.size+1,0,none⟩),.pointer (some ⟨g,0,none⟩),.func (.func 58) #[] #[.pointer (some ⟨w.heap.size,0,none⟩)],.slice D0 fs.length c0,.int .i64 l,.func (.func 85) #[] #[.pointer (some ⟨w.heap.size+2,0,none⟩),.pointer (some ⟨w.heap.size+2+1,0,none⟩)],x,undef,undef,undef,undef],defers:=[] }/\w2.heap.size<=g/\W.heap[g]?=some (.cells #[.int .i64 (M.getD k Pl.zero).lv,.bool (M.getD k Pl.zero).neg,.slice A0 m0 e0,.slice A1 (M.getD k Pl.zero).cs.length e1] 33 (0,0))/\∃ q,PlV W q (M.getD k Pl.zero) (plV (M.getD k Pl.zero) (.slice A0 m0 e0) (.slice A1 (M.getD k Pl.zero).cs.length e1)))/\Ext w W/\w2.heap.size<=W.heap.size/\FS w.heap.size (w.heap.size+2) W (putA [] (M.take k))/\W.heap[w.heap.size+1]?=some (.cells #[.func (.func 58) #[] #[.pointer (some ⟨w.heap.size,0,none⟩)]] 88 (0,0)))
  ?ownA ?assign ?body ?done
 case ownI =>
  rintro k W W' row ⟨h1,h2,h3,h4⟩ hg hr;have eX:=fun r e=>(hr r e).2
  exact ⟨Below.grown h1.below hg h1.size (fun r e=>by have:=(hr r e).1; have:=h1.size; have:=X2.out.size; omega),py h2 hg.size,h3.kept hg eX,cells_kept hg eX h4⟩
 case relI =>
  rintro k A B ⟨h1,h2,h3,h4⟩ hr;have hk:=hr.keep.2;refine ⟨hr.ext h1 X2.out.size,by omega,h3.rel hr,?_⟩;obtain ⟨R,i,u,D,n,c,r1,-,-,-,-,rfl⟩:=hr;rw [Below.heap_setCell _ _ _ _ (by show w.heap.size+1 ≠ R; omega)]; exact h4
 case startI=>exact ⟨X2.out,pj _,V4.out,adM.out⟩
 case ownA =>
  rintro k x a' s W W' row ⟨⟨g,A0,m0,e0,A1,e1,ha,jQ,dR,q,hq⟩,h1,h2,h3,h4⟩ hg hr;have eX:=fun r e=>(hr r e).2
  exact ⟨⟨g,A0,m0,e0,A1,e1,ha,jQ,cells_kept hg eX dR,q,hq.kept hg eX⟩,Below.grown h1.below hg h1.size (fun r e=>by have:=(hr r e).1; have:=h1.size; have:=X2.out.size; omega),py h2 hg.size,h3.kept hg eX,cells_kept hg eX h4⟩
 case assign =>
  rintro mm lp k x W K hk ⟨h1,h2,h3,h4⟩ ⟨lX,q,hq⟩ hK;have jJ:M[k]=M.getD k Pl.zero:=by rw [po,pr lX]; rfl
  rw [jJ] at hq;obtain ⟨A0,m0,e0,A1,e1,rfl,-⟩:=id hq.open_;generalize M.getD k Pl.zero=p at *;have hx1:Ext W (W.alloc (.cells #[.int .i64 p.lv,.bool p.neg,.slice A0 m0 e0,.slice A1 p.cs.length e1] 33)):=(Ext.refl W).alloc _;have HK:=hK { tmps:=#[.slice D0 fs.length c0,.int .i64 l,undef,undef,.slice none 0 0,.pointer (some ⟨w.heap.size,0,none⟩),.pointer (some ⟨w.heap.size+1,0,none⟩),.pointer (some ⟨W.heap.size,0,none⟩),.func (.func 58) #[] #[.pointer (some ⟨w.heap.size,0,none⟩)],.slice D0 fs.length c0,.int .i64 l,.func (.func 85) #[] #[.pointer (some ⟨w.heap.size+2,0,none⟩),.pointer (some ⟨w.heap.size+2+1,0,none⟩)],plV p (.slice A0 m0 e0) (.slice A1 p.cs.length e1),undef,undef,undef,undef],defers:=[] } _ (kat hx1) (yg.xi h3.lt hx1) ⟨⟨W.heap.size,A0,m0,e0,A1,e1,rfl,h2,heap_alloc_new W _,q,hq.ext hx1⟩,h1.trans hx1,py h2 hx1.size,h3.ext hx1,(hx1.below.block _ (by omega)).trans h4⟩;have PI:=hid HK;clear HK hK h1 h2 h3 h4 hx1 hq;simp only [udg];unfold plV at PI ⊢
  gi_wp2
  exact PI.out
 case body =>
  rintro mm lp k x a' W hk ⟨⟨g,A0,m0,e0,A1,e1,rfl,jQ,dR,q,hq⟩,h1,h2,h3,h4⟩;have jJ:M[k]=M.getD k Pl.zero:=by rw [po,pr hk]; rfl
  have dC:M.getD k Pl.zero ∈ M:=by rw [<- jJ]; exact pt hk
  have tu:∀ c ∈ putA [] (M.take k),Fit c E2 D2:=fun c hc=>by
   rcases qbz _ _ c hc with h | ⟨p,hp,rfl⟩
   · cases h
   · exact uam (xU.out p (tl hp))
  have hlen:(putA [] (M.take k)).length<=100000:=by
   have:=qbg (M.take k) [];rw [pA] at this;simp only [rK] at this;omega
  have YW:=hid (jc7 _ hq (xU.out _ dC) UQ CZ h3 tu hlen);have Ew:Hid (putL (putA [] (M.take k)) (M.getD k Pl.zero)=putA [] (M.take (k+1))):=hid (by rw [kcq hk,jJ]);rw [Ew.out] at YW;have H1:=hid h1;have H4:=hid h4;have H3:=hid h3;obtain ⟨c0',c1',c2',c3'⟩:=box4 dR;have cF:=box1 h4;clear h1 h3 h4 dR hq tu hlen jJ dC;generalize M.getD k Pl.zero=p at *;unfold plV at YW
  gi_wp2_with fail
  clear c0' c1' c2' c3' cF;refine ⟨trivial,nJ _,?_⟩;refine (callsIn_wide.2 YW.out).mono ?_;rintro e W3 ⟨⟨r,rfl⟩,TV⟩;have bT:Hid (KeepsFrom w2.heap.size W W3/\yg w.heap.size W W3/\Ext w W3/\w2.heap.size<=W3.heap.size/\FS w.heap.size (w.heap.size+2) W3 (putA [] (M.take (k+1)))/\W3.heap[w.heap.size+1]?=some (.cells #[.func (.func 58) #[] #[.pointer (some ⟨w.heap.size,0,none⟩)]] 88 (0,0))):=hid (by
   obtain ⟨cf,ck,co,ce⟩:=TV;refine ⟨⟨ck.size,fun i o _ hi ho=>co i o hi ho⟩,ck,ce w H1.out (pj _),py h2 ck.size,cf,?_⟩;refine ck.obj _ _ (by omega) (fun e=>?_) H4.out rfl;obtain ⟨v,hv,e'⟩:=e;obtain ⟨-,-,fv,CJ,hq⟩:=H3.out;rw [box1 CJ] at hv;injection hv with hv
   subst hv;have:=(hq.own e').1
   omega)
  clear TV YW
  gi_wp2_with fail
  simp only [ga8];exact bT.out
 case done =>
  rintro D W hD ⟨h1,h2,h3,h4⟩ hK;rw [pQ] at h3;rw [<- acU.out] at h3;obtain ⟨-,-,fv,CJ,hq⟩:=id h3;obtain ⟨FA,fc,rfl,jY,lZ⟩:=hq.len;have t0:=box1 CJ;have H1:=hid h1;have PK:=hid hK;have HQ:=hid hq;have yD:=X2.out.size;clear h1 h2 h3 h4 hK CJ hq
  gi_wp2_with fail
  refine ⟨by simp,.inl ⟨_,_,rfl,run_takeDeferred PK.out,?_⟩⟩;have jP:=grownBy_putObj' W D (.deferred none);have eX:∀ r,some D=some r->∃ o:Obj,W.heap[r]?=some o/\o.isCells=false:=fun r e=>⟨_,by injection e with e; subst e; exact PK.out,rfl⟩
  have abt:xg w.heap.size (fun b=>w.heap.size<=b) (W.putObj D (.deferred none)) (.slice FA (dF l fs).length fc) (dF l fs):=by
   refine ((HQ.out.ju jP.size (fun v ds hv=>vau jP eX hv) fun i o hi hc=>?_).less (by omega)).mono fun b hb=>by omega
   obtain ⟨c,t,f,rfl⟩:∃ c t f,o=.cells c t f:=by cases o <;> simp_all [Obj.isCells]
   exact cells_kept jP eX hi
  exact ⟨.slice FA (dF l fs).length fc,by simp [results,Tryz.results34,go_sem],_,rfl,abt,Below.grown H1.out.below jP H1.out.size (fun k e=>by injection e with e; omega)⟩
end Go.Proofs.YtcepajijiabkmaaGreat

namespace Go.Proofs.YtcepajijiabkmaaGreat
open Lib (hid)
open Go.RowKit
theorem qcc {w:World} {E D E2 D2 c0:Nat} {q:Nat->Prop} {D0:Option Addr} {l:Int} {fs:List Pl} (hl:1<=l) (ag:l<=4) (aK:jd w q fs D0 0) (bY:fs.length<=c0) (dP:c0<=9223372036854775807) (yR:fs.length<=1000) (aF:∀ f ∈ fs,Fit f E D) (hE:E<=60) (hD:D<=100000000000) (HP:Hid (jbb l fs)) (mf:∀ p ∈ elems l fs,Fit p E2 D2) (UQ:E2<=170) (CZ:D2<=1099511627776) (jM:(elems l fs).length<=90000) (fF:∀ f ∈ fs,f.lv<=l) :
 Calls Tryz.prog 12 #[.slice D0 fs.length c0,.int .i64 l] w (ybq (fun b=>w.heap.size<=b) (dF l fs) 0 w):=by
 have lF:=hid aK;have qX:=hid (fun (W':World) (hx:Ext w W')=>xbk (w:=W') hl ag (aK.ext hx) bY dP yR aF hE hD HP mf UQ CZ jM);have fE:=hid aF;have ED:=hid fF;have Ed:¬ l < 1:=by omega
 have Fv:¬ 4 < l:=by omega
 clear aK aF fF mf;go_enter Tryz.func12,Tryz.ntmps12;go_wp2_with fail
 go_loopw [16] (fun iv wr=>∃ k:Nat,k<=fs.length/\iv=.int .i64 k/\Hid (Ext w wr)) (fun iv _=>fs.length - (intOf iv).toNat)
 case atStart=>exact ⟨0,pZ _,rfl,hid (Ext.refl w)⟩
 case round =>
  obtain ⟨k,hk,rfl,HI⟩:=hrel
  by_cases af:k < fs.length
  · obtain ⟨ad,C0,j0,k0,C1,j1,k1,rfl,ah,⟨g0,g1,g2,g3⟩,fP⟩:=(lF.out.ext HI.out).ym k af;have fG:=fE.out fs[k] (pt af);have Cm:¬ l < fs[k].lv:=by have:=ED.out fs[k] (pt af); omega
    obtain ⟨U,hU⟩:=n_m ((wr.alloc (.cells #[.int .i64 fs[k].lv,.bool fs[k].neg,.slice C0 j0 k0,.slice C1 j1 k1] 33)));have hxU:Ext wr U:=by rw [<- hU]; exact (Ext.refl wr).alloc _
    obtain ⟨s0,s1,s2,s3⟩:jb U wr.heap.size fs[k] (.slice C0 j0 k0) (.slice C1 j1 k1):=by rw [<- hU]; exact jb.new wr fs[k] _ _ _
    have rG:=hid (qbl (w:=U) _ (fP.ext hxU) (Or.inr ⟨fG.can,fG.copy_ (by omega),by have:=fG.dm; omega⟩));rw [Pl.q7 fG.can] at rG;have MQ:=hid (HI.out.trans hxU);generalize fs[k]=f at *;unfold plV at rG;clear ah fP fG hxU HI;go_wp2_with fail;clear g0 g1 g2 g3 s0 s1 s2 s3 hU;refine rG.out.mono ?_;rintro e w2 ⟨rfl,x2⟩;have HN:=hid (MQ.out.trans x2);clear x2 rG;go_wp2_with fail
    go_roundw
    case rel=>exact ⟨k+1,by omega,by go_num,HN.out⟩
    case measure=>simp [intOf]; omega
  · obtain rfl:k=fs.length:=by omega
    have HR:=hid (qX.out wr HI.out);have HX:=hid HI.out;clear HI qX;go_wp2_with fail;refine HR.out.mono ?_;rintro e w2 ⟨v2,rfl,rZ,x2⟩;obtain ⟨F0,fc,rfl,jY,lZ⟩:=rZ.len;have jI:=HX.out.size;have jZ:jd w2 (fun b=>w.heap.size<=b) (dF l fs) F0 0:=jd.xl (pj _) (fun _ _ h=>h) (fun b _ hb=>⟨by rcases hb with h | h <;> omega,rfl⟩) _ _ _ rZ.at_;have HF:Hid (ybq (fun b=>w.heap.size<=b) (dF l fs) 0 w (.returned (.tuple #[.slice F0 (dF l fs).length fc,.int .i64 0])) w2):=hid ⟨_,rfl,⟨F0,fc,rfl,jY,lZ,jZ⟩,HX.out.trans x2⟩;clear jZ x2 HR rZ jI;go_wp2_with fail;exact bodyPost_ret (v:=.tuple #[.slice F0 (dF l fs).length fc,.int .i64 0]) (by simp [results,Tryz.results12,go_sem]) rfl HF.out
theorem xbv {w:World} {E D E2 D2 c0:Nat} {q:Nat->Prop} {D0:Option Addr} {l:Int} {fs:List Pl} (hl:1<=l) (ag:l<=4) (aK:jd w q fs D0 0) (bY:fs.length<=c0) (dP:c0<=9223372036854775807) (yR:fs.length<=1000) (aF:∀ f ∈ fs,Fit f E D) (hE:E<=60) (hD:D<=100000000000) (HP:Hid (jbb l fs)) (mf:∀ p ∈ elems l fs,Fit p E2 D2) (UQ:E2<=170) (CZ:D2<=1099511627776) (jM:(elems l fs).length<=90000) (fF:∀ f ∈ fs,f.lv<=l) :
 Calls Tryz.prog 12 #[.slice D0 fs.length c0,.int .i64 l] w (ybq (fun _=>True) (dF l fs) 0 w):=by
 refine (qcc hl ag aK bY dP yR aF hE hD HP mf UQ CZ jM fF).mono ?_;rintro e w2 ⟨v,rfl,⟨F0,fc,rfl,h1,h2,h3⟩,hx⟩;exact ⟨_,rfl,⟨F0,fc,rfl,h1,h2,jd.xl (pj _) (fun _ _ h=>h) (fun b _ _=>⟨trivial,rfl⟩) _ _ _ h3⟩,hx⟩
theorem ydj {z:Int} (h:z ≠ 0):dg z.natAbs ≠ []:=fun e=>by
 have h1:=ual (n:=z.natAbs) (by omega);rw [e] at h1;simp at h1
theorem ka5 {z:Int} (h:z ≠ 0):Pl.const z ≠ Pl.zero:=fun e=>by
 unfold Pl.const Pl.zero at e;injection e with _ _ e _
 exact ydj h e
def qd (l:Int) (a b:Pl):Pl:=.mk l false [] [b,Pl.zero,a]
theorem xbz {l:Int} (h1:1<=l) (h4:l<=4) {a b:Pl} (ha:a.Can) (hb:b.Can) (LJ:a.lv < l) (wY:b.lv < l) (h0:a ≠ Pl.zero):(qd l a b).Can:=by
 refine wa8 h1 h4 (by simp) (waf fun c hc=>?_) (by simpa using h0);simp only [pN,sr,or_false] at hc;rcases hc with rfl | rfl | rfl
 · exact ⟨wY,hb⟩
 · exact ⟨by simp only [Pl.zero,Pl.lv]; omega,Pl.qT⟩
 · exact ⟨LJ,ha⟩
theorem ybz (ρ:Int->Rat) {l:Int} (h1:1<=l) (h4:l<=4) (a b:Pl):(qd l a b).val ρ=b.val ρ+ρ l * ρ l * a.val ρ:=by
 unfold qd;rw [Pl.mk_val ρ _ _ _ (by omega) h4,je,je,je,je,Pl.qt]
 grind
theorem qaf (z:Int):(Pl.const z).lv=0:=rfl
def gQ:Pl:=qd 1 (Pl.const 1) (Pl.const (-1))
def fQ:Pl:=qd 2 (Pl.const 1) gQ
theorem ybm:gQ.Can:=xbz (by omega) (by omega) (qp _) (qp _) (by rw [qaf]; omega) (by rw [qaf]; omega) (ka5 (by omega))
theorem kbm:fQ.Can:=xbz (by omega) (by omega) (qp _) ybm (by rw [qaf]; omega) (by simp [gQ,qd,Pl.lv]) (ka5 (by omega))
theorem zbm (ρ:Int->Rat):gQ.val ρ=ρ 1 * ρ 1 - 1:=by
 unfold gQ; rw [ybz ρ (by omega) (by omega),Pl.qS,Pl.qS]; push_cast; grind
theorem qdg (ρ:Int->Rat):fQ.val ρ=ρ 1 * ρ 1 - 1+ρ 2 * ρ 2:=by
 unfold fQ; rw [ybz ρ (by omega) (by omega),Pl.qS,zbm]; push_cast; grind
theorem wc8:(((Pl.var 1).pow 2).add ((Pl.var 2).pow 2)).add (Pl.const 1).yd=fQ:=Pl.qv (Pl.yk _ _) kbm fun ρ=>by
 rw [Pl.yi,Pl.yi,Pl.xT,Pl.yW,Pl.yW,Pl.qS,Pl.vt ρ (by omega) (by omega),Pl.vt ρ (by omega) (by omega),qdg]
 push_cast; grind
theorem gc8:((Pl.var 1).pow 2).add (Pl.const 1).yd=gQ:=Pl.qv (Pl.yk _ _) ybm fun ρ=>by
 rw [Pl.yi,Pl.xT,Pl.yW,Pl.qS,Pl.vt ρ (by omega) (by omega),zbm]
 push_cast; grind
theorem jbm:fQ.xf 2=[gQ,Pl.zero,Pl.const 1]:=(Pl.q8 (by omega) (by omega) kbm).uniq (zav kbm (by omega))
theorem wa1:mdg 2 fQ=2:=by unfold mdg; rw [jbm]; rfl
theorem jbp:yl 2 fQ=Pl.const 1:=by unfold yl; rw [jbm]; rfl
theorem qcu:vg 2 fQ=[fQ]:=by
 unfold vg; rw [wa1];show jab 2 (1+1) fQ=_;rw [za0 (by rw [wa1]; omega),jbp,if_pos (qaf 1)]
theorem vdg:gag 2 fQ=true:=by
 unfold gag; rw [wa1];show zah 2 (1+1) fQ=_;rw [gbc (by rw [wa1]; omega),jbp,if_pos (qaf 1)]
def dQ:Pl:=.mk 2 false [] [Pl.zero,Pl.const 2]
theorem va2:dQ.Can:=by
 refine wa8 (by omega) (by omega) (by simp) (waf fun c hc=>?_) (by simpa using ka5 (z:=2) (by omega));simp only [pN,sr,or_false] at hc;rcases hc with rfl | rfl
 · exact ⟨by simp only [Pl.zero,Pl.lv]; omega,Pl.qT⟩
 · exact ⟨by rw [qaf]; omega,qp _⟩
theorem zdh (ρ:Int->Rat):dQ.val ρ=ρ 2 * 2:=by
 unfold dQ;rw [Pl.mk_val ρ _ _ _ (by omega) (by omega),je,je,je,Pl.qt,Pl.qS]; push_cast; grind
theorem kcl:yab 2 fQ=dQ:=Pl.qv (gbh _ _) va2 fun ρ=>by
 unfold yab;rw [if_pos ⟨by omega,by omega⟩,uz (by omega) (by omega),jbm,zdh];simp only [List.tail_cons,jae,je,Pl.qD,Pl.qt,Pl.qS]
 push_cast; grind
theorem xcv:dQ.xf 2=[Pl.zero,Pl.const 2]:=(Pl.q8 (by omega) (by omega) va2).uniq (zav va2 (by omega))
theorem ka2:mdg 2 dQ=1:=by unfold mdg; rw [xcv]; rfl
def sQ:Pl:=qd 1 (Pl.const 4) (Pl.const (-4))
theorem wcp:sQ.Can:=xbz (by omega) (by omega) (qp _) (qp _) (by rw [qaf]; omega) (by rw [qaf]; omega) (ka5 (by omega))
theorem jby (ρ:Int->Rat):sQ.val ρ=4 * (ρ 1 * ρ 1) - 4:=by
 unfold sQ; rw [ybz ρ (by omega) (by omega),Pl.qS,Pl.qS]; push_cast; grind
theorem uch:ji 2 fQ dQ=sQ:=Pl.qv (qad _ _ _) wcp fun ρ=>by
 have hz:dQ.yd.zp=false:=by
  cases e:dQ.yd.zp
  · rfl
  · exfalso
    have h1:=(Pl.xj (Pl.ye _)).1 e;have h2:=zce (l:=2) (by omega) (by omega) va2;rw [h1,ka2] at h2;have h3:mdg 2 Pl.zero=-1:=(uaw Pl.qT).2 rfl;rw [h3] at h2; omega
 unfold ji uah;rw [if_pos ⟨by omega,by omega⟩,hz,if_neg (by simp),uz (by omega) (by omega),gbo (by omega) (by omega) va2,jbm,xcv,jby];have hg:=zbm ρ;simp [zt,qy,je,Pl.qD,Pl.z8,Pl.xT,Pl.qt,Pl.qS,hg]
 grind
theorem gcp:gp 2 fQ dQ=[sQ]:=by
 unfold gp;rw [wa1,ka2,if_neg (by omega),if_pos rfl,uch,va5 (by omega) (by omega) wcp];have:=va3 (l:=2) (by omega) (by omega) kbm va2 (qah (l:=2) (by rw [ka2]; omega));rw [uch,ka2] at this; omega
theorem ubh:elems 2 [fQ]=[Pl.const 1,sQ]:=by
 unfold elems xa4;have:gaf 2 fQ=[Pl.const 1,sQ]:=by
  unfold gaf zac;rw [qcu,vdg,if_pos (Or.inr rfl)];simp [jbp,kcl,gcp]
 simp [this,tO]
theorem vdi:sQ.sp=[(4,⟨2,0,0,0⟩),(-4,Mo.one)]:=by
 refine (Pl.Zs ?_ ?_ fun ρ=>?_).symm
 · unfold zq;refine ⟨by omega,fun x hx=>?_,?_⟩
   · rw [pD] at hx;subst hx;simp [Mo.lt,Mo.one]
   · unfold zq;exact ⟨by omega,by simp,by trivial⟩
 · intro x hx;simp only [pN,sr,or_false] at hx;rcases hx with rfl | rfl <;> simp [Mo.qe,Mo.one]
 · rw [jby];simp only [ql,Mo.val,Mo.one];rw [show Int.toNat 2=2 from rfl,show Int.toNat 0=0 from rfl]
   push_cast
   grind
theorem udi:snP sQ=gQ:=Pl.qv (gam _) ybm fun ρ=>by
 have h:=xav ρ sQ;have hd:sdv sQ.sp=4:=by rw [vdi]; rfl
 rw [hd,jby] at h;rw [zbm]
 push_cast at h
 grind
theorem jdg:dF 2 [fQ]=[gQ]:=by
 unfold dF;rw [ubh];unfold putA;simp only [Rc,List.foldl_nil];have h1:putL [] (Pl.const 1)=[]:=by unfold putL; rw [if_pos (qaf 1)]
 rw [h1];unfold putL;rw [if_neg (by simp [sQ,qd,Pl.lv]),if_neg (by simp),udi]
 rfl
theorem vcc (n:Int) (w:World):Calls Tryz.prog 23 #[.int .i64 n] w (uf (fun b=>w.heap.size<=b) (Pl.var n) w):=by
 obtain ⟨W,hW⟩:=n_m (w.alloc (.cells #[.int .i64 0,.bool false,.slice none 0 0,.slice none 0 0] 33));have ai:Ext w W:=by rw [<- hW]; exact (Ext.refl w).alloc _
 have hz:jf W w.heap.size:=by rw [<- hW]; exact jf.new w _
 have hs:=ai.size;have bW:W.heap.size=w.heap.size+1:=by rw [<- hW]; simp
 have aG:=hid ai;have HZ:=hid hz;have HL:=hid (va0 n W);clear ai hz
 by_cases h:1<=n/\n<=4
 · have hv:Pl.var n=.mk n false [] [Pl.zero,Pl.const 1]:=if_pos h;rw [hv];rw [decide_eq_true h.1,decide_eq_true h.2] at HL;clear hv;go_enter Tryz.func23,Tryz.ntmps23;go_wp2_with fail;clear hW;refine HL.out.mono ?_;rintro e w1 ⟨rfl,rfl⟩;go_wp2_with fail;refine (of_int 1 w1 (by omega) (by omega)).mono ?_;rintro e w2 ⟨z2,rfl,⟨y2,rfl,m2⟩,x2⟩;obtain ⟨C2,k2,rfl,-⟩:=id m2;have aS:=HZ.out.ext x2 (by omega);have jF:=x2.size
   have HF:Hid (∀ W2:World,Ext w2 W2->(∀ j,j < 8->W2.cell? ⟨w2.heap.size,j,none⟩=#[Value.int .i64 0,.bool false,.slice none 0 0,.slice none 0 0,.int .i64 0,.bool (decide ((1:Int) < 0)),.slice C2 (dg (1:Int).natAbs).length k2,.slice none 0 0][j]?)->w2.heap.size < W2.heap.size ->
    PlV W2 (fun b=>b=w2.heap.size) (.mk n false [] [Pl.zero,Pl.const 1]) (plV (.mk n false [] [Pl.zero,Pl.const 1]) (.slice none 0 0) (.slice (some ⟨w2.heap.size,0,none⟩) 2 2))):=by
    refine hid ?_;intro W2 hx hc af;refine PlV.mk (t:=.mk n false [] [Pl.zero,Pl.const 1]) (A:=some ⟨w2.heap.size,0,none⟩) (c:=2) (jc.nil W2) (pj 2) (by decide) ?_;refine ⟨⟨⟨w2.heap.size,0,none⟩,.slice none 0 0,.slice none 0 0,rfl,af,rfl,⟨hc 0 (by omega),hc 1 (by omega),hc 2 (by omega),hc 3 (by omega)⟩,Pl.xt _ _ none 0 (by decide)⟩,⟨⟨w2.heap.size,0,none⟩,.slice C2 (dg (1:Int).natAbs).length k2,.slice none 0 0,rfl,af,rfl,⟨?_,hc 5 (by omega),hc 6 (by omega),hc 7 (by omega)⟩,qbt _ (m2.ext hx)⟩,trivial⟩;rw [uu];exact hc 4 (by omega)
   obtain ⟨W2,zH⟩:=n_m (w2.alloc (.cells #[.int .i64 0,.bool false,.slice none 0 0,.slice none 0 0,.int .i64 0,.bool false,.slice C2 (dg 1).length k2,.slice none 0 0] 33));have aN:Ext w2 W2:=by rw [<- zH]; exact (Ext.refl w2).alloc _
   have kE:=HF.out W2 aN (fun j hj=>by
    rcases (show j=0\/j=1\/j=2\/j=3\/j=4\/j=5\/j=6\/j=7 by omega) with rfl | rfl | rfl | rfl | rfl | rfl | rfl | rfl <;> (rw [<- zH]; simp [go_sem])) (by rw [<- zH]; simp)
   have Qi:=aS.ext aN (by omega);have Wh:=hid (qf (q':=fun b=>w.heap.size<=b) ((aG.out.trans x2).trans aN) (pj _) Qi kE (fun b _ hb=>⟨by omega,by omega⟩));obtain ⟨⟨z0,z1,z2',z3⟩,zf⟩:=Qi;clear x2 m2 aS kE aN HF;go_wp2_with fail;exact bodyPost_ret (by simp [results,Tryz.results23,go_sem,z0,z1,z2',z3,plV,Pl.lv,Pl.neg,Pl.cs]) rfl Wh.out
 · have hv:Pl.var n=Pl.zero:=if_neg h;rw [hv];have VT:Hid (Calls Tryz.prog 50 #[.int .i64 n] W fun e w'=>e=.returned (.bool false)/\w'=W):=by
    rw [show (decide (1<=n) && decide (n<=4))=false by simp; omega] at HL;exact HL
   have Wh:=hid (qf (q':=fun b=>w.heap.size<=b) aG.out (pj _) HZ.out (Pl.xt W (fun b=>w.heap.size<=b/\b ≠ w.heap.size) none 0 (by decide)) (fun b _ hb=>⟨hb.2,hb.1⟩));obtain ⟨⟨z0,z1,z2',z3⟩,zf⟩:=HZ.out;clear hv HL h;go_enter Tryz.func23,Tryz.ntmps23;go_wp2_with fail;clear hW;refine VT.out.mono ?_;rintro e w1 ⟨rfl,rfl⟩;go_wp2_with fail;exact bodyPost_ret (by simp [results,Tryz.results23,go_sem,z0,z1,z2',z3,plV,Pl.zero,Pl.lv,Pl.neg,Pl.cs]) rfl Wh.out
theorem Frr.Ks {V V7:World} {o g:Nat} {p:Pl} {s A:Value} (hf:Frr V o V7) (h:jb V g p s A) (hg:g < V.heap.size) (hn:g ≠ o):jb V7 g p s A:=⟨(hf.cell hg hn).trans h.1,(hf.cell hg hn).trans h.2.1,(hf.cell hg hn).trans h.2.2.1,(hf.cell hg hn).trans h.2.2.2⟩
theorem PBx.Ks {V:World} {Q:Nat->Prop} {g:Nat} {p q:Pl} {s' A':Value} (h:PBx V Q g p):jb ((((V.setCell ⟨g,0,none⟩ (.int .i64 q.lv)).setCell ⟨g,1,none⟩ (.bool q.neg)).setCell ⟨g,2,none⟩ s').setCell ⟨g,3,none⟩ A') g q s' A':=by
 obtain ⟨-,-,A0,n0,c0,A1,c1,h,-⟩:=h;exact h.set
theorem wdi:fQ.lv=2:=rfl
theorem qbm:Fit fQ 2 5:=by
 rw [<- wc8];have h1:=(Pl.zw 1).1.pow 2;have h2:=(Pl.zw 2).1.pow 2;have h3:Fit (Pl.const 1) 2 1:=Fit.const (by decide);exact ((h1.add h2).add h3.yd).mono (by decide) (by decide)
theorem zcv:Fit dQ 2 7:=by
 have h:=yax (l:=2) qbm (by have:B32=4294967296:=rfl; omega);rw [kcl] at h; exact h
theorem kdf:Fit sQ 170 1099511627776:=by
 rw [<- uch];exact (zam (l:=2) (by omega) (by omega) qbm zcv (by have:B32=4294967296:=rfl; omega)).mono (by omega) (by omega)
theorem kdg:jbb 2 [fQ]:=fun r s h=>by
 rcases h with ⟨f,hf,hr,rfl⟩ | ⟨i,j,hi,hj,oK,-⟩
 · rw [pD] at hf;subst hf;rw [qcu,pD] at hr;subst hr;rw [kcl];refine ⟨by rw [gcp]; simp,fun W' v0 v1 q0 q1 h0 h1=>?_⟩;exact vcd v0 v1 (by omega) (by omega) h0 h1 (qbm.mono (F:=2) (G:=7) (by omega) (by omega)) zcv (by omega) (by omega) (by rw [wa1]; omega) (by rw [ka2]; omega) (by rw [ka2]; omega)
 · simp at hi hj; omega
theorem zcu (w:World):Calls Tryz.prog 6 #[] w (wap true w):=by
 obtain ⟨X,hX⟩:=n_m (Pl.var 1);obtain ⟨Y,hY⟩:=n_m (Pl.var 2);obtain ⟨O,hO⟩:=n_m (Pl.const 1);have lM:=hid (fun W=>vcc 1 W);have HVY:=hid (fun W=>vcc 2 W);rw [hX] at lM;rw [hY] at HVY;have MR:=hid hX;have Yo:=hid hY;have YC:=hid hO;clear hX hY;go_enter Tryz.func6,Tryz.ntmps6;go_wp2_with fail;refine (lM.out w).mono ?_;rintro e w1 ⟨v1,rfl,p1,x1⟩;obtain ⟨A1,m1,e1,B1,f1,rfl,-⟩:=id p1.open_;unfold plV;go_wp2_with fail;refine (HVY.out w1).mono ?_;rintro e w2 ⟨v2,rfl,p2,x2⟩;obtain ⟨A2,m2,e2,B2,f2,rfl,-⟩:=id p2.open_;unfold plV;go_wp2_with fail;refine (of_int 1 w2 (by omega) (by omega)).mono ?_;rintro e w3 ⟨v3,rfl,i3,x3⟩;have iy:=hid (vak (L:=1) v3 (by obtain ⟨y,rfl,hy⟩:=i3; exact wak hy (yf (by decide))) (by omega));rw [hO] at iy;obtain ⟨bi,Bi,ni,ci,rfl⟩:=i3.unpack;clear i3 hO;go_wp2_with fail;refine iy.out.mono ?_;rintro e w4 ⟨v4,rfl,p4,x4⟩;obtain ⟨A3,m3,e3,B3,f3,rfl,-⟩:=id p4.open_;unfold plV;obtain ⟨Za,XC⟩:=n_m ((w4.alloc (.cells #[.int .i64 0,.bool false,.slice none 0 0,.slice none 0 0] 33)));obtain ⟨Zb,Xz⟩:=n_m ((Za.alloc (.cells #[.int .i64 0,.bool false,.slice none 0 0,.slice none 0 0] 33)));obtain ⟨Zc,Xy⟩:=n_m ((Zb.alloc (.cells #[.int .i64 0,.bool false,.slice none 0 0,.slice none 0 0] 33)));obtain ⟨o,ho⟩:=n_m (w4.heap.size);have sa:Za.heap.size=o+1:=by rw [<- XC]; simp [ho]
 have sb:Zb.heap.size=o+1+1:=by rw [<- Xz]; simp [sa]
 have sv:Zc.heap.size=o+1+1+1:=by rw [<- Xy]; simp [sb]
 have xa:Ext w4 Za:=by rw [<- XC]; exact (Ext.refl w4).alloc _
 have xb:Ext Za Zb:=by rw [<- Xz]; exact (Ext.refl Za).alloc _
 have xv:Ext Zb Zc:=by rw [<- Xy]; exact (Ext.refl Zb).alloc _
 have xc:=(xa.trans xb).trans xv;have za:PBx Zc (fun _=>False) o Pl.zero:=by
  have h:PBx Za (fun _=>False) w4.heap.size Pl.zero:=by rw [<- XC]; exact PBx.new (Pl.xt _ _ none 0 (by omega)) _
  rw [ho] at h; exact h.ext (xb.trans xv)
 have zb:PBx Zc (fun _=>False) (o+1) Pl.zero:=by
  have h:PBx Zb (fun _=>False) Za.heap.size Pl.zero:=by rw [<- Xz]; exact PBx.new (Pl.xt _ _ none 0 (by omega)) _
  rw [sa] at h; exact h.ext xv
 have zc:PBx Zc (fun _=>False) (o+1+1) Pl.zero:=by
  have h:PBx Zc (fun _=>False) Zb.heap.size Pl.zero:=by rw [<- Xy]; exact PBx.new (Pl.xt _ _ none 0 (by omega)) _
  rw [sb] at h; exact h
 have q1:PlV Zc (fun b=>b < o) X _:=(((p1.ext ((x2.trans x3).trans x4)).xo.ext xc).mono fun b hb=>by have:=hb.2; omega);have q2:PlV Zc (fun b=>b < o) Y _:=(((p2.ext (x3.trans x4)).xo.ext xc).mono fun b hb=>by have:=hb.2; omega);have q3:PlV Zc (fun b=>b < o) O _:=((p4.xo.ext xc).mono fun b hb=>by have:=hb.2; omega);obtain ⟨Va,OV⟩:=n_m (((((Zc.setCell ⟨o,0,none⟩ (.int .i64 X.lv)).setCell ⟨o,1,none⟩ (.bool X.neg)).setCell ⟨o,2,none⟩ (.slice A1 m1 e1)).setCell ⟨o,3,none⟩ (.slice B1 X.cs.length f1)));obtain ⟨Vb,OU⟩:=n_m (((((Va.setCell ⟨o+1,0,none⟩ (.int .i64 Y.lv)).setCell ⟨o+1,1,none⟩ (.bool Y.neg)).setCell ⟨o+1,2,none⟩ (.slice A2 m2 e2)).setCell ⟨o+1,3,none⟩ (.slice B2 Y.cs.length f2)));obtain ⟨V,hV⟩:=n_m (((((Vb.setCell ⟨o+1+1,0,none⟩ (.int .i64 O.lv)).setCell ⟨o+1+1,1,none⟩ (.bool O.neg)).setCell ⟨o+1+1,2,none⟩ (.slice A3 m3 e3)).setCell ⟨o+1+1,3,none⟩ (.slice B3 O.cs.length f3)));have fa:=za.Vn X.lv X.neg A1 B1 m1 e1 X.cs.length f1;rw [OV] at fa;have ba:PBx Va (fun b=>b < o) o X:=by rw [<- OV]; exact za.store (q1.mono fun b hb=>⟨hb,by omega⟩)
 have NZ:=fa.Kd zb (by omega) (fun b hb=>hb.elim);have vZ:=fa.Kd zc (by omega) (fun b hb=>hb.elim);have Zm:=fa.pl q2 (fun b hb=>by omega);have q3a:=fa.pl q3 (fun b hb=>by omega);have fb:=NZ.Vn Y.lv Y.neg A2 B2 m2 e2 Y.cs.length f2;rw [OU] at fb;have bb:PBx Vb (fun b=>b < o) (o+1) Y:=by rw [<- OU]; exact NZ.store (Zm.mono fun b hb=>⟨hb,by omega⟩)
 have ba1:=fb.Kd ba (by omega) (fun b hb=>by omega);have DY:=fb.Kd vZ (by omega) (fun b hb=>hb.elim);have Zl:=fb.pl q3a (fun b hb=>by omega);have fc:=DY.Vn O.lv O.neg A3 B3 m3 e3 O.cs.length f3;rw [hV] at fc;have bc:PBx V (fun b=>b < o) (o+1+1) O:=by rw [<- hV]; exact DY.store (Zl.mono fun b hb=>⟨hb,by omega⟩)
 have ba2:=fc.Kd ba1 (by omega) (fun b hb=>by omega);have bb1:=fc.Kd bb (by omega) (fun b hb=>by omega);have DD:=hid (fc.pl (fb.pl (fa.pl q1 (fun b hb=>by omega)) (fun b hb=>by omega)) (fun b hb=>by omega));have DC:=hid (fc.pl (fb.pl Zm (fun b hb=>by omega)) (fun b hb=>by omega));have HP3:=hid (fc.pl Zl (fun b hb=>by omega));have svv:V.heap.size=o+1+1+1:=by rw [<- sv,<- hV,<- OU,<- OV]; simp [World.setCell]
 have xK:Hid (Ext w V):=hid (by
  have h0:Ext w w4:=((x1.trans x2).trans x3).trans x4;have GN:=h0.size;have a0:w.heap.size<=o:=by omega
  have a1:w.heap.size<=o+1:=by omega
  have a2:w.heap.size<=o+1+1:=by omega
  rw [<- hV,<- OU,<- OV]
  exact (((((((((((((h0.trans xc).setCell a0 _).setCell a0 _).setCell a0 _).setCell a0 _).setCell a1 _).setCell a1 _).setCell a1 _).setCell a1 _).setCell a2 _).setCell a2 _).setCell a2 _).setCell a2 _))
 have dH:Hid (jb V o X (.slice A1 m1 e1) (.slice B1 X.cs.length f1)):=hid (fc.Ks (fb.Ks (by rw [<- OV]; exact za.Ks) ba.1 (by omega)) ba1.1 (by omega));have xW:Hid (jb V (o+1) Y (.slice A2 m2 e2) (.slice B2 Y.cs.length f2)):=hid (fc.Ks (by rw [<- OU]; exact NZ.Ks) bb.1 (by omega));have PY:Hid (jb V (o+1+1) O (.slice A3 m3 e3) (.slice B3 O.cs.length f3)):=hid (by rw [<- hV]; exact DY.Ks);have fz:∀ i,Zc.frozen? ⟨o,i,none⟩=false:=za.2.1;have fy:∀ i,Va.frozen? ⟨o+1,i,none⟩=false:=NZ.2.1;have fx:∀ i,Vb.frozen? ⟨o+1+1,i,none⟩=false:=DY.2.1;obtain ⟨-,-,P0,pn,pc,P1,pd,⟨a0,a1,a2,a3⟩,-⟩:=id za;obtain ⟨-,-,Q0,qn,qc,Q1,qd,⟨b0,b1,b2,b3'⟩,-⟩:=id NZ;obtain ⟨-,-,R0,rn,rc,R1,rd,⟨c0,c1,c2,c3'⟩,-⟩:=id DY;have aH:Hid (∀ W',Ext V W'->(Ext V W'/\(W'.cell? ⟨o,0,none⟩=some (.int .i64 X.lv)/\W'.cell? ⟨o,1,none⟩=some (.bool X.neg)/\W'.cell? ⟨o,2,none⟩=some (.slice A1 m1 e1)/\W'.cell? ⟨o,3,none⟩=some (.slice B1 X.cs.length f1))/\(W'.cell? ⟨(o+1),0,none⟩=some (.int .i64 Y.lv)/\W'.cell? ⟨(o+1),1,none⟩=some (.bool Y.neg)/\W'.cell? ⟨(o+1),2,none⟩=some (.slice A2 m2 e2)/\W'.cell? ⟨(o+1),3,none⟩=some (.slice B2 Y.cs.length f2))/\(W'.cell? ⟨(o+1+1),0,none⟩=some (.int .i64 O.lv)/\W'.cell? ⟨(o+1+1),1,none⟩=some (.bool O.neg)/\W'.cell? ⟨(o+1+1),2,none⟩=some (.slice A3 m3 e3)/\W'.cell? ⟨(o+1+1),3,none⟩=some (.slice B3 O.cs.length f3)))):=hid (fun W' hx=>⟨hx,dH.out.ext hx (by omega),xW.out.ext hx (by omega),PY.out.ext hx (by omega)⟩);have MX:=hid svv;clear p1 p2 p4 x1 x2 x3 x4 xa xb xv xc za zb zc q1 q2 q3 fa ba NZ vZ Zm q3a fb bb ba1 DY Zl fc bc ba2 bb1 iy lM HVY sv svv;go_upto_region 2 with fail
 try rw [ho]
 clear OV OU hV ho XC Xz Xy a0 a1 a2 a3 b0 b1 b2 b3' c0 c1 c2 c3' fx fy fz sa sb;have y0:Ext V V.drew:=(Ext.refl V).drew;refine wp_region_held_drew (S:=fun W'=>Ext V W'/\(W'.cell? ⟨o,0,none⟩=some (.int .i64 X.lv)/\W'.cell? ⟨o,1,none⟩=some (.bool X.neg)/\W'.cell? ⟨o,2,none⟩=some (.slice A1 m1 e1)/\W'.cell? ⟨o,3,none⟩=some (.slice B1 X.cs.length f1))/\(W'.cell? ⟨(o+1),0,none⟩=some (.int .i64 Y.lv)/\W'.cell? ⟨(o+1),1,none⟩=some (.bool Y.neg)/\W'.cell? ⟨(o+1),2,none⟩=some (.slice A2 m2 e2)/\W'.cell? ⟨(o+1),3,none⟩=some (.slice B2 Y.cs.length f2))/\(W'.cell? ⟨(o+1+1),0,none⟩=some (.int .i64 O.lv)/\W'.cell? ⟨(o+1+1),1,none⟩=some (.bool O.neg)/\W'.cell? ⟨(o+1+1),2,none⟩=some (.slice A3 m3 e3)/\W'.cell? ⟨(o+1+1),3,none⟩=some (.slice B3 O.cs.length f3))) (by kernel_rfl) (aH.out _ y0) (fun hHeld=>?_);refine tk 0 ?_ (hy:=Or.inl ⟨by rfl,by intro w' aO; obtain ⟨-,⟨k1,k2,k3,k4⟩,⟨k5,k6,k7,k8⟩,k9,k10,k11,k12⟩:=aO; go_simp; (try (with_reducible rfl))⟩);refine tk 2 ?_ (hy:=Or.inl ⟨by rfl,by intro w' aO; obtain ⟨-,⟨k1,k2,k3,k4⟩,⟨k5,k6,k7,k8⟩,k9,k10,k11,k12⟩:=aO; go_simp; (try (with_reducible rfl))⟩);refine tk 5 ?_ (hy:=Or.inl ⟨by rfl,by intro w' aO; obtain ⟨-,⟨k1,k2,k3,k4⟩,⟨k5,k6,k7,k8⟩,k9,k10,k11,k12⟩:=aO; go_simp; (try (with_reducible rfl))⟩);refine r_1 1 fun K hK=>?_
 go_simp
 go_at_call 25
 refine (jam (n:=2) _ (DD.out.ext y0) (by rw [<- MR.out]; exact (Pl.zw 1).1) (by omega) (by omega) (by omega)).mono ?_;rintro e u1 ⟨z1,rfl,p1,x1⟩;obtain ⟨C1,j1,k1,D1,l1,rfl,-⟩:=id p1.open_;have y1:=y0.trans x1;refine k_t hK (aH.out _ y1) fun hHeld=>?_
 clear hK K;refine r_1 3 fun K hK=>?_
 go_simp
 go_at_call 25
 refine (jam (n:=2) _ (DC.out.ext y1) (by rw [<- Yo.out]; exact (Pl.zw 2).1) (by omega) (by omega) (by omega)).mono ?_;rintro e u2 ⟨z2,rfl,p2,x2⟩;obtain ⟨C2,j2,k2,D2,l2,rfl,-⟩:=id p2.open_;have y2:=y1.trans x2;refine k_t hK (aH.out _ y2) fun hHeld=>?_
 clear hK K;refine r_1 4 fun K hK=>?_
 go_simp
 go_at_call 24
 refine (uc7 _ _ (p1.ext x2) p2 (by rw [<- MR.out]; exact (Pl.zw 1).1.pow 2:Fit (X.pow 2) 2 3) (by rw [<- Yo.out]; exact (Pl.zw 2).1.pow 2:Fit (Y.pow 2) 2 3) (by omega) (by omega)).mono ?_;rintro e u3 ⟨z3,rfl,p3,x3⟩;obtain ⟨C3,j3,k3,D3,l3,rfl,-⟩:=id p3.open_;have y3:=y2.trans x3;refine k_t hK (aH.out _ y3) fun hHeld=>?_
 clear hK K;refine r_1 6 fun K hK=>?_
 go_simp
 go_at_call 14
 refine (gar (E:=2) (D:=4) _ _ p3 (HP3.out.ext y3) (by rw [<- MR.out,<- Yo.out]; exact (((Pl.zw 1).1.pow 2).add ((Pl.zw 2).1.pow 2)).mono (by decide) (by decide)) (by rw [<- YC.out]; exact Fit.const (by decide)) (by omega) (by omega)).mono ?_;rintro e u4 ⟨z4,rfl,p4,x4⟩;obtain ⟨C4,j4,k4,D4,l4,rfl,-⟩:=id p4.open_;have y4:=y3.trans x4;refine k_t hK (aH.out _ y4) fun hHeld=>?_
 clear hK K;have e4:((X.pow (Int.toNat 2)).add (Y.pow (Int.toNat 2))).add O.yd=fQ:=by rw [<- MR.out,<- Yo.out,<- YC.out]; exact wc8
 rw [e4] at p4 ⊢;unfold plV;obtain ⟨U,hU⟩:=n_m (u4.alloc (.cells #[.int .i64 fQ.lv,.bool fQ.neg,.slice C4 j4 k4,.slice D4 fQ.cs.length l4] 33));have AO:=xbv (w:=U) (fs:=[fQ]) (c0:=1) (E:=2) (D:=5) (E2:=170) (D2:=1099511627776) (D0:=some ⟨u4.heap.size,0,none⟩) (l:=2) (by omega) (by omega) (by rw [<- hU]; exact vbo p4 _) (by simp) (by omega) (by simp) (fun f hf=>by rw [pD.1 hf]; exact qbm) (by omega) (by omega) (hid kdg) (fun p hp=>by
  rw [ubh] at hp;simp only [pN,sr,or_false] at hp;rcases hp with rfl | rfl
  · exact (Fit.const (E:=170) (D:=1) (by decide)).mono (by omega) (by omega)
  · exact kdf) (by omega) (by omega) (by rw [ubh]; simp) (fun f hf=>by rw [pD.1 hf,wdi]; omega)
 rw [jdg] at AO;have qX:=hid AO;have yU:Ext V U:=by rw [<- hU]; exact y4.alloc _
 clear AO e4 p1 p2 p3 p4;generalize fQ=fq at *;refine r_1 7 fun K hK=>?_
 go_simp
 try rw [hU]
 refine k_t hK (aH.out _ yU) fun hHeld=>?_
 clear hK K hU;refine r_1 8 fun K hK=>?_
 go_simp
 go_at_call 12
 refine qX.out.mono ?_;rintro e U5 ⟨v5,rfl,⟨R0,rc,rfl,o9,qL,Un⟩,x5⟩;have y5:=yU.trans x5;refine k_t hK (aH.out _ y5) fun hHeld=>?_
 clear hK K;refine tk 9 ?_;refine tk 10 ?_;refine tk 11 ?_;refine tk 12 ?_;refine tk 13 ?_;refine w_d ?_;have RZ:[gQ].length=1:=rfl;rw [RZ] at o9 ⊢;obtain ⟨ad,E0,en,ec,E1,U3,rE,rfl,ah,⟨g0,g1,g2,g3⟩,pq⟩:=Un.ym 0 (by simp);simp only [s8,jbn,ua] at g0 g1 g2 g3 pq;have adz:Hid (uy U5 ad gQ (.slice E0 en ec) (.slice E1 U3 rE)):=hid ⟨g0,g1,g2,g3⟩;have Bg:Hid (∀ W',Ext U5 W'->((W'.cell? ⟨o,0,none⟩=some (.int .i64 X.lv)/\W'.cell? ⟨o,1,none⟩=some (.bool X.neg)/\W'.cell? ⟨o,2,none⟩=some (.slice A1 m1 e1)/\W'.cell? ⟨o,3,none⟩=some (.slice B1 X.cs.length f1))/\(W'.cell? ⟨(o+1+1),0,none⟩=some (.int .i64 O.lv)/\W'.cell? ⟨(o+1+1),1,none⟩=some (.bool O.neg)/\W'.cell? ⟨(o+1+1),2,none⟩=some (.slice A3 m3 e3)/\W'.cell? ⟨(o+1+1),3,none⟩=some (.slice B3 O.cs.length f3))/\(W'.cell? ad=some (.int .i64 gQ.lv)/\W'.cell? ⟨ad.block,ad.off+1,none⟩=some (.bool gQ.neg)/\W'.cell? ⟨ad.block,ad.off+2,none⟩=some (.slice E0 en ec)/\W'.cell? ⟨ad.block,ad.off+3,none⟩=some (.slice E1 U3 rE)))):=hid (fun W' hx=>⟨(aH.out _ (y5.trans hx)).2.1,(aH.out _ (y5.trans hx)).2.2.2,adz.out.ext hx ah⟩);have Gm:=hid pq;have adc:=hid (DD.out.ext y5);have ac9:=hid (HP3.out.ext y5);have Y5:=hid (xK.out.trans y5);have hd5:Ext U5 U5.drew:=(Ext.refl U5).drew;have D5:=hid hd5;have DR:Hid (Fit gQ 2 5):=hid (by rw [<- gc8]; exact (((Pl.zw 1).1.pow 2).add (Fit.const (by decide):Fit (Pl.const 1) 2 1).yd).mono (by decide) (by decide));have ou:Hid ((X.pow (Int.toNat 2)).add O.yd=gQ):=hid (by rw [<- MR.out,<- YC.out]; exact gc8);have YP:=hid ybm;clear hHeld g0 g1 g2 g3 pq ah Un x5 y5 y4 y3 y2 y1 y0 yU x1 x2 x3 x4 hd5 qX;generalize gQ=gq at *;have Vy:Hid (∀ W',Ext U5 W'->(Ext U5 W'/\W'.cell? ⟨o,0,none⟩=some (.int .i64 X.lv)/\W'.cell? ⟨o,1,none⟩=some (.bool X.neg)/\W'.cell? ⟨o,2,none⟩=some (.slice A1 m1 e1)/\W'.cell? ⟨o,3,none⟩=some (.slice B1 X.cs.length f1)/\W'.cell? ⟨(o+1+1),0,none⟩=some (.int .i64 O.lv)/\W'.cell? ⟨(o+1+1),1,none⟩=some (.bool O.neg)/\W'.cell? ⟨(o+1+1),2,none⟩=some (.slice A3 m3 e3)/\W'.cell? ⟨(o+1+1),3,none⟩=some (.slice B3 O.cs.length f3)/\W'.cell? ad=some (.int .i64 gq.lv)/\W'.cell? ⟨ad.block,ad.off+1,none⟩=some (.bool gq.neg)/\W'.cell? ⟨ad.block,ad.off+2,none⟩=some (.slice E0 en ec)/\W'.cell? ⟨ad.block,ad.off+3,none⟩=some (.slice E1 U3 rE))):=hid (fun W' hx=>by
  obtain ⟨⟨a0,a1,a2,a3⟩,⟨o0,o1,o2,o3⟩,⟨t0,t1,t2,t3⟩⟩:=Bg.out _ hx
  exact ⟨hx,a0,a1,a2,a3,o0,o1,o2,o3,t0,t1,t2,t3⟩)
 have Y0:=D5;clear Bg;go_upto_region 3 with fail
 go_region_held3 (fun W2 => Ext U5 W2 /\ W2.cell? ⟨o, 0, none⟩ = some (.int .i64 X.lv) /\ W2.cell? ⟨o, 1, none⟩ = some (.bool X.neg) /\ W2.cell? ⟨o, 2, none⟩ = some (.slice A1 m1 e1) /\ W2.cell? ⟨o, 3, none⟩ = some (.slice B1 X.cs.length f1) /\ W2.cell? ⟨(o + 1 + 1), 0, none⟩ = some (.int .i64 O.lv) /\ W2.cell? ⟨(o + 1 + 1), 1, none⟩ = some (.bool O.neg) /\ W2.cell? ⟨(o + 1 + 1), 2, none⟩ = some (.slice A3 m3 e3) /\ W2.cell? ⟨(o + 1 + 1), 3, none⟩ = some (.slice B3 O.cs.length f3) /\ W2.cell? ad = some (.int .i64 gq.lv) /\ W2.cell? ⟨ad.block, ad.off + 1, none⟩ = some (.bool gq.neg) /\ W2.cell? ⟨ad.block, ad.off + 2, none⟩ = some (.slice E0 en ec) /\ W2.cell? ⟨ad.block, ad.off + 3, none⟩ = some (.slice E1 U3 rE))
  (first | with_reducible exact Vy.out _ Y0.out | with_reducible exact Vy.out _ y1 | with_reducible exact Vy.out _ y2 | with_reducible exact Vy.out _ y3)
  (first
    | (go_at_call 25
       refine (jam (n:=2) _ (adc.out.ext Y0.out) (by rw [<- MR.out]; exact (Pl.zw 1).1) (by omega) (by omega) (by omega)).mono ?_;rintro e w6 ⟨z6,rfl,p6,x6⟩
       have y1:Ext U5 w6:=Ext.trans Y0.out x6)
    | (go_at_call 14
       refine (gar (E:=2) (D:=5) _ _ p6 (ac9.out.ext y1) (by rw [<- MR.out]; exact ((Pl.zw 1).1.pow 2).mono (by decide) (by decide)) (by rw [<- YC.out]; exact Fit.const (by decide)) (by omega) (by omega)).mono ?_;rintro e w7 ⟨z7,rfl,p7,x7⟩
       have y2:Ext U5 w7:=Ext.trans y1 x7)
    | (go_at_call 26
       refine (xbr (E:=2) (D:=5) _ _ (Gm.out.ext y2) p7 (DR.out.small (by omega)) (by have:=DR.out.dm; omega) (by rw [ou.out]; exact DR.out.small (by omega)) (by rw [ou.out]; have:=DR.out.dm; omega) (by rw [Pl.q7 YP.out]; exact DR.out) (by omega)).mono ?_;rintro e w8 ⟨rfl,x8⟩;rw [ou.out,Pl.q7 YP.out,jap rfl]
       have y3:Ext U5 w8:=Ext.trans y2 x8))
 all_goals
  have Y9:=hid (Y5.out.trans y3);clear y1 y2 y3 x6 x7 x8 p6 p7 Vy;go_wp2_with fail;go_ret;exact ⟨rfl,Y9.out⟩
end Go.Proofs.YtcepajijiabkmaaGreat
