/- Layer 41: collins.reducta, Reducta. -/
import Derived.Test.YtcepajijiabkmaaGreatMp34
set_option linter.unusedSimpArgs false
set_option linter.unusedVariables false
set_option maxRecDepth 100000
set_option maxHeartbeats 8000000
namespace Go.Proofs.YtcepajijiabkmaaGreat
open Lib (hid)
open Go.RowKit
def kas (W:World) (q:Nat->Prop) (v:Value) (L:List Pl):Prop:=∃ D c,v=.slice D L.length c/\L.length<=c/\c<=9223372036854775807/\jd W q L D 0
def ub2 (q:Nat->Prop) (L:List Pl) (b:Bool) (w:World) (e:Ending) (w':World):Prop:=∃ v,e=.returned (.tuple #[v,.bool b])/\kas w' q v L/\Ext w w'
def vc2 : Value -> Nat
 | .slice _ n _=>n
 | _=>0
theorem jg.qaW {base:Nat} {W:World} {v:Value} {l:List Pl} (h:jg base (fun b=>base<=b) W v l):kas W (fun b=>base<=b) v l:=by
 obtain ⟨A,c,rfl,h1,h2⟩:=h.len;exact ⟨A,c,rfl,h1,h2,jd.xl (pj _) (fun _ _ h=>h) (fun b _ hq=>⟨by rcases hq with hq | hq <;> exact hq,rfl⟩) _ _ _ h.at_⟩
structure xc2 (l : Int) (f : Pl) (E D N base : Nat) (W : World) (rv : Value) (g n : Nat) (r : Pl) (pre : List Pl) : Prop where
 row:jg base (fun b=>base<=b) W rv pre
 box:PBx W (fun b=>base<=b/\rv.ownBlock ≠ some b) g r
 ne:rv.ownBlock ≠ some g
 gb:base<=g
 seq:pre ++ yad l n r=uh l f
 cst:jan l n r=qak l f
 fuel:mdg l r<=n
 len:pre.length+n=N
 fit:Fit r E (D+pre.length)
theorem kb4 {w:World} {q:Nat->Prop} {f:Pl} {l:Int} {E D:Nat} (v:Value) (hl:1<=l) (ag:l<=4) (h0:PlV w q f v) (hf:Fit f E D) (hE:E<=62) (hD:D<=1000000000000) :
 Calls Tryz.prog 86 #[v,.int .i64 l] w (ub2 (fun b=>w.heap.size<=b) (uh l f) (qak l f) w):=by
 have H0:=hid h0;obtain ⟨A0,m0,e0,B0,f0,rfl,-⟩:=h0.open_;obtain ⟨W,fV,iT,aC,aX⟩:=b_1 w f (.slice A0 m0 e0) (.slice B0 f.cs.length f0);have HX:=hid aC;have dJ:=hid aX;have fO:W.heap.size=w.heap.size+1:=iT;clear h0 aC aX;have HN:=hid (fun (W':World) (hx:Ext w W')=>qab _ (H0.out.ext hx) hf.can (hf.copy_ (by omega)) (by have:=hf.dm; omega));have OD:=wan (l:=l) hf.can hf.ex;obtain ⟨N,hN⟩:=n_m ((mdg l f).toNat);have hNE:N<=62:=by omega
 have Dq:Hid (∀ (W':World) (g:Nat),w.heap.size<=g->PBx W' (fun b=>w.heap.size<=b) g f->xc2 l f E D N w.heap.size W' (.slice none 0 0) g N f []):=hid (fun W' g hg hb=>⟨jg.nil _ _ _,hb.mono fun b h=>⟨h,by simp [Value.ownBlock]⟩,by simp [Value.ownBlock],hg,by rw [tI,<- hN]; rfl,by rw [<- hN]; rfl,by rw [<- hN]; omega,by simp,by simpa using hf⟩);obtain ⟨b0,b1,b2,b3⟩:=dJ.out;unfold plV at HN ⊢;clear hf OD hN;go_enter Tryz.func86,Tryz.ntmps86;go_wp2_with fail;clear fV;clear b0 b1 b2 b3;refine (HN.out _ HX.out).mono ?_;rintro e w1 ⟨v1,rfl,p1,x1⟩;obtain ⟨C0,j0,k0,C1,j1,rfl,-⟩:=id p1.open_;obtain ⟨W1,aV⟩:=n_m ((w1.alloc (.cells #[.int .i64 f.lv,.bool f.neg,.slice C0 j0 k0,.slice C1 f.cs.length j1] 33)));have bF:PBx W1 (fun b=>W.heap.size<=b) w1.heap.size f:=by rw [<- aV]; exact PBx.new p1 _
 have yG:Ext w W1:=by rw [<- aV]; exact (HX.out.trans x1).alloc _
 have WS:=HX.out.size;have bW:=x1.size;have kK:=hid (Dq.out W1 w1.heap.size (by omega) (bF.mono fun b hb=>by omega));have tK:=hid yG;clear p1 x1 bF yG HN Dq iT fO;unfold plV;go_wp2_with fail;clear aV
 go_loopw [6,7] (fun rv pv wr=>∃ (g n:Nat) (r:Pl) (pre:List Pl) (RA:Option Addr) (rc:Nat),rv=.slice RA pre.length rc/\pv=.pointer (some ⟨g,0,none⟩)/\pre.length<=N/\Hid (xc2 l f E D N w.heap.size wr rv g n r pre/\Ext w wr)) (fun rv _ _=>N+1 - vc2 rv)
 case atStart=>exact ⟨_,N,f,[],none,0,rfl,rfl,by simp,hid ⟨kK.out,tK.out⟩⟩
 case round =>
  obtain ⟨g,n,r,pre,RA,rc,rfl,rfl,jH,HI⟩:=hrel;obtain ⟨⟨ae,abl,ax,Ic,yL,TQ,hfu,hlen,aF⟩,hx⟩:=HI.out;obtain ⟨OB,Tn,C0,j0,k0,C1,j1,⟨g0,g1,g2,g3⟩,hp⟩:=abl;have nM:=hid (xaf (l:=l) _ aF.can (aF.copy_ (by omega)) (by have:=aF.dm; omega) hp);have aW:=hid ae;have HP:=hid hp;have Je:=hid ax;have MP:=hid yL;have Bl:=hid TQ;have vZ:=hid hlen;have nZ:=hid hx;clear HI ae hp ax yL TQ hx;unfold plV at nM;go_wp2_with fail;refine nM.out.mono ?_;rintro e w2 ⟨rfl,x2⟩;obtain ⟨s0,s1,s2,s3⟩:=(show jb wr g r (.slice C0 j0 k0) (.slice C1 r.cs.length j1) from ⟨g0,g1,g2,g3⟩).ext x2 OB;have dI:=aW.out.ext x2;have wR:=HP.out.ext x2;have X2:=hid (nZ.out.trans x2);have KD:g < w2.heap.size:=pw OB x2.size;have ajk:∀ i,w2.frozen? ⟨g,i,none⟩=false:=fun i=>(x2.frozen (p:=⟨g,i,none⟩) OB).trans (Tn i)
  have Qp:=X2.out.size;clear x2 nM g0 g1 g2 g3 aW Tn OB
  by_cases hd:0 < mdg l r
  · obtain ⟨n',rfl⟩:∃ n',n=n'+1:=⟨n - 1,by omega⟩;have gJ:=qay (n:=n') hd;have CS:=vba (n:=n') hd;rw [gJ] at MP;rw [CS] at Bl;have RP:=wcu hl ag aF.can hd;have bG:=gbd (l:=l) aF (by have:B32=4294967296:=rfl; omega);have JL:=aF.small (show E<=170 by omega);have OU:=zam (l:=l) aF;have YF:=hid (fun (W':World) (q:Nat->Prop) (u:Value) (hu:PlV W' q r u)=>gal u hl ag aF (by omega) (by omega) hu);have ig:=hid (fun (W':World) (q:Nat->Prop) (u:Value) (hu:PlV W' q (qo l r) u)=>ua7 (qo l r) u hu (OU.small (by omega)) (by have:=OU.dm; omega) (by rw [Pl.q7 OU.can]; exact OU) (by omega));rw [Pl.q7 OU.can] at ig;have Jc:=hid (fun (W':World) (q:Nat->Prop) (u:Value) (hu:PlV W' q r u)=>vcw u hl ag aF hE (by omega) hu);obtain ⟨v4,w4,ak,nT,iy,dN,nC⟩:=dI.push (x:=r) Qp (wR.mono fun b hb=>by (try dsimp only at hb); exact ⟨hb.1.2,hb.1.1⟩) (by omega) 31;have hblk:∀ b,b < w2.heap.size->(Value.slice RA pre.length rc).ownBlock ≠ some b->w4.heap[b]?=w2.heap[b]?:=fun b hb hn=>rr nT b hb (fun e=>hn e.symm)
    have uP:∀ b,b < w2.heap.size->(Value.slice RA pre.length rc).ownBlock ≠ some b->v4.ownBlock ≠ some b:=fun b hb ax e=>by
     rcases nC with h | h
     · exact ax (h ▸ e)
     · rw [h] at e; injection e with e; omega
    have c4:∀ i,w4.cell? ⟨g,i,none⟩=w2.cell? ⟨g,i,none⟩:=fun i=>pB (a:=⟨g,i,none⟩) (hblk g KD Je.out)
    have Z9:PlV w4 (fun b=>w.heap.size<=b/\v4.ownBlock ≠ some b/\b ≠ g) r (plV r (.slice C0 j0 k0) (.slice C1 r.cs.length j1)):=PlV.zd nT.size iy (fun b hb hq=>by (try dsimp only at hq); exact ⟨⟨hq.1.1,uP b hb hq.1.2,hq.2⟩,hblk b hb hq.1.2⟩) wR;have jM:Ext w w4:=Below.grown X2.out.below nT Qp (fun k e=>(dI.own e).1);have Cb:v4.ownBlock ≠ some g:=uP g KD Je.out;obtain ⟨Ph,NU,rfl,-,-⟩:=dN.len;have pX:(pre ++ [r]).length=pre.length+1:=by simp
    rw [pX] at ak dN Z9 Cb;have KC:g < w4.heap.size:=pw KD nT.size;have aia:w.heap.size<=w4.heap.size:=jM.size;have X4:=hid jM;have HR4:=hid dN;have HP4:=hid Z9;have ala:=hid Cb;obtain ⟨t0,t1,t2,t3⟩:jb w4 g r (.slice C0 j0 k0) (.slice C1 r.cs.length j1):=⟨(c4 0).trans s0,(c4 1).trans s1,(c4 2).trans s2,(c4 3).trans s3⟩;have PU:=hid (show jb w4 g r (.slice C0 j0 k0) (.slice C1 r.cs.length j1) from ⟨t0,t1,t2,t3⟩);have Dz:Hid (∀ b,(Value.slice Ph (pre.length+1) NU).ownBlock=some b->b < w4.heap.size):=hid (fun b e=>(dN.own e).2);have HDD:=hid hd;have nH:decide (0 < mdg l r)=true:=by simpa using hd
    have rq:=hid bG;have HMD:=hid RP;have HO4:=hid uP;clear dI wR nT iy dN nC hblk uP c4 Z9 jM Cb pX hd RP bG JL OU gJ CS aF HP Je;generalize mdg l r=md at *
    go_wp2_with (at_builtin
                 refine wpList_append_run rfl (.tmp 19) (.tmp 21) _ _ rfl _ _ _ _ rfl rfl ak ?_)
    clear ak s0 s1 s2 s3;refine (YF.out _ _ _ HP4.out).mono ?_;rintro e w5 ⟨v5,rfl,p5,x5⟩;have vM:=ig.out _ _ _ p5;obtain ⟨F0,i0,h0,F1,i1,rfl,-⟩:=id p5.open_;obtain ⟨u0,u1,u2,u3⟩:=(show jb w4 g r (.slice C0 j0 k0) (.slice C1 r.cs.length j1) from ⟨t0,t1,t2,t3⟩).ext x5 KC;have X5:=hid x5;have ajf:g < w5.heap.size:=pw KC x5.size;obtain ⟨ld,AV⟩:=n_m (qo l r);rw [AV] at vM MP Bl ⊢;clear p5 x5 AV YF ig t0 t1 t2 t3;unfold plV at vM ⊢;go_wp2_with fail;clear u0 u1 u2 u3;refine vM.mono ?_;rintro e w6 ⟨xv,rfl,ix,x6⟩;obtain ⟨bx,Bx,nx,cx,rfl⟩:=ix.unpack;have X6:=hid (X5.out.trans x6);obtain ⟨W7,hW7⟩:=n_m ((w6.alloc (.cells #[.bool bx,.slice Bx nx cx] 30)));have Zx:Ext w4 W7:=by rw [<- hW7]; exact X6.out.alloc _
    have X7:=hid Zx;have hs7:=Zx.size;clear x6 ix vM Zx
    by_cases fC:ld.lv=0
    · have HF:Hid (ub2 (fun b=>w.heap.size<=b) (uh l f) (qak l f) w (.returned (.tuple #[.slice Ph (pre.length+1) NU,.bool true])) W7):=hid (by
       have h1:=MP.out;have h2:=Bl.out;rw [if_pos fC] at h1 h2;rw [<- h1,<- h2]
       exact ⟨_,rfl,(HR4.out.ext X7.out).qaW,X4.out.trans X7.out⟩)
      have qB:decide (ld.lv=0)=true:=by simpa using fC
      clear fC;go_wp2_with fail;obtain ⟨vv,e9,q3,q4⟩:=HF.out;injection e9 with e9
      exact bodyPost_ret (v:=.tuple #[.slice Ph (pre.length+1) NU,.bool true]) (by simp [results,Tryz.results86,go_sem]) rfl HF.out
    · have qB:decide (ld.lv=0)=false:=by simpa using fC
      have h1:=MP.out;have h2:=Bl.out;rw [if_neg fC] at h1 h2;have Vr:=hid h1;have Wu:=hid h2;obtain ⟨y0,y1,y2,y3⟩:=PU.out.ext X7.out KC;obtain ⟨W8,XD⟩:=n_m ((W7.alloc (.cells #[.int .i64 r.lv,.bool r.neg,.slice C0 j0 k0,.slice C1 r.cs.length j1] 33)));obtain ⟨o,ho⟩:=n_m (W7.heap.size);have EU:=HP4.out.ext X7.out;have AZ:PBx W8 (fun b=>w.heap.size<=b/\(Value.slice Ph (pre.length+1) NU).ownBlock ≠ some b) o r:=by rw [<- XD,<- ho]; exact PBx.new (EU.mono fun b hb=>by (try dsimp only at hb); exact ⟨hb.1,hb.2.1⟩) _
      have Zw:Ext W7 W8:=by rw [<- XD]; exact (Ext.refl W7).alloc _
      have hp8:=EU.ext Zw;have nC:w4.heap.size<=o:=by omega
      have PT:=hid AZ;have HX8:=hid (X7.out.trans Zw);have ho8:o < W8.heap.size:=AZ.1;obtain ⟨z0,z1,z2,z3⟩:jb W8 o r (.slice C0 j0 k0) (.slice C1 r.cs.length j1):=by rw [<- XD,<- ho]; exact jb.new W7 r _ _ _
      have GR:=Jc.out _ _ _ hp8;unfold plV at GR;obtain ⟨rd,QQ⟩:=n_m (xak l r);rw [QQ] at GR Vr Wu rq HMD;clear fC h1 h2 MP Bl EU hp8 AZ Zw QQ Jc;go_wp2_with fail;clear y0 y1 y2 y3 z0 z1 z2 z3 XD hW7
      try rw [ho]
      clear ho;refine GR.mono ?_;rintro e w9 ⟨v9,rfl,p9,x9⟩;obtain ⟨G0,l0,l1,G1,l2,rfl,-⟩:=id p9.open_;have Lp:=PT.out.ext x9;obtain ⟨ho9,hof,Y0,yn,yc,Y1,EC,⟨g0,g1,g2,g3⟩,-⟩:=id Lp;obtain ⟨V,hV⟩:=n_m (((((w9.setCell ⟨o,0,none⟩ (.int .i64 rd.lv)).setCell ⟨o,1,none⟩ (.bool rd.neg)).setCell ⟨o,2,none⟩ (.slice G0 l0 l1)).setCell ⟨o,3,none⟩ (.slice G1 rd.cs.length l2)));have Qn:Ext w4 V:=by rw [<- hV]; exact ((((HX8.out.trans x9).setCell nC _).setCell nC _).setCell nC _).setCell nC _
      have uK:Hid (xc2 l f E D N w.heap.size V (.slice Ph (pre.length+1) NU) o n' rd (pre ++ [r])/\Ext w V):=hid ⟨⟨HR4.out.ext Qn,by
       rw [<- hV]
       exact Lp.store (p9.mono fun b hb=>⟨⟨by omega,fun e=>by have:=Dz.out b e; omega⟩,by omega⟩),fun e=>by have:=Dz.out o e; omega,by omega,by have h1:=Vr.out; simpa using h1,Wu.out,by have h1:=HMD.out; omega,by have:=vZ.out; simp; omega,by have h1:=rq.out; simpa [tO] using h1⟩,X4.out.trans Qn⟩
      have Z4:pre.length+1<=N:=by have:=vZ.out; omega
      clear p9 x9 Lp Qn GR;unfold plV;go_wp2_with fail;clear g0 g1 g2 g3 hof hV
      go_roundw
      case rel=>exact ⟨o,n',rd,pre ++ [r],Ph,NU,by simp,rfl,by simpa using Z4,uK.out⟩
      case measure=>simp [vc2]; omega
  · have nH:decide (0 < mdg l r)=false:=by simpa using hd
    have HF:Hid (ub2 (fun b=>w.heap.size<=b) (uh l f) (qak l f) w (.returned (.tuple #[.slice RA pre.length rc,.bool false])) w2):=hid (by
     have h1:=MP.out;have h2:=Bl.out;rw [kba hd,si] at h1;rw [gb4 hd] at h2;rw [<- h1,<- h2]
     exact ⟨_,rfl,dI.qaW,X2.out⟩)
    clear hd MP Bl dI wR;generalize mdg l r=md at *;go_wp2_with fail;exact bodyPost_ret (v:=.tuple #[.slice RA pre.length rc,.bool false]) (by simp [results,Tryz.results86,go_sem]) rfl HF.out
def xbn (q:Nat->Prop) (L:List Pl) (n:Int) (w:World) (e:Ending) (w':World):Prop:=∃ v,e=.returned (.tuple #[v,.int .i64 n])/\kas w' q v L/\Ext w w'
theorem kas.nil (W:World) (q:Nat->Prop):kas W q (.slice none 0 0) []:=⟨none,0,rfl,by simp,by omega,by unfold jd; trivial⟩
theorem jg.Vn {base g:Nat} {q:Nat->Prop} {W V:World} {v:Value} {l:List Pl} (h:jg base q W v l) (hf:Frr W g V) (ax:v.ownBlock ≠ some g) (hq:∀ b,q b->b ≠ g):jg base q V v l:=by
 have ho:=fun {R:Nat}=>h.own (R:=R)
 obtain ⟨rs,e,h2,h3⟩:=h;exact ⟨rs,e,h2.xl fun R hR=>hf.block R (ho hR).2 (fun e=>ax (e ▸ hR)),fun r hr=>⟨(h3 r hr).1,hf.pl (h3 r hr).2 fun b hb=>hq b hb.2⟩⟩
end Go.Proofs.YtcepajijiabkmaaGreat
