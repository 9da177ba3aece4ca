/- Layer 41: collins.reducta, Reducta. -/
import Derived.Test.YtklnlgnnlmdibaaGreatMq35
set_option linter.unusedSimpArgs false
set_option linter.unusedVariables false
set_option maxRecDepth 100000
set_option maxHeartbeats 8000000
namespace Go.Proofs.YtklnlgnnlmdibaaGreat
open Lib (hid)
open Go.RowKit
def gav (W:World) (q:Nat->Prop) (v:Value) (L:List Pl):Prop:=∃ D c,v=.slice D L.length c/\L.length<=c/\c<=9223372036854775807/\jc W q L D 0
def kbt (q:Nat->Prop) (L:List Pl) (b:Bool) (w:World) (e:Ending) (w':World):Prop:=∃ v,e=.returned (.tuple #[v,.bool b])/\gav w' q v L/\Ext w w'
def zbm : Value -> Nat
 | .slice _ n _=>n
 | _=>0
theorem uh.rowP {base:Nat} {W:World} {v:Value} {l:List Pl} (h:uh base (fun b=>base<=b) W v l):gav W (fun b=>base<=b) v l:=by
 obtain ⟨A,c,rfl,h1,h2⟩:=h.len;exact ⟨A,c,rfl,h1,h2,jc.turn (Nat.le_refl _) (fun _ _ h=>h) (fun b _ hq=>⟨by rcases hq with hq | hq <;> exact hq,rfl⟩) _ _ _ h.at_⟩
structure vcp (l : Int) (f : Pl) (E D N base : Nat) (W : World) (rv : Value) (g n : Nat) (r : Pl) (pre : List Pl) : Prop where
 row:uh base (fun b=>base<=b) W rv pre
 box:PBx W (fun b=>base<=b/\rv.ownBlock ≠ some b) g r
 ne:rv.ownBlock ≠ some g
 gb:base<=g
 seq:pre ++ ql l n r=yf l f
 cst:zai l n r=gac l f
 fuel:mdg l r<=n
 len:pre.length+n=N
 fit:Fit r E (D+pre.length)
theorem ubu {w:World} {q:Nat->Prop} {f:Pl} {l:Int} {E D:Nat} (v:Value) (hl:1<=l) (ag:l<=4) (h0:PlV w q f v) (hf:Fit f E D) (hE:E<=62) (hD:D<=1000000000000) :
 Calls Tryz.prog 46 #[v,.int .i64 l] w (kbt (fun b=>w.heap.size<=b) (yf l f) (gac l f) w):=by
 have H0:=hid h0;obtain ⟨A0,m0,e0,B0,f0,rfl,-⟩:=h0.open_;obtain ⟨W,fU,fD,aC,aV⟩:=b_1 w f (.slice A0 m0 e0) (.slice B0 f.cs.length f0);have HX:=hid aC;have dC:=hid aV;have eQ:W.heap.size=w.heap.size+1:=fD;clear h0 aC aV;have HN:=hid (fun (W':World) (hx:Ext w W')=>qaa _ (H0.out.ext hx) hf.can (hf.copy_ (by omega)) (by have:=hf.dm; omega));have IV:=yai (l:=l) hf.can hf.ex;obtain ⟨N,hN⟩:=n_m ((mdg l f).toNat);have hNE:N<=62:=by omega
 have DN:Hid (∀ (W':World) (g:Nat),w.heap.size<=g->PBx W' (fun b=>w.heap.size<=b) g f->vcp l f E D N w.heap.size W' (.slice none 0 0) g N f []):=hid (fun W' g hg hb=>⟨uh.nil _ _ _,hb.mono fun b h=>⟨h,by simp [Value.ownBlock]⟩,by simp [Value.ownBlock],hg,by rw [List.nil_append,<- hN]; rfl,by rw [<- hN]; rfl,by rw [<- hN]; omega,by simp,by simpa using hf⟩);obtain ⟨b0,b1,b2,b3⟩:=dC.out;unfold plV at HN ⊢;clear hf IV hN;go_enter Tryz.func46,Tryz.ntmps46;go_wp2_with fail;clear fU;clear b0 b1 b2 b3;refine (HN.out _ HX.out).mono ?_;rintro e w1 ⟨v1,rfl,p1,x1⟩;obtain ⟨C0,j0,k0,C1,j1,rfl,-⟩:=id p1.open_;obtain ⟨W1,aT⟩:=n_m ((w1.alloc (.cells #[.int .i64 f.lv,.bool f.neg,.slice C0 j0 k0,.slice C1 f.cs.length j1] 35)));have aX:PBx W1 (fun b=>W.heap.size<=b) w1.heap.size f:=by rw [<- aT]; exact PBx.new p1 _
 have qM:Ext w W1:=by rw [<- aT]; exact (HX.out.trans x1).alloc _
 have Xx:=HX.out.size;have bU:=x1.size;have iV:=hid (DN.out W1 w1.heap.size (by omega) (aX.mono fun b hb=>by omega));have qY:=hid qM;clear p1 x1 aX qM HN DN fD eQ;unfold plV;go_wp2_with fail;clear aT
 go_loopw [6,7] (fun rv pv wr=>∃ (g n:Nat) (r:Pl) (pre:List Pl) (RA:Option Addr) (rc:Nat),rv=.slice RA pre.length rc/\pv=.pointer (some ⟨g,0,none⟩)/\pre.length<=N/\Hid (vcp l f E D N w.heap.size wr rv g n r pre/\Ext w wr)) (fun rv _ _=>N+1 - zbm rv)
 case atStart=>exact ⟨_,N,f,[],none,0,rfl,rfl,by simp,hid ⟨iV.out,qY.out⟩⟩
 case round =>
  obtain ⟨g,n,r,pre,RA,rc,rfl,rfl,kH,HI⟩:=hrel;obtain ⟨⟨ae,Gh,ak,IL,qP,Ul,hfu,hlen,aB⟩,hx⟩:=HI.out;obtain ⟨Bf,Ld,C0,j0,k0,C1,j1,⟨g0,g1,g2,g3⟩,hp⟩:=Gh;have mO:=hid (zad (l:=l) _ aB.can (aB.copy_ (by omega)) (by have:=aB.dm; omega) hp);have dF:=hid ae;have HP:=hid hp;have wM:=hid ak;have wH:=hid qP;have BO:=hid Ul;have rQ:=hid hlen;have mF:=hid hx;clear HI ae hp ak qP Ul hx;unfold plV at mO;go_wp2_with fail;refine mO.out.mono ?_;rintro e w2 ⟨rfl,x2⟩;obtain ⟨s0,s1,s2,s3⟩:=(show jb wr g r (.slice C0 j0 k0) (.slice C1 r.cs.length j1) from ⟨g0,g1,g2,g3⟩).ext x2 Bf;have dH:=dF.out.ext x2;have vM:=HP.out.ext x2;have X2:=hid (mF.out.trans x2);have zF:g < w2.heap.size:=Nat.lt_of_lt_of_le Bf x2.size;have ako:∀ i,w2.frozen? ⟨g,i,none⟩=false:=fun i=>(x2.frozen (p:=⟨g,i,none⟩) Bf).trans (Ld i)
  have EX:=X2.out.size;clear x2 mO g0 g1 g2 g3 dF Ld Bf
  by_cases hd:0 < mdg l r
  · obtain ⟨n',rfl⟩:∃ n',n=n'+1:=⟨n - 1,by omega⟩;have dP:=kab (n:=n') hd;have Dt:=xav (n:=n') hd;rw [dP] at wH;rw [Dt] at BO;have SL:=gbo hl ag aB.can hd;have bF:=uay (l:=l) aB (by have:B32=4294967296:=rfl; omega);have J4:=aB.small (show E<=170 by omega);have Bo:=vaf (l:=l) aB;have NM:=hid (fun (W':World) (q:Nat->Prop) (u:Value) (hu:PlV W' q r u)=>kaf u hl ag aB (by omega) (by omega) hu);have fH:=hid (fun (W':World) (q:Nat->Prop) (u:Value) (hu:PlV W' q (ui l r) u)=>ka4 (ui l r) u hu (Bo.small (by omega)) (by have:=Bo.dm; omega) (by rw [Pl.nf_of_can Bo.can]; exact Bo) (by omega));rw [Pl.nf_of_can Bo.can] at fH;have wI:=hid (fun (W':World) (q:Nat->Prop) (u:Value) (hu:PlV W' q r u)=>jbq u hl ag aB hE (by omega) hu);obtain ⟨v4,w4,aH,kQ,iy,aZ,lm⟩:=dH.push (x:=r) EX (vM.mono fun b hb=>by (try dsimp only at hb); exact ⟨hb.1.2,hb.1.1⟩) (by omega) 24;have gY:∀ b,b < w2.heap.size->(Value.slice RA pre.length rc).ownBlock ≠ some b->w4.heap[b]?=w2.heap[b]?:=fun b hb hn=>World.grownBy.block kQ b hb (fun e=>hn e.symm)
    have pW:∀ b,b < w2.heap.size->(Value.slice RA pre.length rc).ownBlock ≠ some b->v4.ownBlock ≠ some b:=fun b hb ak e=>by
     rcases lm with h | h
     · exact ak (h ▸ e)
     · rw [h] at e; injection e with e; omega
    have c4:∀ i,w4.cell? ⟨g,i,none⟩=w2.cell? ⟨g,i,none⟩:=fun i=>World.cell?_of_block (a:=⟨g,i,none⟩) (gY g zF wM.out)
    have Il:PlV w4 (fun b=>w.heap.size<=b/\v4.ownBlock ≠ some b/\b ≠ g) r (plV r (.slice C0 j0 k0) (.slice C1 r.cs.length j1)):=PlV.turn_ kQ.size iy (fun b hb hq=>by (try dsimp only at hq); exact ⟨⟨hq.1.1,pW b hb hq.1.2,hq.2⟩,gY b hb hq.1.2⟩) vM;have Em:Ext w w4:=Below.grown X2.out.below kQ EX (fun k e=>(dH.own e).1);have qQ:v4.ownBlock ≠ some g:=pW g zF wM.out;obtain ⟨BD,AQ,rfl,-,-⟩:=aZ.len;have kP:(pre ++ [r]).length=pre.length+1:=by simp
    rw [kP] at aH aZ Il qQ;have zD:g < w4.heap.size:=Nat.lt_of_lt_of_le zF kQ.size;have aaw:w.heap.size<=w4.heap.size:=Em.size;have X4:=hid Em;have We:=hid aZ;have Wl:=hid Il;have NG:=hid qQ;obtain ⟨t0,t1,t2,t3⟩:jb w4 g r (.slice C0 j0 k0) (.slice C1 r.cs.length j1):=⟨(c4 0).trans s0,(c4 1).trans s1,(c4 2).trans s2,(c4 3).trans s3⟩;have JH:=hid (show jb w4 g r (.slice C0 j0 k0) (.slice C1 r.cs.length j1) from ⟨t0,t1,t2,t3⟩);have GL:Hid (∀ b,(Value.slice BD (pre.length+1) AQ).ownBlock=some b->b < w4.heap.size):=hid (fun b e=>(aZ.own e).2);have HDD:=hid hd;have og:decide (0 < mdg l r)=true:=by simpa using hd
    have o7:=hid bF;have WC:=hid SL;have HO4:=hid pW;clear dH vM kQ iy aZ lm gY pW c4 Il Em qQ kP hd SL bF J4 Bo dP Dt aB HP wM;generalize mdg l r=md at *
    go_wp2_with (at_builtin
                 refine wpList_append_run rfl (.tmp 19) (.tmp 21) _ _ rfl _ _ _ _ rfl rfl aH ?_)
    clear aH s0 s1 s2 s3;refine (NM.out _ _ _ Wl.out).mono ?_;rintro e w5 ⟨v5,rfl,p5,x5⟩;have qE:=fH.out _ _ _ p5;obtain ⟨F0,i0,h0,F1,i1,rfl,-⟩:=id p5.open_;obtain ⟨u0,u1,u2,u3⟩:=(show jb w4 g r (.slice C0 j0 k0) (.slice C1 r.cs.length j1) from ⟨t0,t1,t2,t3⟩).ext x5 zD;have X5:=hid x5;have akj:g < w5.heap.size:=Nat.lt_of_lt_of_le zD x5.size;obtain ⟨ld,qR⟩:=n_m (ui l r);rw [qR] at qE wH BO ⊢;clear p5 x5 qR NM fH t0 t1 t2 t3;unfold plV at qE ⊢;go_wp2_with fail;clear u0 u1 u2 u3;refine qE.mono ?_;rintro e w6 ⟨xv,rfl,ix,x6⟩;obtain ⟨bx,Bx,nx,cx,rfl⟩:=ix.unpack;have X6:=hid (X5.out.trans x6);obtain ⟨W7,hW7⟩:=n_m ((w6.alloc (.cells #[.bool bx,.slice Bx nx cx] 33)));have hx7:Ext w4 W7:=by rw [<- hW7]; exact X6.out.alloc _
    have X7:=hid hx7;have hs7:=hx7.size;clear x6 ix qE hx7
    by_cases cZ:ld.lv=0
    · have HF:Hid (kbt (fun b=>w.heap.size<=b) (yf l f) (gac l f) w (.returned (.tuple #[.slice BD (pre.length+1) AQ,.bool true])) W7):=hid (by
       have h1:=wH.out;have h2:=BO.out;rw [if_pos cZ] at h1 h2;rw [<- h1,<- h2]
       exact ⟨_,rfl,(We.out.ext X7.out).rowP,X4.out.trans X7.out⟩)
      have nH:decide (ld.lv=0)=true:=by simpa using cZ
      clear cZ;go_wp2_with fail;obtain ⟨vv,e9,q3,q4⟩:=HF.out;injection e9 with e9
      exact bodyPost_ret (v:=.tuple #[.slice BD (pre.length+1) AQ,.bool true]) (by simp [results,Tryz.results46,go_sem]) rfl HF.out
    · have nH:decide (ld.lv=0)=false:=by simpa using cZ
      have h1:=wH.out;have h2:=BO.out;rw [if_neg cZ] at h1 h2;have DR:=hid h1;have Xa:=hid h2;obtain ⟨y0,y1,y2,y3⟩:=JH.out.ext X7.out zD;obtain ⟨W8,Yq⟩:=n_m ((W7.alloc (.cells #[.int .i64 r.lv,.bool r.neg,.slice C0 j0 k0,.slice C1 r.cs.length j1] 35)));obtain ⟨o,ho⟩:=n_m (W7.heap.size);have Fq:=Wl.out.ext X7.out;have Bj:PBx W8 (fun b=>w.heap.size<=b/\(Value.slice BD (pre.length+1) AQ).ownBlock ≠ some b) o r:=by rw [<- Yq,<- ho]; exact PBx.new (Fq.mono fun b hb=>by (try dsimp only at hb); exact ⟨hb.1,hb.2.1⟩) _
      have hx8:Ext W7 W8:=by rw [<- Yq]; exact (Ext.refl W7).alloc _
      have hp8:=Fq.ext hx8;have lm:w4.heap.size<=o:=by omega
      have Qn:=hid Bj;have Nb:=hid (X7.out.trans hx8);have ho8:o < W8.heap.size:=Bj.1;obtain ⟨z0,z1,z2,z3⟩:jb W8 o r (.slice C0 j0 k0) (.slice C1 r.cs.length j1):=by rw [<- Yq,<- ho]; exact jb.new W7 r _ _ _
      have sF:=wI.out _ _ _ hp8;unfold plV at sF;obtain ⟨rd,Cm⟩:=n_m (xab l r);rw [Cm] at sF DR Xa o7 WC;clear cZ h1 h2 wH BO Fq hp8 Bj hx8 Cm wI;go_wp2_with fail;clear y0 y1 y2 y3 z0 z1 z2 z3 Yq hW7
      try rw [ho]
      clear ho;refine sF.mono ?_;rintro e w9 ⟨v9,rfl,p9,x9⟩;obtain ⟨G0,l0,l1,G1,l2,rfl,-⟩:=id p9.open_;have Bh:=Qn.out.ext x9;obtain ⟨ho9,hof,Y0,yn,yc,Y1,Eh,⟨g0,g1,g2,g3⟩,-⟩:=id Bh;obtain ⟨V,hV⟩:=n_m (((((w9.setCell ⟨o,0,none⟩ (.int .i64 rd.lv)).setCell ⟨o,1,none⟩ (.bool rd.neg)).setCell ⟨o,2,none⟩ (.slice G0 l0 l1)).setCell ⟨o,3,none⟩ (.slice G1 rd.cs.length l2)));have QI:Ext w4 V:=by rw [<- hV]; exact ((((Nb.out.trans x9).setCell lm _).setCell lm _).setCell lm _).setCell lm _
      have oG:Hid (vcp l f E D N w.heap.size V (.slice BD (pre.length+1) AQ) o n' rd (pre ++ [r])/\Ext w V):=hid ⟨⟨We.out.ext QI,by
       rw [<- hV]
       exact Bh.store (p9.mono fun b hb=>⟨⟨by omega,fun e=>by have:=GL.out b e; omega⟩,by omega⟩),fun e=>by have:=GL.out o e; omega,by omega,by have h1:=DR.out; simpa using h1,Xa.out,by have h1:=WC.out; omega,by have:=rQ.out; simp; omega,by have h1:=o7.out; simpa [Nat.add_assoc] using h1⟩,X4.out.trans QI⟩
      have KA:pre.length+1<=N:=by have:=rQ.out; omega
      clear p9 x9 Bh QI sF;unfold plV;go_wp2_with fail;clear g0 g1 g2 g3 hof hV
      go_roundw
      case rel=>exact ⟨o,n',rd,pre ++ [r],BD,AQ,by simp,rfl,by simpa using KA,oG.out⟩
      case measure=>simp [zbm]; omega
  · have og:decide (0 < mdg l r)=false:=by simpa using hd
    have HF:Hid (kbt (fun b=>w.heap.size<=b) (yf l f) (gac l f) w (.returned (.tuple #[.slice RA pre.length rc,.bool false])) w2):=hid (by
     have h1:=wH.out;have h2:=BO.out;rw [vae hd,List.append_nil] at h1;rw [ya7 hd] at h2;rw [<- h1,<- h2]
     exact ⟨_,rfl,dH.rowP,X2.out⟩)
    clear hd wH BO dH vM;generalize mdg l r=md at *;go_wp2_with fail;exact bodyPost_ret (v:=.tuple #[.slice RA pre.length rc,.bool false]) (by simp [results,Tryz.results46,go_sem]) rfl HF.out
def qar (q:Nat->Prop) (L:List Pl) (n:Int) (w:World) (e:Ending) (w':World):Prop:=∃ v,e=.returned (.tuple #[v,.int .i64 n])/\gav w' q v L/\Ext w w'
def xar (q:Nat->Prop) (L:List Pl) (w:World) (e:Ending) (w':World):Prop:=∃ v,e=.returned v/\gav w' q v L/\Ext w w'
theorem gav.nil (W:World) (q:Nat->Prop):gav W q (.slice none 0 0) []:=⟨none,0,rfl,by simp,by omega,by unfold jc; trivial⟩
theorem uh.frr {base g:Nat} {q:Nat->Prop} {W V:World} {v:Value} {l:List Pl} (h:uh base q W v l) (hf:Frr W g V) (ak:v.ownBlock ≠ some g) (hq:∀ b,q b->b ≠ g):uh base q V v l:=by
 have ho:=fun {R:Nat}=>h.own (R:=R)
 obtain ⟨rs,e,h2,h3⟩:=h;exact ⟨rs,e,h2.turn fun R hR=>hf.block R (ho hR).2 (fun e=>ak (e ▸ hR)),fun r hr=>⟨(h3 r hr).1,hf.pl (h3 r hr).2 fun b hb=>hq b hb.2⟩⟩
theorem uh.rowP' {base g:Nat} {W:World} {v:Value} {l:List Pl} (h:uh base (fun b=>base<=b/\b ≠ g) W v l):gav W (fun b=>base<=b) v l:=by
 obtain ⟨A,c,rfl,h1,h2⟩:=h.len;exact ⟨A,c,rfl,h1,h2,jc.turn (Nat.le_refl _) (fun _ _ h=>h) (fun b _ hq=>⟨by rcases hq with hq | hq; exact hq; exact hq.1,rfl⟩) _ _ _ h.at_⟩
structure kcp (l : Int) (f : Pl) (E D N base g : Nat) (W : World) (rv : Value) (n : Nat) (r : Pl) (pre : List Pl) : Prop where
 row:uh base (fun b=>base<=b/\b ≠ g) W rv pre
 box:PBx W (fun b=>rv.ownBlock ≠ some b) g r
 ne:rv.ownBlock ≠ some g
 seq:pre ++ ql l n r=yf l f
 fuel:mdg l r<=n
 len:pre.length+n=N
 fit:Fit r E (D+pre.length)
theorem qb3 {w:World} {q:Nat->Prop} {f:Pl} {l:Int} {E D:Nat} (v:Value) (hl:1<=l) (ag:l<=4) (h0:PlV w q f v) (hf:Fit f E D) (hE:E<=62) (hD:D<=1000000000000) :
 Calls Tryz.prog 24 #[v,.int .i64 l] w (xar (fun b=>w.heap.size<=b) (yf l f) w):=by
 have H0:=hid h0;obtain ⟨A0,m0,e0,B0,f0,rfl,-⟩:=h0.open_;obtain ⟨W,fU,fD,aC,aV⟩:=b_1 w f (.slice A0 m0 e0) (.slice B0 f.cs.length f0);have HX:=hid aC;have dC:=hid aV;have eQ:W.heap.size=w.heap.size+1:=fD;clear h0 aC aV;have IV:=yai (l:=l) hf.can hf.ex;obtain ⟨N,hN⟩:=n_m ((mdg l f).toNat);have hNE:N<=62:=by omega
 obtain ⟨W1,aT⟩:=n_m ((W.alloc (.cells #[.int .i64 f.lv,.bool f.neg,.slice A0 m0 e0,.slice B0 f.cs.length f0] 35)));obtain ⟨g,hg⟩:=n_m (W.heap.size);have aX:PBx W1 (fun b=>(Value.slice none 0 0).ownBlock ≠ some b) g f:=by rw [<- aT,<- hg]; exact PBx.new ((H0.out.ext HX.out).mono fun b hb=>by simp [Value.ownBlock]) _
 have qM:Ext w W1:=by rw [<- aT]; exact HX.out.alloc _
 have FP:w.heap.size<=g:=by rw [<- hg]; exact HX.out.size
 have iV:Hid (kcp l f E D N w.heap.size g W1 (.slice none 0 0) N f []):=hid ⟨uh.nil _ _ _,aX,by simp [Value.ownBlock],by rw [List.nil_append,<- hN]; rfl,by rw [<- hN]; omega,by simp,by simpa using hf⟩;have qY:=hid qM;obtain ⟨b0,b1,b2,b3⟩:=dC.out;unfold plV;clear hf IV hN aX qM fD eQ;go_enter Tryz.func24,Tryz.ntmps24;go_wp2_with fail;clear fU
 try rw [hg]
 clear b0 b1 b2 b3 aT hg
 go_loopw [5] (fun rv wr=>∃ (n:Nat) (r:Pl) (pre:List Pl) (RA:Option Addr) (rc:Nat),rv=.slice RA pre.length rc/\pre.length<=N/\Hid (kcp l f E D N w.heap.size g wr rv n r pre/\Ext w wr)) (fun rv _=>N+1 - zbm rv)
 case atStart=>exact ⟨N,f,[],none,0,rfl,by simp,hid ⟨iV.out,qY.out⟩⟩
 case round =>
  obtain ⟨n,r,pre,RA,rc,rfl,kH,HI⟩:=hrel;obtain ⟨⟨ae,Gh,ak,qP,hfu,hlen,aB⟩,hx⟩:=HI.out;have iG:=hid Gh;obtain ⟨Bf,Ld,C0,j0,k0,C1,j1,⟨g0,g1,g2,g3⟩,hp⟩:=Gh;have mO:=hid (zad (l:=l) _ aB.can (aB.copy_ (by omega)) (by have:=aB.dm; omega) hp);have dF:=hid ae;have HP:=hid hp;have wM:=hid ak;have wH:=hid qP;have rQ:=hid hlen;have mF:=hid hx;clear HI ae hp ak qP hlen hx;unfold plV at mO;go_wp2_with fail;refine mO.out.mono ?_;rintro e w2 ⟨rfl,x2⟩;obtain ⟨s0,s1,s2,s3⟩:=(show jb wr g r (.slice C0 j0 k0) (.slice C1 r.cs.length j1) from ⟨g0,g1,g2,g3⟩).ext x2 Bf;have qH:=hid (dF.out.ext x2);have Zo:=hid (HP.out.ext x2);have aeG:=hid (iG.out.ext x2);have X2:=hid (mF.out.trans x2);have zF:g < w2.heap.size:=Nat.lt_of_lt_of_le Bf x2.size;have EX:=X2.out.size;clear x2 mO g0 g1 g2 g3 dF HP Ld iG mF
  by_cases hd:0 < mdg l r
  · obtain ⟨n',rfl⟩:∃ n',n=n'+1:=⟨n - 1,by omega⟩;have dP:=kab (n:=n') hd;rw [dP] at wH;have WC:=hid (gbo hl ag aB.can hd);have o7:=hid (uay (l:=l) aB (by have:B32=4294967296:=rfl; omega));have Bo:=vaf (l:=l) aB;have yI:=hid (qaa _ Zo.out aB.can (aB.copy_ (by omega)) (by have:=aB.dm; omega));have NM:=hid (fun (W':World) (q:Nat->Prop) (u:Value) (hu:PlV W' q r u)=>kaf u hl ag aB (by omega) (by omega) hu);have fH:=hid (fun (W':World) (q:Nat->Prop) (u:Value) (hu:PlV W' q (ui l r) u)=>gad u hu (Or.inr ⟨Bo.can,Bo.copy_ (by omega),by have:=Bo.dm; omega⟩));rw [Pl.nf_of_can Bo.can] at fH;have wI:=hid (fun (W':World) (q:Nat->Prop) (u:Value) (hu:PlV W' q r u)=>jbq u hl ag aB hE (by omega) hu);have og:decide (0 < mdg l r)=true:=by simpa using hd
    clear hd dP Bo aB;unfold plV at yI;generalize mdg l r=md at *;go_wp2_with fail;refine yI.out.mono ?_;rintro e w3 ⟨v3,rfl,p3,x3⟩;obtain ⟨E0,a0,a1,E1,a2,rfl,-⟩:=id p3.open_;have gW:=qH.out.ext x3;have QK:w.heap.size<=w3.heap.size:=Nat.le_trans EX x3.size;obtain ⟨v4,w4,aH,kQ,iy,aZ,lm⟩:=gW.push (x:=r) QK (p3.mono fun b hb=>⟨fun e=>by have:=(qH.out.own e).2; omega,by omega,by omega⟩) (by omega) 24;have gY:∀ b,b < w3.heap.size->(Value.slice RA pre.length rc).ownBlock ≠ some b->w4.heap[b]?=w3.heap[b]?:=fun b hb hn=>World.grownBy.block kQ b hb (fun e=>hn e.symm)
    have pW:∀ b,b < w3.heap.size->(Value.slice RA pre.length rc).ownBlock ≠ some b->v4.ownBlock ≠ some b:=fun b hb ak e=>by
     rcases lm with h | h
     · exact ak (h ▸ e)
     · rw [h] at e; injection e with e; omega
    have FQ:g < w3.heap.size:=Nat.lt_of_lt_of_le zF x3.size;have Uy:=aeG.out.ext x3;have c4:∀ i,w4.cell? ⟨g,i,none⟩=w3.cell? ⟨g,i,none⟩:=fun i=>World.cell?_of_block (a:=⟨g,i,none⟩) (gY g FQ wM.out)
    have f4:∀ i,w4.frozen? ⟨g,i,none⟩=false:=fun i=>(World.frozen?_of_block (a:=⟨g,i,none⟩) (gY g FQ wM.out)).trans (Uy.2.1 i)
    have Il:PlV w4 (fun b=>v4.ownBlock ≠ some b/\b ≠ g) r (plV r (.slice C0 j0 k0) (.slice C1 r.cs.length j1)):=PlV.turn_ kQ.size iy (fun b hb hq=>by (try dsimp only at hq); exact ⟨⟨pW b hb hq.1,hq.2⟩,gY b hb hq.1⟩) (Zo.out.ext x3);have Em:Ext w w4:=Below.grown (X2.out.trans x3).below kQ QK (fun k e=>(gW.own e).1);have qQ:v4.ownBlock ≠ some g:=pW g FQ wM.out;have Gj:jb w4 g r (.slice C0 j0 k0) (.slice C1 r.cs.length j1):=by
     obtain ⟨t0,t1,t2,t3⟩:=(show jb w2 g r (.slice C0 j0 k0) (.slice C1 r.cs.length j1) from ⟨s0,s1,s2,s3⟩).ext x3 zF;exact ⟨(c4 0).trans t0,(c4 1).trans t1,(c4 2).trans t2,(c4 3).trans t3⟩
    obtain ⟨BD,AQ,rfl,-,-⟩:=aZ.len;have kP:(pre ++ [r]).length=pre.length+1:=by simp
    rw [kP] at aH aZ Il qQ;have zD:g < w4.heap.size:=Nat.lt_of_lt_of_le FQ kQ.size;have aeF:Hid (PBx w4 (fun b=>(Value.slice BD (pre.length+1) AQ).ownBlock ≠ some b) g r):=hid ⟨zD,f4,_,_,_,_,_,Gj,Il⟩;have aaw:w.heap.size<=w4.heap.size:=Em.size;have X4:=hid Em;have We:=hid aZ;have Wl:=hid Il;have NG:=hid qQ;have JH:=hid Gj;have GL:Hid (∀ b,(Value.slice BD (pre.length+1) AQ).ownBlock=some b->b < w4.heap.size):=hid (fun b e=>(aZ.own e).2);obtain ⟨t0,t1,t2,t3⟩:=Gj;clear gW kQ iy aZ lm gY pW c4 Il Em qQ kP wM Uy f4 p3 x3 yI;unfold plV
    go_wp2_with (at_builtin
                 refine wpList_append_run rfl (.tmp 12) (.tmp 15) _ _ rfl _ _ _ _ rfl rfl aH ?_)
    clear aH s0 s1 s2 s3;refine (NM.out _ _ _ Wl.out).mono ?_;rintro e w5 ⟨v5,rfl,p5,x5⟩;have qE:=fH.out _ _ _ p5;obtain ⟨F0,i0,h0,F1,i1,rfl,-⟩:=id p5.open_;have X5:=hid x5;obtain ⟨ld,qR⟩:=n_m (ui l r);rw [qR] at qE wH ⊢;clear p5 x5 qR NM fH t0 t1 t2 t3;unfold plV at qE ⊢;go_wp2_with fail;refine qE.mono ?_;rintro e w6 ⟨rfl,x6⟩;have X6:=hid (X5.out.trans x6);clear x6 qE
    by_cases cZ:ld.lv=0
    · have HF:Hid (xar (fun b=>w.heap.size<=b) (yf l f) w (.returned (.slice BD (pre.length+1) AQ)) w6):=hid (by
       have h1:=wH.out;rw [if_pos cZ] at h1;rw [<- h1]
       exact ⟨_,rfl,(We.out.ext X6.out).rowP',X4.out.trans X6.out⟩)
      have nH:(ld.lv == 0)=true:=by simpa using cZ
      clear cZ;go_wp2_with fail;go_ret;exact HF.out
    · have nH:(ld.lv == 0)=false:=by simpa using cZ
      have h1:=wH.out;rw [if_neg cZ] at h1;have DR:=hid h1;obtain ⟨y0,y1,y2,y3⟩:=JH.out.ext X6.out zD;have sF:=wI.out _ _ _ (Wl.out.ext X6.out);unfold plV at sF;obtain ⟨rd,Cm⟩:=n_m (xab l r);rw [Cm] at sF DR o7 WC;clear cZ h1 wH Cm wI;go_wp2_with fail;clear y0 y1 y2 y3;refine sF.mono ?_;rintro e w9 ⟨v9,rfl,p9,x9⟩;obtain ⟨G0,l0,l1,G1,l2,rfl,-⟩:=id p9.open_;have Bh:=(aeF.out.ext X6.out).ext x9;obtain ⟨ho9,hof,Y0,yn,yc,Y1,Eh,⟨g0,g1,g2,g3⟩,-⟩:=id Bh;obtain ⟨V,hV⟩:=n_m (((((w9.setCell ⟨g,0,none⟩ (.int .i64 rd.lv)).setCell ⟨g,1,none⟩ (.bool rd.neg)).setCell ⟨g,2,none⟩ (.slice G0 l0 l1)).setCell ⟨g,3,none⟩ (.slice G1 rd.cs.length l2)));have bF:=Bh.frr rd.lv rd.neg G0 G1 l0 l1 rd.cs.length l2;rw [hV] at bF;have h96:=X6.out.size;have oG:Hid (kcp l f E D N w.heap.size g V (.slice BD (pre.length+1) AQ) n' rd (pre ++ [r])/\Ext w V):=hid ⟨⟨((We.out.ext X6.out).ext x9).frr bF NG.out (fun b hb=>hb.2),by
       rw [<- hV]
       exact Bh.store (p9.mono fun b hb=>⟨fun e=>by have:=GL.out b e; omega,by omega⟩),NG.out,by have h1:=DR.out; simpa using h1,by have h1:=WC.out; omega,by have:=rQ.out; simp; omega,by have h1:=o7.out; simpa [Nat.add_assoc] using h1⟩,by
       rw [<- hV]; exact (((((X4.out.trans X6.out).trans x9).setCell FP _).setCell FP _).setCell FP _).setCell FP _⟩
      have KA:pre.length+1<=N:=by have:=rQ.out; omega
      clear p9 x9 Bh bF sF;unfold plV;go_wp2_with fail;clear g0 g1 g2 g3 hof hV
      go_roundw
      case rel=>exact ⟨n',rd,pre ++ [r],BD,AQ,by simp,by simpa using KA,oG.out⟩
      case measure=>simp [zbm]; omega
  · have og:decide (0 < mdg l r)=false:=by simpa using hd
    have HF:Hid (xar (fun b=>w.heap.size<=b) (yf l f) w (.returned (.slice RA pre.length rc)) w2):=hid (by
     have h1:=wH.out;rw [vae hd,List.append_nil] at h1;rw [<- h1]
     exact ⟨_,rfl,qH.out.rowP',X2.out⟩)
    clear hd wH;generalize mdg l r=md at *;go_wp2_with fail;go_ret;exact HF.out
end Go.Proofs.YtklnlgnnlmdibaaGreat
