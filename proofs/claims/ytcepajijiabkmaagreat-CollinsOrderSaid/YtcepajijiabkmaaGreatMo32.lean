/- Layer 41: collins.reducta, Reducta. -/
import Derived.Test.YtcepajijiabkmaaGreatMo31
import Derived.RangeFuncNested
set_option linter.all false
set_option maxRecDepth 100000
set_option maxHeartbeats 8000000
namespace Go.Proofs.YtcepajijiabkmaaGreat
open Lib (hid)
open Go.RowKit
def gat (W:World) (q:Nat->Prop) (v:Value) (L:List Pl):Prop:=∃ D c,v=.slice D L.length c/\L.length<=c/\c<=9223372036854775807/\jd W q L D 0
def ub6 (q:Nat->Prop) (L:List Pl) (b:Bool) (w:World) (e:Ending) (w':World):Prop:=∃ v,e=.returned (.tuple #[v,.bool b])/\gat w' q v L/\Ext w w'
def uc8 : Value -> Nat
 | .slice _ n _=>n
 | _=>0
theorem xg.qaX {base:Nat} {W:World} {v:Value} {l:List Pl} (h:xg base (fun b=>base<=b) W v l):gat W (fun b=>base<=b) v l:=by
 obtain ⟨A,c,rfl,h1,h2⟩:=h.len;exact ⟨A,c,rfl,h1,h2,jd.xl (pj _) (fun _ _ h=>h) (fun b _ hq=>⟨by rcases hq with hq | hq <;> exact hq,rfl⟩) _ _ _ h.at_⟩
structure qc8 (l : Int) (f : Pl) (E D N base : Nat) (W : World) (rv : Value) (g n : Nat) (r : Pl) (pre : List Pl) : Prop where
 row:xg base (fun b=>base<=b) W rv pre
 box:PBx W (fun b=>base<=b/\rv.ownBlock ≠ some b) g r
 ne:rv.ownBlock ≠ some g
 gb:base<=g
 seq:pre ++ jab l n r=vg l f
 cst:zah l n r=gag l f
 fuel:mdg l r<=n
 len:pre.length+n=N
 fit:Fit r E (D+pre.length)
theorem qb8 {w:World} {q:Nat->Prop} {f:Pl} {l:Int} {E D:Nat} (v:Value) (hl:1<=l) (ag:l<=4) (h0:PlV w q f v) (hf:Fit f E D) (hE:E<=62) (hD:D<=1000000000000) :
 Calls Tryz.prog 86 #[v,.int .i64 l] w (ub6 (fun b=>w.heap.size<=b) (vg l f) (gag l f) w):=by
 have H0:=hid h0;obtain ⟨A0,m0,e0,B0,f0,rfl,-⟩:=h0.open_;obtain ⟨W,gI,iT,aC,aX⟩:=b_1 w f (.slice A0 m0 e0) (.slice B0 f.cs.length f0);have HX:=hid aC;have dJ:=hid aX;have fZ:W.heap.size=w.heap.size+1:=iT;clear h0 aC aX;have HN:=hid (fun (W':World) (hx:Ext w W')=>qac _ (H0.out.ext hx) hf.can (hf.copy_ (by omega)) (by have:=hf.dm; omega));have OI:=waj (l:=l) hf.can hf.ex;obtain ⟨N,hN⟩:=n_m ((mdg l f).toNat);have hNE:N<=62:=by omega
 have Dp:Hid (∀ (W':World) (g:Nat),w.heap.size<=g->PBx W' (fun b=>w.heap.size<=b) g f->qc8 l f E D N w.heap.size W' (.slice none 0 0) g N f []):=hid (fun W' g hg hb=>⟨xg.nil _ _ _,hb.mono fun b h=>⟨h,by simp [Value.ownBlock]⟩,by simp [Value.ownBlock],hg,by rw [tz,<- hN]; rfl,by rw [<- hN]; rfl,by rw [<- hN]; omega,by simp,by simpa using hf⟩);obtain ⟨b0,b1,b2,b3⟩:=dJ.out;unfold plV at HN ⊢;clear hf OI hN;go_enter Tryz.func86,Tryz.ntmps86;go_wp2_with fail;clear gI;clear b0 b1 b2 b3;refine (HN.out _ HX.out).mono ?_;rintro e w1 ⟨v1,rfl,p1,x1⟩;obtain ⟨C0,j0,k0,C1,j1,rfl,-⟩:=id p1.open_;obtain ⟨W1,aW⟩:=n_m ((w1.alloc (.cells #[.int .i64 f.lv,.bool f.neg,.slice C0 j0 k0,.slice C1 f.cs.length j1] 33)));have bF:PBx W1 (fun b=>W.heap.size<=b) w1.heap.size f:=by rw [<- aW]; exact PBx.new p1 _
 have yB:Ext w W1:=by rw [<- aW]; exact (HX.out.trans x1).alloc _
 have WR:=HX.out.size;have bW:=x1.size;have kH:=hid (Dp.out W1 w1.heap.size (by omega) (bF.mono fun b hb=>by omega));have tN:=hid yB;clear p1 x1 bF yB HN Dp iT fZ;unfold plV;go_wp2_with fail;clear aW
 go_loopw [6,7] (fun rv pv wr=>∃ (g n:Nat) (r:Pl) (pre:List Pl) (RA:Option Addr) (rc:Nat),rv=.slice RA pre.length rc/\pv=.pointer (some ⟨g,0,none⟩)/\pre.length<=N/\Hid (qc8 l f E D N w.heap.size wr rv g n r pre/\Ext w wr)) (fun rv _ _=>N+1 - uc8 rv)
 case atStart=>exact ⟨_,N,f,[],none,0,rfl,rfl,by simp,hid ⟨kH.out,tN.out⟩⟩
 case round =>
  obtain ⟨g,n,r,pre,RA,rc,rfl,rfl,kE,HI⟩:=hrel;obtain ⟨⟨ae,abo,au,Il,yI,TQ,hfu,hlen,aF⟩,hx⟩:=HI.out;obtain ⟨OG,Tn,C0,j0,k0,C1,j1,⟨g0,g1,g2,g3⟩,hp⟩:=abo;have nN:=hid (xag (l:=l) _ aF.can (aF.copy_ (by omega)) (by have:=aF.dm; omega) hp);have aQ:=hid ae;have HP:=hid hp;have Jl:=hid au;have MZ:=hid yI;have Bg:=hid TQ;have vX:=hid hlen;have oh:=hid hx;clear HI ae hp au yI TQ hx;unfold plV at nN;go_wp2_with fail;refine nN.out.mono ?_;rintro e w2 ⟨rfl,x2⟩;obtain ⟨s0,s1,s2,s3⟩:=(show jb wr g r (.slice C0 j0 k0) (.slice C1 r.cs.length j1) from ⟨g0,g1,g2,g3⟩).ext x2 OG;have dI:=aQ.out.ext x2;have wP:=HP.out.ext x2;have X2:=hid (oh.out.trans x2);have KL:g < w2.heap.size:=px OG x2.size;have ajt:∀ i,w2.frozen? ⟨g,i,none⟩=false:=fun i=>(x2.frozen (p:=⟨g,i,none⟩) OG).trans (Tn i)
  have Qq:=X2.out.size;clear x2 nN g0 g1 g2 g3 aQ Tn OG
  by_cases hd:0 < mdg l r
  · obtain ⟨n',rfl⟩:∃ n',n=n'+1:=⟨n - 1,by omega⟩;have gU:=za0 (n:=n') hd;have CS:=gbc (n:=n') hd;rw [gU] at MZ;rw [CS] at Bg;have RP:=vc0 hl ag aF.can hd;have bG:=xbg (l:=l) aF (by have:B32=4294967296:=rfl; omega);have JU:=aF.small (show E<=170 by omega);have OX:=yan (l:=l) aF;have YJ:=hid (fun (W':World) (q:Nat->Prop) (u:Value) (hu:PlV W' q r u)=>wam u hl ag aF (by omega) (by omega) hu);have iy:=hid (fun (W':World) (q:Nat->Prop) (u:Value) (hu:PlV W' q (yl l r) u)=>ua9 (yl l r) u hu (OX.small (by omega)) (by have:=OX.dm; omega) (by rw [Pl.q7 OX.can]; exact OX) (by omega));rw [Pl.q7 OX.can] at iy;have Jj:=hid (fun (W':World) (q:Nat->Prop) (u:Value) (hu:PlV W' q r u)=>uc3 u hl ag aF hE (by omega) hu);obtain ⟨v4,w4,ak,nV,iE,dO,nG⟩:=dI.push (x:=r) Qq (wP.mono fun b hb=>by (try dsimp only at hb); exact ⟨hb.1.2,hb.1.1⟩) (by omega) 31;have hblk:∀ b,b < w2.heap.size->(Value.slice RA pre.length rc).ownBlock ≠ some b->w4.heap[b]?=w2.heap[b]?:=fun b hb hn=>rz nV b hb (fun e=>hn e.symm)
    have uP:∀ b,b < w2.heap.size->(Value.slice RA pre.length rc).ownBlock ≠ some b->v4.ownBlock ≠ some b:=fun b hb au e=>by
     rcases nG with h | h
     · exact au (h ▸ e)
     · rw [h] at e; injection e with e; omega
    have c4:∀ i,w4.cell? ⟨g,i,none⟩=w2.cell? ⟨g,i,none⟩:=fun i=>pB (a:=⟨g,i,none⟩) (hblk g KL Jl.out)
    have hp4:PlV w4 (fun b=>w.heap.size<=b/\v4.ownBlock ≠ some b/\b ≠ g) r (plV r (.slice C0 j0 k0) (.slice C1 r.cs.length j1)):=PlV.zd nV.size iE (fun b hb hq=>by (try dsimp only at hq); exact ⟨⟨hq.1.1,uP b hb hq.1.2,hq.2⟩,hblk b hb hq.1.2⟩) wP;have lS:Ext w w4:=Below.grown X2.out.below nV Qq (fun k e=>(dI.own e).1);have Cb:v4.ownBlock ≠ some g:=uP g KL Jl.out;obtain ⟨Pm,N7,rfl,-,-⟩:=dO.len;have pY:(pre ++ [r]).length=pre.length+1:=by simp
    rw [pY] at ak dO hp4 Cb;have KJ:g < w4.heap.size:=px KL nV.size;have aih:w.heap.size<=w4.heap.size:=lS.size;have X4:=hid lS;have HR4:=hid dO;have HP4:=hid hp4;have alg:=hid Cb;obtain ⟨t0,t1,t2,t3⟩:jb w4 g r (.slice C0 j0 k0) (.slice C1 r.cs.length j1):=⟨(c4 0).trans s0,(c4 1).trans s1,(c4 2).trans s2,(c4 3).trans s3⟩;have PX:=hid (show jb w4 g r (.slice C0 j0 k0) (.slice C1 r.cs.length j1) from ⟨t0,t1,t2,t3⟩);have DF:Hid (∀ b,(Value.slice Pm (pre.length+1) N7).ownBlock=some b->b < w4.heap.size):=hid (fun b e=>(dO.own e).2);have HDD:=hid hd;have nJ:decide (0 < mdg l r)=true:=by simpa using hd
    have qZ:=hid bG;have HMD:=hid RP;have HO4:=hid uP;clear dI wP nV iE dO nG hblk uP c4 hp4 lS Cb pY hd RP bG JU OX gU CS aF HP Jl;generalize mdg l r=md at *
    go_wp2_with (at_builtin
                 refine wpList_append_run rfl (.tmp 19) (.tmp 21) _ _ rfl _ _ _ _ rfl rfl ak ?_)
    clear ak s0 s1 s2 s3;refine (YJ.out _ _ _ HP4.out).mono ?_;rintro e w5 ⟨v5,rfl,p5,x5⟩;have vJ:=iy.out _ _ _ p5;obtain ⟨F0,i0,h0,F1,i1,rfl,-⟩:=id p5.open_;obtain ⟨u0,u1,u2,u3⟩:=(show jb w4 g r (.slice C0 j0 k0) (.slice C1 r.cs.length j1) from ⟨t0,t1,t2,t3⟩).ext x5 KJ;have X5:=hid x5;have ajo:g < w5.heap.size:=px KJ x5.size;obtain ⟨ld,AP⟩:=n_m (yl l r);rw [AP] at vJ MZ Bg ⊢;clear p5 x5 AP YJ iy t0 t1 t2 t3;unfold plV at vJ ⊢;go_wp2_with fail;clear u0 u1 u2 u3;refine vJ.mono ?_;rintro e w6 ⟨xv,rfl,ix,x6⟩;obtain ⟨bx,Bx,nx,cx,rfl⟩:=ix.unpack;have X6:=hid (X5.out.trans x6);obtain ⟨W7,hW7⟩:=n_m ((w6.alloc (.cells #[.bool bx,.slice Bx nx cx] 30)));have ZC:Ext w4 W7:=by rw [<- hW7]; exact X6.out.alloc _
    have X7:=hid ZC;have hs7:=ZC.size;clear x6 ix vJ ZC
    by_cases fF:ld.lv=0
    · have HF:Hid (ub6 (fun b=>w.heap.size<=b) (vg l f) (gag l f) w (.returned (.tuple #[.slice Pm (pre.length+1) N7,.bool true])) W7):=hid (by
       have h1:=MZ.out;have h2:=Bg.out;rw [if_pos fF] at h1 h2;rw [<- h1,<- h2]
       exact ⟨_,rfl,(HR4.out.ext X7.out).qaX,X4.out.trans X7.out⟩)
      have qC:decide (ld.lv=0)=true:=by simpa using fF
      clear fF;go_wp2_with fail;obtain ⟨vv,e9,q3,q4⟩:=HF.out;injection e9 with e9
      exact bodyPost_ret (v:=.tuple #[.slice Pm (pre.length+1) N7,.bool true]) (by simp [results,Tryz.results86,go_sem]) rfl HF.out
    · have qC:decide (ld.lv=0)=false:=by simpa using fF
      have h1:=MZ.out;have h2:=Bg.out;rw [if_neg fF] at h1 h2;have Vt:=hid h1;have Wu:=hid h2;obtain ⟨y0,y1,y2,y3⟩:=PX.out.ext X7.out KJ;obtain ⟨W8,XI⟩:=n_m ((W7.alloc (.cells #[.int .i64 r.lv,.bool r.neg,.slice C0 j0 k0,.slice C1 r.cs.length j1] 33)));obtain ⟨o,ho⟩:=n_m (W7.heap.size);have EZ:=HP4.out.ext X7.out;have AV:PBx W8 (fun b=>w.heap.size<=b/\(Value.slice Pm (pre.length+1) N7).ownBlock ≠ some b) o r:=by rw [<- XI,<- ho]; exact PBx.new (EZ.mono fun b hb=>by (try dsimp only at hb); exact ⟨hb.1,hb.2.1⟩) _
      have ZB:Ext W7 W8:=by rw [<- XI]; exact (Ext.refl W7).alloc _
      have hp8:=EZ.ext ZB;have nG:w4.heap.size<=o:=by omega
      have PU:=hid AV;have Vl:=hid (X7.out.trans ZB);have ho8:o < W8.heap.size:=AV.1;obtain ⟨z0,z1,z2,z3⟩:jb W8 o r (.slice C0 j0 k0) (.slice C1 r.cs.length j1):=by rw [<- XI,<- ho]; exact jb.new W7 r _ _ _
      have Ha:=Jj.out _ _ _ hp8;unfold plV at Ha;obtain ⟨rd,QQ⟩:=n_m (wag l r);rw [QQ] at Ha Vt Wu qZ HMD;clear fF h1 h2 MZ Bg EZ hp8 AV ZB QQ Jj;go_wp2_with fail;clear y0 y1 y2 y3 z0 z1 z2 z3 XI hW7
      try rw [ho]
      clear ho;refine Ha.mono ?_;rintro e w9 ⟨v9,rfl,p9,x9⟩;obtain ⟨G0,l0,l1,G1,l2,rfl,-⟩:=id p9.open_;have LG:=PU.out.ext x9;obtain ⟨ho9,hof,Y0,yn,yc,Y1,EH,⟨g0,g1,g2,g3⟩,-⟩:=id LG;obtain ⟨V,hV⟩:=n_m (((((w9.setCell ⟨o,0,none⟩ (.int .i64 rd.lv)).setCell ⟨o,1,none⟩ (.bool rd.neg)).setCell ⟨o,2,none⟩ (.slice G0 l0 l1)).setCell ⟨o,3,none⟩ (.slice G1 rd.cs.length l2)));have Qo:Ext w4 V:=by rw [<- hV]; exact ((((Vl.out.trans x9).setCell nG _).setCell nG _).setCell nG _).setCell nG _
      have uK:Hid (qc8 l f E D N w.heap.size V (.slice Pm (pre.length+1) N7) o n' rd (pre ++ [r])/\Ext w V):=hid ⟨⟨HR4.out.ext Qo,by
       rw [<- hV]
       exact LG.store (p9.mono fun b hb=>⟨⟨by omega,fun e=>by have:=DF.out b e; omega⟩,by omega⟩),fun e=>by have:=DF.out o e; omega,by omega,by have h1:=Vt.out; simpa using h1,Wu.out,by have h1:=HMD.out; omega,by have:=vX.out; simp; omega,by have h1:=qZ.out; simpa [tR] using h1⟩,X4.out.trans Qo⟩
      have aab:pre.length+1<=N:=by have:=vX.out; omega
      clear p9 x9 LG Qo Ha;unfold plV;go_wp2_with fail;clear g0 g1 g2 g3 hof hV
      go_roundw
      case rel=>exact ⟨o,n',rd,pre ++ [r],Pm,N7,by simp,rfl,by simpa using aab,uK.out⟩
      case measure=>simp [uc8]; omega
  · have nJ:decide (0 < mdg l r)=false:=by simpa using hd
    have HF:Hid (ub6 (fun b=>w.heap.size<=b) (vg l f) (gag l f) w (.returned (.tuple #[.slice RA pre.length rc,.bool false])) w2):=hid (by
     have h1:=MZ.out;have h2:=Bg.out;rw [ubc hd,sq] at h1;rw [ub8 hd] at h2;rw [<- h1,<- h2]
     exact ⟨_,rfl,dI.qaX,X2.out⟩)
    clear hd MZ Bg dI wP;generalize mdg l r=md at *;go_wp2_with fail;exact bodyPost_ret (v:=.tuple #[.slice RA pre.length rc,.bool false]) (by simp [results,Tryz.results86,go_sem]) rfl HF.out
def ybq (q:Nat->Prop) (L:List Pl) (n:Int) (w:World) (e:Ending) (w':World):Prop:=∃ v,e=.returned (.tuple #[v,.int .i64 n])/\gat w' q v L/\Ext w w'
theorem gat.nil (W:World) (q:Nat->Prop):gat W q (.slice none 0 0) []:=⟨none,0,rfl,by simp,by omega,by unfold jd; trivial⟩
theorem xg.Vn {base g:Nat} {q:Nat->Prop} {W V:World} {v:Value} {l:List Pl} (h:xg base q W v l) (hf:Frr W g V) (au:v.ownBlock ≠ some g) (hq:∀ b,q b->b ≠ g):xg base q V v l:=by
 have ho:=fun {R:Nat}=>h.own (R:=R)
 obtain ⟨rs,e,h2,h3⟩:=h;exact ⟨rs,e,h2.xl fun R hR=>hf.block R (ho hR).2 (fun e=>au (e ▸ hR)),fun r hr=>⟨(h3 r hr).1,hf.pl (h3 r hr).2 fun b hb=>hq b hb.2⟩⟩
def vdj (w0:World) (n:Nat):Prop:=∀ (p:Pl) (v u:Value) (w:World),p.sz < n->p.sz<=1099511627776->PlV w0 (fun _=>True) p v->PlV w0 (fun _=>True) p u->Ext w0 w->Calls Tryz.prog 41 #[v,u] w (wap true w)
theorem zdj (w0:World) (n:Nat):vdj w0 n:=by
 induction n with
 | zero=>intro p v u w h; omega
 | succ n ih =>
 intro p v u w hn hsz h h' aC;have IH:=hid ih;have ay:=hid aC;have jC:Hid (∀ k (hk:k < p.cs.length),p.cs[k].sz < n/\p.cs[k].sz<=1099511627776):=by
  have:∀ k (hk:k < p.cs.length),p.cs[k].sz < n/\p.cs[k].sz<=1099511627776:=fun k hk=>by have:=Pl.jn (pt hk); omega
  exact this
 have QF:=p.kj;obtain ⟨A0,n0,c0,A,c,rfl,ax,fC,dK,h4⟩:=h.open_;obtain ⟨B0,m0,d0,B,d,rfl,sF,KF,Su,Dc⟩:=h'.open_;have H4:=hid h4;have H4':=hid Dc;have HN:=hid ax;have VK:=hid sF;obtain ⟨W,hW⟩:=n_m ((w.alloc (.cells #[.int .i64 p.lv,.bool p.neg,.slice A0 n0 c0,.slice A p.cs.length c] 33)).alloc (.cells #[.int .i64 p.lv,.bool p.neg,.slice B0 m0 d0,.slice B p.cs.length d] 33));have ai:Ext w W:=by rw [<- hW]; exact ((Ext.refl w).alloc _).alloc _
 have dG:W.heap.size=w.heap.size+1+1:=by rw [<- hW]; simp
 have bV:jb W w.heap.size p (.slice A0 n0 c0) (.slice A p.cs.length c):=by rw [<- hW]; exact (jb.new w p _ _ _).ext ((Ext.refl _).alloc _) (by simp)
 have yZ:jb W (w.heap.size+1) p (.slice B0 m0 d0) (.slice B p.cs.length d):=by
  rw [<- hW];have h1:=jb.new (w.alloc (.cells #[.int .i64 p.lv,.bool p.neg,.slice A0 n0 c0,.slice A p.cs.length c] 33)) p (.slice B0 m0 d0) (.slice B p.cs.length d) 33;simpa using h1
 have aG:=hid ai;have kJ:=hid bV;have Wv:=hid yZ;obtain ⟨b0,b1,b2,b3⟩:=bV;obtain ⟨e0,e1,e2,e3⟩:=yZ;have xN:=hid (qbs (.agg #[.bool p.neg,.slice A0 n0 c0]) (.agg #[.bool p.neg,.slice B0 m0 d0]) (sgn p.neg (val p.ds)) (sgn p.neg (val p.ds)) p.ds.length p.ds.length W ⟨_,_,_,rfl,HN.out.ext (ay.out.trans aG.out),rfl,pj _⟩ ⟨_,_,_,rfl,VK.out.ext (ay.out.trans aG.out),rfl,pj _⟩);rw [jap rfl] at xN;clear h h' ih h4 Dc aC ax sF ai HN VK;unfold plV;go_enter Tryz.func41,Tryz.ntmps41;go_wp2_with fail;clear hW b0 b1 b2 b3 e0 e1 e2 e3;refine xN.out.mono ?_;rintro e w1 ⟨rfl,x1⟩;obtain ⟨b0,b1,b2,b3⟩:=kJ.out.ext x1 (by omega);obtain ⟨e0,e1,e2,e3⟩:=Wv.out.ext x1 (by omega);have X1:=hid (aG.out.trans x1);have oH:=x1.size;have NT:=hid (kJ.out.ext x1 (by omega));have NP:=hid (Wv.out.ext x1 (by omega));clear x1 xN;go_wp2_with fail;clear b0 b1 b2 b3 e0 e1 e2 e3
 go_loopw [5] (fun iv wr=>∃ k:Nat,k<=p.cs.length/\iv=.int .i64 k/\Hid (Ext w1 wr)) (fun iv _=>p.cs.length - (intOf iv).toNat)
 case atStart=>exact ⟨0,pZ _,rfl,Ext.refl _⟩
 case round =>
  obtain ⟨k,hk,rfl,hx⟩:=hrel;have HX:=hid hx.out;obtain ⟨b0,b1,b2,b3⟩:=NT.out.ext HX.out (by omega);obtain ⟨e0,e1,e2,e3⟩:=NP.out.ext HX.out (by omega);have mP:=HX.out.size;clear hx
  by_cases af:k < p.cs.length
  · obtain ⟨ad,C0,j0,f0,C1,j1,f1,rfl,ah,bP,bu⟩:=jd.ym H4.out k af;obtain ⟨ad',D0,i0,g0,D1,i1,g1,rfl,kX,sD,qO⟩:=jd.ym H4'.out k af;have bQ:Ext w0 wr:=(ay.out.trans X1.out).trans HX.out;have Gp:=hid (bP.ext bQ (by rw [ja]; exact ah));have Jm:=hid (sD.ext bQ (by rw [ja]; exact kX));have bF:ad.block < wr.heap.size:=px ah bQ.size;have dE:ad'.block < wr.heap.size:=px kX bQ.size;have lN:=hid (fun W' (bJ:Ext wr W')=>IH.out p.cs[k] _ _ W' (jC.out k af).1 (jC.out k af).2 bu qO (bQ.trans bJ));unfold plV at lN;generalize p.cs[k]=pk at *;have aH:Hid (∀ W2,Ext wr W2->(Ext wr W2/\W2.cell? ⟨w.heap.size,3,none⟩=some (.slice (some ad) p.cs.length c)/\W2.cell? ⟨w.heap.size+1,3,none⟩=some (.slice (some ad') p.cs.length d)/\W2.cell? (Addr.add ad (k * 4))=some (.int .i64 pk.lv)/\W2.cell? ⟨(Addr.add ad (k * 4)).block,(Addr.add ad (k * 4)).off+1,none⟩=some (.bool pk.neg)/\W2.cell? ⟨(Addr.add ad (k * 4)).block,(Addr.add ad (k * 4)).off+2,none⟩=some (.slice C0 j0 f0)/\W2.cell? ⟨(Addr.add ad (k * 4)).block,(Addr.add ad (k * 4)).off+3,none⟩=some (.slice C1 j1 f1)/\W2.cell? (Addr.add ad' (k * 4))=some (.int .i64 pk.lv)/\W2.cell? ⟨(Addr.add ad' (k * 4)).block,(Addr.add ad' (k * 4)).off+1,none⟩=some (.bool pk.neg)/\W2.cell? ⟨(Addr.add ad' (k * 4)).block,(Addr.add ad' (k * 4)).off+2,none⟩=some (.slice D0 i0 g0)/\W2.cell? ⟨(Addr.add ad' (k * 4)).block,(Addr.add ad' (k * 4)).off+3,none⟩=some (.slice D1 i1 g1))):=by
     have:∀ W2,Ext wr W2->(Ext wr W2/\W2.cell? ⟨w.heap.size,3,none⟩=some (.slice (some ad) p.cs.length c)/\W2.cell? ⟨w.heap.size+1,3,none⟩=some (.slice (some ad') p.cs.length d)/\W2.cell? (Addr.add ad (k * 4))=some (.int .i64 pk.lv)/\W2.cell? ⟨(Addr.add ad (k * 4)).block,(Addr.add ad (k * 4)).off+1,none⟩=some (.bool pk.neg)/\W2.cell? ⟨(Addr.add ad (k * 4)).block,(Addr.add ad (k * 4)).off+2,none⟩=some (.slice C0 j0 f0)/\W2.cell? ⟨(Addr.add ad (k * 4)).block,(Addr.add ad (k * 4)).off+3,none⟩=some (.slice C1 j1 f1)/\W2.cell? (Addr.add ad' (k * 4))=some (.int .i64 pk.lv)/\W2.cell? ⟨(Addr.add ad' (k * 4)).block,(Addr.add ad' (k * 4)).off+1,none⟩=some (.bool pk.neg)/\W2.cell? ⟨(Addr.add ad' (k * 4)).block,(Addr.add ad' (k * 4)).off+2,none⟩=some (.slice D0 i0 g0)/\W2.cell? ⟨(Addr.add ad' (k * 4)).block,(Addr.add ad' (k * 4)).off+3,none⟩=some (.slice D1 i1 g1)):=fun W2 aN=>by
      obtain ⟨a0,a1,a2,a3⟩:=Gp.out.ext aN (by rw [ja]; exact bF);obtain ⟨a0',a1',a2',a3'⟩:=Jm.out.ext aN (by rw [ja]; exact dE);exact ⟨aN,(aN.cell (p:=⟨w.heap.size,3,none⟩) (by show w.heap.size < _; omega)).trans b3,(aN.cell (p:=⟨w.heap.size+1,3,none⟩) (by show w.heap.size+1 < _; omega)).trans e3,a0,a1,a2,a3,a0',a1',a2',a3'⟩
     exact this
    clear bP sD bu qO bQ ah kX;have y0:Ext wr wr.drew:=(Ext.refl wr).drew;have Y0:=hid y0;clear y0;go_upto_region 6 with fail;clear b0 b1 b2 b3 e0 e1 e2 e3
    go_region_held3 (fun W2 => Ext wr W2 /\ W2.cell? ⟨w.heap.size, 3, none⟩ = some (.slice (some ad) p.cs.length c) /\ W2.cell? ⟨w.heap.size + 1, 3, none⟩ = some (.slice (some ad') p.cs.length d) /\ W2.cell? (Addr.add ad (k * 4)) = some (.int .i64 pk.lv) /\ W2.cell? ⟨(Addr.add ad (k * 4)).block, (Addr.add ad (k * 4)).off + 1, none⟩ = some (.bool pk.neg) /\ W2.cell? ⟨(Addr.add ad (k * 4)).block, (Addr.add ad (k * 4)).off + 2, none⟩ = some (.slice C0 j0 f0) /\ W2.cell? ⟨(Addr.add ad (k * 4)).block, (Addr.add ad (k * 4)).off + 3, none⟩ = some (.slice C1 j1 f1) /\ W2.cell? (Addr.add ad' (k * 4)) = some (.int .i64 pk.lv) /\ W2.cell? ⟨(Addr.add ad' (k * 4)).block, (Addr.add ad' (k * 4)).off + 1, none⟩ = some (.bool pk.neg) /\ W2.cell? ⟨(Addr.add ad' (k * 4)).block, (Addr.add ad' (k * 4)).off + 2, none⟩ = some (.slice D0 i0 g0) /\ W2.cell? ⟨(Addr.add ad' (k * 4)).block, (Addr.add ad' (k * 4)).off + 3, none⟩ = some (.slice D1 i1 g1))
     (first | with_reducible exact aH.out _ Y0.out | with_reducible exact aH.out _ y1)
     ((go_at_call 41
       refine (lN.out _ Y0.out).mono ?_;rintro e v1 ⟨rfl,x1⟩
       have y1:Ext wr v1:=Ext.trans Y0.out x1))
    all_goals
     have X2:=hid (HX.out.trans y1);clear y1 x1 lN aH Y0;go_wp2_with fail
     go_roundw
     case rel=>exact ⟨k+1,by omega,by go_num,X2.out⟩
     case measure=>simp [intOf]; omega
  · clear b0 b1 b2 e0 e1 e2;go_wp2_with fail;go_ret;exact ⟨rfl,X1.out.trans HX.out⟩
theorem zcb {w:World} {q1 q2:Nat->Prop} (p:Pl) (v u:Value) (hsz:p.sz<=1099511627776) (h:PlV w q1 p v) (k:PlV w q2 p u):Calls Tryz.prog 41 #[v,u] w (wap true w):=
 zdj w (p.sz+1) p v u w (tx _) hsz (h.mono fun _ _=>trivial) (k.mono fun _ _=>trivial) (Ext.refl w)
theorem ycm {w0 w:World} {q:Nat->Prop} {b:Int} (p:Pl) (v:Value) (h:PlV w0 q p v) (aC:Ext w0 w) (hl:p.lv=0) (hc:p.Can):Calls Tryz.prog 42 #[v,.int .i64 b] w (wap true w):=by
 have hi:=(Pl.kg p h.dig).2 hc;obtain ⟨A0,n0,c0,A,c,rfl,⟨Zd,c0',e,eH,uD,hd⟩,fC,dK,h4⟩:=h.open_;injection e with e1 e2 e3
 subst e1 e2 e3;obtain ⟨l,ng,ds,cs⟩:=p
 change l=0 at hl
 subst hl;have fD:cs.length=0:=by
  unfold Pl.Can at hc;rcases hc with hc | hc
  · rw [hc.2.1]; rfl
  · omega
 have HX:Hid (∀ o,Ext w (w.alloc o)):=fun o=>(Ext.refl w).alloc o
 have PQ:Hid (uj (w.alloc (.cells #[.int .i64 0,.bool ng,.slice A0 ds.length c0,.slice A cs.length c] 33)) A0 ds):=hd.ext (aC.trans ((Ext.refl w).alloc _));rw [Pl.xL,if_pos rfl,if_neg (by omega)] at hi;simp only [Pl.cs,Pl.ds,Pl.lv,Pl.neg,plV] at *;clear h h4 hd;rw [fD] at PQ ⊢
 by_cases yT:0 < ds.length
 · obtain ⟨ad,x,rfl,hb,aj,hx,HG⟩:=PQ.out.xS (ds.length - 1) (by omega);obtain ⟨k,hk⟩:∃ k:Nat,ds.length - 1=k:=⟨_,rfl⟩;have hk2:ds.length=k+1:=by omega
   rw [hk] at aj HG;have IX:ds.getLast?=some x:=by rw [sI,hk]; exact HG.out
   have aC:¬ x=0:=fun e=>by
    have h1:decide (ds.length=0)=false:=by rw [decide_eq_false_iff_not]; omega
    have h2:decide (ds.getLast? ≠ some 0)=false:=by rw [IX,e]; simp
    rw [h1,h2] at hi;simp at hi
   have Zy:((x:Int) == 0)=false:=by rw [beq_eq_false_iff_ne]; omega
   clear hi IX;generalize ds.length=N at *;subst hk2;have jI:IntKind.i64.wrap (((k+1:Nat):Int) - 1)=k:=by simp [IntKind.wrap,IntKind.bits,IntKind.signed]; omega
   go_enter Tryz.func42,Tryz.ntmps42;go_wp2_with fail;go_ret;exact ⟨rfl,HX.out _⟩
 · have hN:ds.length=0:=by omega
   have su:ng=false:=by rw [hN] at hi; simpa using hi
   subst su;rw [hN] at PQ;rw [hN];clear hi;go_enter Tryz.func42,Tryz.ntmps42;go_wp2_with fail;go_ret;exact ⟨rfl,HX.out _⟩
theorem uct : ∀ {x : Pl}, x.Can -> x.lv = 0 -> x.ds = [] -> x = Pl.zero
 | .mk l ng ds cs,hc,hl,hd=>by
   simp only [Pl.lv,Pl.ds] at hl hd;subst hl hd;unfold Pl.Can at hc;rcases hc with hc | hc
   · rw [hc.2.1,hc.2.2.2 rfl]; rfl
   · omega
def xdf (w0:World) (q:Nat->Prop) (n:Nat):Prop:=∀ (p:Pl) (v:Value) (w:World) (b:Int),p.sz < n->p.sz<=1099511627776->p.Can->p.lv < b->PlV w0 q p v->Ext w0 w->Calls Tryz.prog 42 #[v,.int .i64 b] w (wap true w)
theorem vc7 (w0:World) (q:Nat->Prop) (n:Nat):xdf w0 q n:=by
 induction n with
 | zero=>intro p v w b h; omega
 | succ n ih =>
 intro p v w b hn hsz hc hb h aC
 by_cases hl:p.lv=0
 · exact ycm p v h aC hl hc
 have IH:=hid ih;have ay:=hid aC;have jC:Hid (∀ k (hk:k < p.cs.length),p.cs[k].sz < n/\p.cs[k].sz<=1099511627776):=hid (fun k hk=>by have:=Pl.jn (pt hk); omega);have QF:=p.kj;obtain ⟨fC,ag,su,yT,hlen,H9,dW⟩:1<=p.lv/\p.lv<=4/\p.neg=false/\p.ds=[]/\2<=p.cs.length/\uq p.lv p.cs/\p.cs.getLast? ≠ some Pl.zero:=by
  obtain ⟨l,ng,ds,cs⟩:=p;unfold Pl.Can at hc;rcases hc with hc | hc
  · exact absurd hc.1 hl
  · exact hc
 have HK:=hid H9.mem;have RV:∀ (h:p.cs.length - 1 < p.cs.length),p.cs[p.cs.length - 1] ≠ Pl.zero:=fun h e=>dW (by rw [sI,pr h,e])
 have adk:=hid RV;obtain ⟨A0,n0,c0,A,c,rfl,ax,KF,Su,h4⟩:=h.open_;rw [yT] at ax;obtain ⟨Zd,c0',e,-,-,-⟩:=ax;injection e with e1 e2 e3
 subst e1 e2 e3;have H4:=hid h4;unfold plV;rw [su];obtain ⟨W,hW⟩:=n_m ((w.alloc (.cells #[.int .i64 p.lv,.bool false,.slice A0 0 c0,.slice A p.cs.length c] 33)));have ai:Ext w W:=by rw [<- hW]; exact (Ext.refl w).alloc _
 have dG:W.heap.size=w.heap.size+1:=by rw [<- hW]; simp
 have bV:jb W w.heap.size p (.slice A0 0 c0) (.slice A p.cs.length c):=by rw [<- hW,<- su]; exact jb.new w p _ _ _
 have aG:=hid ai;have kJ:=hid bV;obtain ⟨b0,b1,b2,b3⟩:=bV;have q1:¬ p.lv < 0:=by omega
 have q2:¬ b<=p.lv:=by omega
 have q3:¬ (p.cs.length:Int) < 2:=by omega
 have q4:¬ p.lv=0:=hl;clear h ih h4 aC ai yT H9 dW RV hc;rw [su] at b1;have Nl:=hid su;clear su;simp only [rK];go_enter Tryz.func42,Tryz.ntmps42;go_wp2_with fail;clear hW b0 b1 b2 b3
 go_loopw [6] (fun iv wr=>∃ k:Nat,k<=p.cs.length/\iv=.int .i64 k/\Hid (Ext W wr)) (fun iv _=>p.cs.length - (intOf iv).toNat)
 case atStart=>exact ⟨0,pZ _,rfl,Ext.refl _⟩
 case round =>
  obtain ⟨k,hk,rfl,hx⟩:=hrel;have HX:=hid hx.out;obtain ⟨b0,b1,b2,b3⟩:=kJ.out.ext HX.out (by omega);rw [Nl.out] at b1;have mP:=HX.out.size;clear hx
  by_cases af:k < p.cs.length
  · obtain ⟨ad,C0,j0,f0,C1,j1,f1,rfl,ah,bP,bu⟩:=jd.ym H4.out k af;have bQ:Ext w0 wr:=(ay.out.trans aG.out).trans HX.out;have Gp:=hid (bP.ext bQ (by rw [ja]; exact ah));have bF:ad.block < wr.heap.size:=px ah bQ.size;obtain ⟨hkl,AU⟩:=HK.out p.cs[k] (pt af);have lN:=hid (fun W' (bJ:Ext wr W')=>IH.out p.cs[k] _ W' p.lv (jC.out k af).1 (jC.out k af).2 AU hkl bu (bQ.trans bJ));unfold plV at lN;clear hkl AU;generalize p.cs[k]=pk at *;have aH:Hid (∀ W2,Ext wr W2->(Ext wr W2/\W2.cell? ⟨w.heap.size,0,none⟩=some (.int .i64 p.lv)/\W2.cell? ⟨w.heap.size,3,none⟩=some (.slice (some ad) p.cs.length c)/\W2.cell? (Addr.add ad (k * 4))=some (.int .i64 pk.lv)/\W2.cell? ⟨(Addr.add ad (k * 4)).block,(Addr.add ad (k * 4)).off+1,none⟩=some (.bool pk.neg)/\W2.cell? ⟨(Addr.add ad (k * 4)).block,(Addr.add ad (k * 4)).off+2,none⟩=some (.slice C0 j0 f0)/\W2.cell? ⟨(Addr.add ad (k * 4)).block,(Addr.add ad (k * 4)).off+3,none⟩=some (.slice C1 j1 f1))):=hid (fun W2 aN=>by
     obtain ⟨a0,a1,a2,a3⟩:=Gp.out.ext aN (by rw [ja]; exact bF)
     exact ⟨aN,(aN.cell (p:=⟨w.heap.size,0,none⟩) (by show w.heap.size < _; omega)).trans b0,(aN.cell (p:=⟨w.heap.size,3,none⟩) (by show w.heap.size < _; omega)).trans b3,a0,a1,a2,a3⟩)
    clear bP bu bQ ah;have y0:Ext wr wr.drew:=(Ext.refl wr).drew;have Y0:=hid y0;clear y0;go_upto_region 11 with fail;clear b0 b1 b2 b3
    go_region_held3 (fun W2 => Ext wr W2 /\ W2.cell? ⟨w.heap.size, 0, none⟩ = some (.int .i64 p.lv) /\ W2.cell? ⟨w.heap.size, 3, none⟩ = some (.slice (some ad) p.cs.length c) /\ W2.cell? (Addr.add ad (k * 4)) = some (.int .i64 pk.lv) /\ W2.cell? ⟨(Addr.add ad (k * 4)).block, (Addr.add ad (k * 4)).off + 1, none⟩ = some (.bool pk.neg) /\ W2.cell? ⟨(Addr.add ad (k * 4)).block, (Addr.add ad (k * 4)).off + 2, none⟩ = some (.slice C0 j0 f0) /\ W2.cell? ⟨(Addr.add ad (k * 4)).block, (Addr.add ad (k * 4)).off + 3, none⟩ = some (.slice C1 j1 f1))
     (first | with_reducible exact aH.out _ Y0.out | with_reducible exact aH.out _ y1)
     ((go_at_call 42
       refine (lN.out _ Y0.out).mono ?_;rintro e v1 ⟨rfl,x1⟩
       have y1:Ext wr v1:=Ext.trans Y0.out x1))
    all_goals
     have X2:=hid (HX.out.trans y1);clear y1 x1 lN aH Y0;go_wp2_with fail
     go_roundw
     case rel=>exact ⟨k+1,by omega,by go_num,X2.out⟩
     case measure=>simp [intOf]; omega
  · obtain ⟨m,hm⟩:∃ m:Nat,p.cs.length - 1=m:=⟨_,rfl⟩;have Oy:p.cs.length=m+1:=by omega
    have lw:m < p.cs.length:=by omega
    obtain ⟨ad,C0,j0,f0,C1,j1,f1,rfl,ah,bP,bu⟩:=jd.ym H4.out m lw;have bQ:Ext w0 wr:=(ay.out.trans aG.out).trans HX.out;obtain ⟨g0,g1,g2,g3⟩:=bP.ext bQ (by rw [ja]; exact ah);obtain ⟨hkl,AU⟩:=HK.out p.cs[m] (pt lw);have wS:p.cs[m] ≠ Pl.zero:=by have:=adk.out (by omega); simpa only [hm] using this
    have hw:IntKind.i64.wrap ((p.cs.length:Int) - 1)=m:=by rw [rj]; omega
    have hmi:(m:Int) < (p.cs.length:Int):=by omega
    obtain ⟨U,hU⟩:=n_m ((wr.alloc (.cells #[.int .i64 p.cs[m].lv,.bool p.cs[m].neg,.slice C0 j0 f0,.slice C1 j1 f1] 33)));have hxU:Ext wr U:=by rw [<- hU]; exact (Ext.refl wr).alloc _
    obtain ⟨s0,s1,s2,s3⟩:jb U wr.heap.size p.cs[m] (.slice C0 j0 f0) (.slice C1 j1 f1):=by rw [<- hU]; exact jb.new wr p.cs[m] _ _ _
    have HF:=hid (aG.out.trans (HX.out.trans hxU));have hj0:j0=p.cs[m].ds.length:=by
     obtain ⟨D0,dn,dc,D1,dd,e9,hn9,-⟩:=bu.open_;unfold plV at e9;simp only [tm,tF,sy,and_true,true_and] at e9;obtain ⟨h1,-⟩:=e9;injection h1 with a1 a2 a3
     obtain ⟨A',c',e8,-⟩:=hn9;injection e8 with _ e8 _
     rw [a2]; exact e8
    have wX:(0 < p.cs[m].lv)\/(¬ 0 < p.cs[m].lv/\0 < j0):=by
     rcases Int.lt_or_le 0 p.cs[m].lv with h1 | h1
     · exact .inl h1
     · refine .inr ⟨by omega,?_⟩;have hz:=AU.qq.1;have aav:p.cs[m].lv=0:=by omega
       rcases tU j0 with h2 | h2
       · exact absurd (uct AU aav (rT (by omega))) wS
       · exact h2
    generalize p.cs[m]=pk at *;clear bQ ah bP bu hkl AU wS hxU hm Oy hj0;rcases wX with h1 | ⟨h1,h2⟩
    · go_wp2_with fail;go_ret;exact ⟨rfl,HF.out⟩
    · go_wp2_with fail;go_ret;exact ⟨rfl,HF.out⟩
theorem gcv {w:World} {q:Nat->Prop} (p:Pl) (v:Value) (b:Int) (hc:p.Can) (hb:p.lv < b) (hsz:p.sz<=1099511627776) (h:PlV w q p v):Calls Tryz.prog 42 #[v,.int .i64 b] w (wap true w):=
 vc7 w q (p.sz+1) p v w b (tx _) hsz hc hb h (Ext.refl w)
theorem zbk {w:World} {q0 q1:Nat->Prop} {L:List Pl} {D0 D1:Option Addr} {c0 c1 E D:Nat} (hA:jd w q0 L D0 0) (hB:jd w q1 L D1 0) (hf:∀ c ∈ L,Fit c E D) (hE:E<=170) (hD:D<=1099511627776) (hn:L.length<=1000000) :
 Calls Tryz.prog 17 #[.slice D0 L.length c0,.slice D1 L.length c1] w (wap true w):=by
 have HA:=hid hA;have HB:=hid hB;have HF:=hid hf;clear hA hB hf;go_enter Tryz.func17,Tryz.ntmps17;go_wp2_with fail
 go_loopw [13] (fun iv wr=>∃ k:Nat,k<=L.length/\iv=.int .i64 k/\Hid (Ext w wr)) (fun iv _=>L.length - (intOf iv).toNat)
 case atStart=>exact ⟨0,pZ _,rfl,Ext.refl _⟩
 case round =>
  obtain ⟨k,hk,rfl,hx⟩:=hrel;have HX:=hid hx.out;clear hx
  by_cases af:k < L.length
  · obtain ⟨ad,C0,j0,f0,C1,j1,f1,rfl,ah,bP,bu⟩:=jd.ym (HA.out.ext HX.out) k af;obtain ⟨ad',E0,i0,g0,E1,i1,g1,rfl,kX,sD,qO⟩:=jd.ym (HB.out.ext HX.out) k af;have fG:=HF.out L[k] (pt af);have Gp:=hid bP;have Jm:=hid sD;have HKA:=hid bu;have HKB:=hid qO;have Ez:=hid (fun W' (hx:Ext wr W')=>qac _ (qO.ext hx) fG.can (fG.copy_ hE) (by have:=fG.dm; omega));have tZ:=hid (fun W' (q:Nat->Prop) (u:Value) (hx:Ext wr W') (hu:PlV W' q L[k] u)=>zcb _ _ u (fG.copy_ hE) (bu.ext hx) hu);have uM:=hid (fun W' (hx:Ext wr W')=>gcv _ _ 5 fG.can (by have:=fG.can.qq.2; omega) (fG.copy_ hE) (bu.ext hx));unfold plV at Ez tZ uM;generalize L[k]=pk at *;have aH:Hid (∀ W2,Ext wr W2->(Ext wr W2/\W2.cell? (Addr.add ad (k * 4))=some (.int .i64 pk.lv)/\W2.cell? ⟨(Addr.add ad (k * 4)).block,(Addr.add ad (k * 4)).off+1,none⟩=some (.bool pk.neg)/\W2.cell? ⟨(Addr.add ad (k * 4)).block,(Addr.add ad (k * 4)).off+2,none⟩=some (.slice C0 j0 f0)/\W2.cell? ⟨(Addr.add ad (k * 4)).block,(Addr.add ad (k * 4)).off+3,none⟩=some (.slice C1 j1 f1)/\W2.cell? (Addr.add ad' (k * 4))=some (.int .i64 pk.lv)/\W2.cell? ⟨(Addr.add ad' (k * 4)).block,(Addr.add ad' (k * 4)).off+1,none⟩=some (.bool pk.neg)/\W2.cell? ⟨(Addr.add ad' (k * 4)).block,(Addr.add ad' (k * 4)).off+2,none⟩=some (.slice E0 i0 g0)/\W2.cell? ⟨(Addr.add ad' (k * 4)).block,(Addr.add ad' (k * 4)).off+3,none⟩=some (.slice E1 i1 g1))):=hid (fun W2 aN=>by
     obtain ⟨a0,a1,a2,a3⟩:=Gp.out.ext aN (by rw [ja]; exact ah);obtain ⟨a0',a1',a2',a3'⟩:=Jm.out.ext aN (by rw [ja]; exact kX)
     exact ⟨aN,a0,a1,a2,a3,a0',a1',a2',a3'⟩)
    clear bP sD bu qO fG;have y0:Ext wr wr.drew:=(Ext.refl wr).drew;have Y0:=hid y0;clear y0;go_upto_region 6 with fail
    go_region_held3 (fun W2 => Ext wr W2 /\ W2.cell? (Addr.add ad (k * 4)) = some (.int .i64 pk.lv) /\ W2.cell? ⟨(Addr.add ad (k * 4)).block, (Addr.add ad (k * 4)).off + 1, none⟩ = some (.bool pk.neg) /\ W2.cell? ⟨(Addr.add ad (k * 4)).block, (Addr.add ad (k * 4)).off + 2, none⟩ = some (.slice C0 j0 f0) /\ W2.cell? ⟨(Addr.add ad (k * 4)).block, (Addr.add ad (k * 4)).off + 3, none⟩ = some (.slice C1 j1 f1) /\ W2.cell? (Addr.add ad' (k * 4)) = some (.int .i64 pk.lv) /\ W2.cell? ⟨(Addr.add ad' (k * 4)).block, (Addr.add ad' (k * 4)).off + 1, none⟩ = some (.bool pk.neg) /\ W2.cell? ⟨(Addr.add ad' (k * 4)).block, (Addr.add ad' (k * 4)).off + 2, none⟩ = some (.slice E0 i0 g0) /\ W2.cell? ⟨(Addr.add ad' (k * 4)).block, (Addr.add ad' (k * 4)).off + 3, none⟩ = some (.slice E1 i1 g1))
     (first | with_reducible exact aH.out _ Y0.out | with_reducible exact aH.out _ y1 | with_reducible exact aH.out _ y2 | with_reducible exact aH.out _ y3)
     (first
       | (go_at_call 36
          refine (Ez.out _ Y0.out).mono ?_;rintro e v1 ⟨nv,rfl,p1,x1⟩
          have y1:Ext wr v1:=Ext.trans Y0.out x1)
       | (go_at_call 41
          refine (tZ.out _ _ _ y1 p1).mono ?_;rintro e v2 ⟨rfl,x2⟩
          have y2:Ext wr v2:=Ext.trans y1 x2)
       | (go_at_call 42
          refine (uM.out _ y2).mono ?_;rintro e v3 ⟨rfl,x3⟩
          have y3:Ext wr v3:=Ext.trans y2 x3))
    all_goals
     have X2:=hid (HX.out.trans y3);clear y1 y2 y3 x1 x2 x3 p1 aH Y0 Ez tZ uM;go_wp2_with fail
     go_roundw
     case rel=>exact ⟨k+1,by omega,by go_num,X2.out⟩
     case measure=>simp [intOf]; omega
  · obtain rfl:k=L.length:=by omega
    go_wp2_with fail;go_ret;exact ⟨rfl,HX.out⟩
def ga8 (B : Nat) (Kp : World -> World -> Prop) (I : World -> Prop) (W : World) : Exit -> Act -> World -> Prop
 | .normal,_,W'=>KeepsFrom B W W'/\Kp W W'/\I W'
 | _,_,_=>False
def xc9 {α:Type} (n:Nat) (P:Program) (g:Nat) (lb:Array Value) (enc:α->Array Value) (Ok:Nat->α->World->Prop) (Kp:World->World->Prop) (N:Nat) (w:World):Prop:=
 ∀ (l:Nat) (J:Nat->World->Prop) (W:World),Below w.heap.size w W->AbidesFrom W.heap.size J ->
   (∀ k x W1,k < N->J k W1->Ok k x W1->YieldAt Fence.wide (n - 1) P l (enc x) W1 fun e W'=>e=.returned (.bool true)/\J (k+1) W'/\Kp W1 W') ->
   J 0 W->CallsIn Fence.wide n P g (#[.func (.yield l) #[] #[]] ++ lb) W fun e W'=>(∃ v,e=.returned v)/\J N W'
theorem zbz {α : Type} {n : Nat} {P : Program} {w : World} {g : Operand} {ps : Array Tmp} {assign body : Code} {Q : Exit -> Act -> World -> Prop} {a : Act}
 (h1:1<=n) {gf:Nat} {lb:Array Value} (hg:a.eval g=.func (.func gf) #[] lb) (eg:∀ args w,(callFunc gf args).run P w=.ok (.enter gf args) w)
 {enc:α->Array Value} {Ok:Nat->α->World->Prop} {Kp:World->World->Prop} {N:Nat} {w0:World} (yI:xc9 (n - 1) P gf lb enc Ok Kp N w0)
 (Me:∀ {A B C:World},Kp A B->Kp B C->Kp A C) (MB:∀ (W:World) (l:Nat) (o o':Obj),w.heap.size<=l->W.heap[l]?=some o->o.isCells=false->o.isWalk=false->Kp W (W.putObj l o')) (aX:Below w0.heap.size w0 w) (wO:∀ x,(enc x).size=ps.size)
 (I:Nat->World->Prop) (hI:OwnFrom w.heap.size I) (h0:I 0 w) (Ax:Nat->α->Act->World->Prop) (UV:∀ k x a',OwnFrom w.heap.size (fun (_:Unit) W=>Ax k x a' W))
 (kW:∀ (l k:Nat) (x:α) (W:World) (K:Act->World->Prop),k < N->I k W->Ok k x W->(∀ a' W',KeepsFrom w.heap.size W W'->Kp W W'->Ax k x a' W'->K a' W') ->
   assign.wpIn (Fence.wide.inRound l) (n - 1 - 1) P (Exit.then K (fun _ _ _=>False)) { tmps:=(ps.zip (enc x)).foldl (fun t (p,v)=>t.setIfInBounds p v) a.tmps,defers:=[] } W)
 (sZ:∀ (l k:Nat) (x:α) (a':Act) (W:World),k < N->Ax k x a' W->body.wpIn (Fence.wide.inRound l) (n - 1 - 1) P (ga8 w.heap.size Kp (I (k+1)) W) a' W)
 (iM:∀ (D:Nat) (W:World),w.heap.size<=D->I N W->W.heap[D]?=some (.deferred (some []))->Q .normal { a with defers:={ target:=.collected D,args:=#[] } :: a.defers } W) :
 (Code.rangeFunc g ps assign body).wpIn Fence.wide n P Q a w:=by
 refine wpIn_rangeFunc fun fn yR=>?_
 obtain ⟨B,hB⟩:=n_m (w.heap.size)
 let rc:LoopState->Option Code->Loop:=fun st pe=>{ state:=st,pending:=pe,fn,tmps:=a.tmps,params:=ps,assign,body,defers:=B }
 obtain ⟨V,hV⟩:=n_m ((w.alloc (.deferred (some []))).alloc (.loop (rc .ready none)));have vL:V.heap[B+1]?=some (.loop (rc .ready none)):=by
  rw [<- hV,<- hB];have:=World.alloc_heap_new (w.alloc (.deferred (some []))) (.loop (rc .ready none))
  rwa [tP] at this
 have vD:V.heap[B]?=some (.deferred (some [])):=by
  rw [<- hV,<- hB]; exact (Below.heap_alloc _ _ _ (by simp)).trans (World.alloc_heap_new w _)
 have vI:I 0 V:=by rw [<- hV]; exact hI.alloc _ (hI.alloc _ h0)
 have vB:Below w0.heap.size w0 V:=by
  rw [<- hV]; exact aX.trans ((((Below.refl _ w).alloc (pj _) _).alloc (by simp) _).mono aX.size)
 have vS:V.heap.size=B+2:=by rw [<- hV,<- hB]; simp
 rw [hB] at MB hI UV kW sZ iM
 have walk:∀ {A A':World} {row:Option Nat} {k:Nat} {o:Obj},A.grownBy A' row->(∀ r,row=some r->V.heap.size<=r/\∃ o:Obj,A.heap[r]?=some o/\o.isWalk=true)->A.heap[k]?=some o->o.isWalk=false->A'.heap[k]?=some o:=
  fun jP hr hk ho=>(grownBy_keeps jP (fun r e=>(hr r e).2) hk ho).trans hk
 refine ⟨B+1,[{ target:=.collected B,args:=#[] }],V,{ target:=.fn (.func gf) lb,args:=#[.func (.yield (B+1)) #[] #[]] },V,gf,#[.func (.yield (B+1)) #[] #[]] ++ lb,V,?_,?_,?_,?_,fun _=>h1,?_⟩
 · subst hB; rw [<- hV]; exact run_enterLoop_outer _ _ _ _ _
 · simp only [resolve,hg]; simp [go_sem]
 · intro f' hf'; simp [Target.leads] at hf'; subst hf'; trivial
 · simp [invoke,go_sem,eg]
 · refine (yI (B+1) (fun k W=>I k W/\W.heap[B+1]?=some (.loop (rc .ready none))/\W.heap[B]?=some (.deferred (some []))) V vB (fun k A A' row hs jP hr=>⟨hI k A A' row hs.1 jP (fun r e=>?_),walk jP hr hs.2.1 rfl,walk jP hr hs.2.2 rfl⟩) ?_ ⟨vI,vL,vD⟩).mono ?_
   · obtain ⟨h2,o,ho,hw⟩:=hr r e;exact ⟨by omega,o,ho,Obj.not_cells_of_walk hw⟩
   · -- a round
     rintro k x W hk ⟨hi,hl,hd⟩ lV;refine ⟨fn,_,assign,body,run_yield (P:=P) (args:=enc x) hl (wO x),roundIn_of_wpIn yR (kW _ k x W _ hk hi lV fun a' Wa SL pz vN=>?_)⟩;have al:=SL.same _ _ (se _) hl rfl;have ad:=SL.same _ _ (pj _) hd rfl;have asz:=(rB.1 al).1;refine ⟨_,run_beginRound al rfl,wpIn_mono (sZ _ k x a' _ hk ((UV k x a').putObj (s:=()) _ vN (se _) al rfl)) ?_⟩;have bl:(Wa.putObj (B+1) (.loop (rc .busy none))).heap[B+1]?=some (.loop (rc .busy none)):=World.putObj_heap_same asz;have bd:(Wa.putObj (B+1) (.loop (rc .busy none))).heap[B]?=some (.deferred (some [])):=(World.putObj_heap_other (by omega)).trans ad;have bp:Kp Wa (Wa.putObj (B+1) (.loop (rc .busy none))):=MB _ _ _ _ (se _) al rfl rfl;rintro e a3 W3 hp;cases e with
     | normal =>
       obtain ⟨SQ,QW,SY⟩:=hp;have cl:=SQ.same _ _ (se _) bl rfl;have cd:=SQ.same _ _ (pj _) bd rfl;have cs:=(rB.1 cl).1;exact ⟨_,_,run_endRound (P:=P) none cl,rfl,⟨hI.putObj _ SY (se _) cl rfl,World.putObj_heap_same cs,(World.putObj_heap_other (by omega)).trans cd⟩,Me pz (Me (Me bp QW) (MB _ _ _ _ (se _) cl rfl rfl))⟩
     | ret=>exact hp.elim
     | exit id=>exact hp.elim
     | goto t=>exact hp.elim
     | panic ch=>exact hp.elim
     | outgrown=>exact hp.elim
   · -- behind the iterator
     rintro e W2 ⟨⟨v,rfl⟩,hi,hl,hd⟩;exact ⟨none,_,run_endLoop (P:=P) hl (by simp [rc]),iM B _ (pj _) (hI.putObj _ hi (se _) hl rfl) ((World.putObj_heap_other (by omega)).trans hd)⟩
end Go.Proofs.YtcepajijiabkmaaGreat
