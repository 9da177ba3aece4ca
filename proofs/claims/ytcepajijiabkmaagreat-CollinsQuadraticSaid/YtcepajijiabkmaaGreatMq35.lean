/- Layer 41: collins.reducta, Reducta. -/
import Derived.Test.YtcepajijiabkmaaGreatMq34
set_option linter.unusedSimpArgs false
set_option linter.unusedVariables false
set_option maxRecDepth 100000
set_option maxHeartbeats 8000000
namespace Go.Proofs.YtcepajijiabkmaaGreat
open Lib (hid)
open Go.RowKit
def xbe (W:World) (q:Nat->Prop) (v:Value) (L:List Pl):Prop:=∃ D c,v=.slice D L.length c/\L.length<=c/\c<=9223372036854775807/\jd W q L D 0
def zbz (q:Nat->Prop) (L:List Pl) (b:Bool) (w:World) (e:Ending) (w':World):Prop:=∃ v,e=.returned (.tuple #[v,.bool b])/\xbe w' q v L/\Ext w w'
def vcx : Value -> Nat
 | .slice _ n _=>n
 | _=>0
theorem yh.rowP {base:Nat} {W:World} {v:Value} {l:List Pl} (h:yh base (fun b=>base<=b) W v l):xbe W (fun b=>base<=b) v l:=by
 obtain ⟨A,c,rfl,h1,h2⟩:=h.len;exact ⟨A,c,rfl,h1,h2,jd.turn (Nat.le_refl _) (fun _ _ h=>h) (fun b _ hq=>⟨by rcases hq with hq | hq <;> exact hq,rfl⟩) _ _ _ h.at_⟩
structure qcx (l : Int) (f : Pl) (E D N base : Nat) (W : World) (rv : Value) (g n : Nat) (r : Pl) (pre : List Pl) : Prop where
 row:yh base (fun b=>base<=b) W rv pre
 box:PBx W (fun b=>base<=b/\rv.ownBlock ≠ some b) g r
 ne:rv.ownBlock ≠ some g
 gb:base<=g
 seq:pre ++ kz l n r=uk l f
 cst:xad l n r=uaf l f
 fuel:mdg l r<=n
 len:pre.length+n=N
 fit:Fit r E (D+pre.length)
theorem wb0 {w:World} {q:Nat->Prop} {f:Pl} {l:Int} {E D:Nat} (v:Value) (hl:1<=l) (aj:l<=4) (h0:PlV w q f v) (hf:Fit f E D) (hE:E<=62) (hD:D<=1000000000000) :
 Calls Tryz.prog 86 #[v,.int .i64 l] w (zbz (fun b=>w.heap.size<=b) (uk l f) (uaf l f) w):=by
 have H0:=hid h0;obtain ⟨A0,m0,e0,B0,f0,rfl,-⟩:=h0.open_;obtain ⟨W,fK,iE,aF,bU⟩:=b_1 w f (.slice A0 m0 e0) (.slice B0 f.cs.length f0);have HX:=hid aF;have fO:=hid bU;have jS:W.heap.size=w.heap.size+1:=iE;clear h0 aF bU;have HN:=hid (fun (W':World) (hx:Ext w W')=>wad _ (H0.out.ext hx) hf.can (hf.copy_ (by omega)) (by have:=hf.dm; omega));have PR:=ya5 (l:=l) hf.can hf.ex;obtain ⟨N,hN⟩:=n_m ((mdg l f).toNat);have hNE:N<=62:=by omega
 have Bj:Hid (∀ (W':World) (g:Nat),w.heap.size<=g->PBx W' (fun b=>w.heap.size<=b) g f->qcx l f E D N w.heap.size W' (.slice none 0 0) g N f []):=hid (fun W' g hg hb=>⟨yh.nil _ _ _,hb.mono fun b h=>⟨h,by simp [Value.ownBlock]⟩,by simp [Value.ownBlock],hg,by rw [List.nil_append,<- hN]; rfl,by rw [<- hN]; rfl,by rw [<- hN]; omega,by simp,by simpa using hf⟩);obtain ⟨b0,b1,b2,b3⟩:=fO.out;unfold plV at HN ⊢;clear hf PR hN;go_enter Tryz.func86,Tryz.ntmps86;go_wp2_with fail;clear fK;clear b0 b1 b2 b3;refine (HN.out _ HX.out).mono ?_;rintro e w1 ⟨v1,rfl,p1,x1⟩;obtain ⟨C0,j0,k0,C1,j1,rfl,-⟩:=id p1.open_;obtain ⟨W1,aP⟩:=n_m ((w1.alloc (.cells #[.int .i64 f.lv,.bool f.neg,.slice C0 j0 k0,.slice C1 f.cs.length j1] 33)));have cO:PBx W1 (fun b=>W.heap.size<=b) w1.heap.size f:=by rw [<- aP]; exact PBx.new p1 _
 have wK:Ext w W1:=by rw [<- aP]; exact (HX.out.trans x1).alloc _
 have VW:=HX.out.size;have bW:=x1.size;have kE:=hid (Bj.out W1 w1.heap.size (by omega) (cO.mono fun b hb=>by omega));have qW:=hid wK;clear p1 x1 cO wK HN Bj iE jS;unfold plV;go_wp2_with fail;clear aP
 go_loopw [6,7] (fun rv pv wr=>∃ (g n:Nat) (r:Pl) (pre:List Pl) (RA:Option Addr) (rc:Nat),rv=.slice RA pre.length rc/\pv=.pointer (some ⟨g,0,none⟩)/\pre.length<=N/\Hid (qcx l f E D N w.heap.size wr rv g n r pre/\Ext w wr)) (fun rv _ _=>N+1 - vcx rv)
 case atStart=>exact ⟨_,N,f,[],none,0,rfl,rfl,by simp,hid ⟨kE.out,qW.out⟩⟩
 case round =>
  obtain ⟨g,n,r,pre,RA,rc,rfl,rfl,jV,HI⟩:=hrel;obtain ⟨⟨ae,Yn,au,IJ,wS,Qa,hfu,hlen,aI⟩,hx⟩:=HI.out;obtain ⟨Lp,PE,C0,j0,k0,C1,j1,⟨g0,g1,g2,g3⟩,hp⟩:=Yn;have nY:=hid (jak (l:=l) _ aI.can (aI.copy_ (by omega)) (by have:=aI.dm; omega) hp);have aS:=hid ae;have HP:=hid hp;have Gy:=hid au;have JI:=hid wS;have zD:=hid Qa;have tV:=hid hlen;have rG:=hid hx;clear HI ae hp au wS Qa hx;unfold plV at nY;go_wp2_with fail;refine nY.out.mono ?_;rintro e w2 ⟨rfl,x2⟩;obtain ⟨s0,s1,s2,s3⟩:=(show jc wr g r (.slice C0 j0 k0) (.slice C1 r.cs.length j1) from ⟨g0,g1,g2,g3⟩).ext x2 Lp;have dS:=aS.out.ext x2;have zZ:=HP.out.ext x2;have X2:=hid (rG.out.trans x2);have IC:g < w2.heap.size:=Nat.lt_of_lt_of_le Lp x2.size;have afS:∀ i,w2.frozen? ⟨g,i,none⟩=false:=fun i=>(x2.frozen (p:=⟨g,i,none⟩) Lp).trans (PE i)
  have Ny:=X2.out.size;clear x2 nY g0 g1 g2 g3 aS PE Lp
  by_cases hd:0 < mdg l r
  · obtain ⟨n',rfl⟩:∃ n',n=n'+1:=⟨n - 1,by omega⟩;have eu:=vaj (n:=n') hd;have AO:=yap (n:=n') hd;rw [eu] at JI;rw [AO] at zD;have OO:=xcr hl aj aI.can hd;have bu:=gbb (l:=l) aI (by have:B32=4294967296:=rfl; omega);have H6:=aI.small (show E<=170 by omega);have D7:=kbm (l:=l) aI;have Vj:=hid (fun (W':World) (q:Nat->Prop) (u:Value) (hu:PlV W' q r u)=>xa5 u hl aj aI (by omega) (by omega) hu);have eP:=hid (fun (W':World) (q:Nat->Prop) (u:Value) (hu:PlV W' q (wu l r) u)=>ua5 (wu l r) u hu (D7.small (by omega)) (by have:=D7.dm; omega) (by rw [Pl.nf_of_can D7.can]; exact D7) (by omega));rw [Pl.nf_of_can D7.can] at eP;have yT:=hid (fun (W':World) (q:Nat->Prop) (u:Value) (hu:PlV W' q r u)=>xct u hl aj aI hE (by omega) hu);obtain ⟨v4,w4,ax,nN,ik,bM,lL⟩:=dS.push (x:=r) Ny (zZ.mono fun b hb=>by (try dsimp only at hb); exact ⟨hb.1.2,hb.1.1⟩) (by omega) 31;have iQ:∀ b,b < w2.heap.size->(Value.slice RA pre.length rc).ownBlock ≠ some b->w4.heap[b]?=w2.heap[b]?:=fun b hb hn=>World.grownBy.block nN b hb (fun e=>hn e.symm)
    have rV:∀ b,b < w2.heap.size->(Value.slice RA pre.length rc).ownBlock ≠ some b->v4.ownBlock ≠ some b:=fun b hb au e=>by
     rcases lL with h | h
     · exact au (h ▸ e)
     · rw [h] at e; injection e with e; omega
    have c4:∀ i,w4.cell? ⟨g,i,none⟩=w2.cell? ⟨g,i,none⟩:=fun i=>World.cell?_of_block (a:=⟨g,i,none⟩) (iQ g IC Gy.out)
    have WO:PlV w4 (fun b=>w.heap.size<=b/\v4.ownBlock ≠ some b/\b ≠ g) r (plV r (.slice C0 j0 k0) (.slice C1 r.cs.length j1)):=PlV.turn_ nN.size ik (fun b hb hq=>by (try dsimp only at hq); exact ⟨⟨hq.1.1,rV b hb hq.1.2,hq.2⟩,iQ b hb hq.1.2⟩) zZ;have pG:Ext w w4:=Below.grown X2.out.below nN Ny (fun k e=>(dS.own e).1);have Il:v4.ownBlock ≠ some g:=rV g IC Gy.out;obtain ⟨L6,KA,rfl,-,-⟩:=bM.len;have nJ:(pre ++ [r]).length=pre.length+1:=by simp
    rw [nJ] at ax bM WO Il;have IB:g < w4.heap.size:=Nat.lt_of_lt_of_le IC nN.size;have aeT:w.heap.size<=w4.heap.size:=pG.size;have X4:=hid pG;have HR4:=hid bM;have HP4:=hid WO;have ahI:=hid Il;obtain ⟨t0,t1,t2,t3⟩:jc w4 g r (.slice C0 j0 k0) (.slice C1 r.cs.length j1):=⟨(c4 0).trans s0,(c4 1).trans s1,(c4 2).trans s2,(c4 3).trans s3⟩;have MV:=hid (show jc w4 g r (.slice C0 j0 k0) (.slice C1 r.cs.length j1) from ⟨t0,t1,t2,t3⟩);have BD:Hid (∀ b,(Value.slice L6 (pre.length+1) KA).ownBlock=some b->b < w4.heap.size):=hid (fun b e=>(bM.own e).2);have HDD:=hid hd;have kX:decide (0 < mdg l r)=true:=by simpa using hd
    have oP:=hid bu;have JV:=hid OO;have HO4:=hid rV;clear dS zZ nN ik bM lL iQ rV c4 WO pG Il nJ hd OO bu H6 D7 eu AO aI HP Gy;generalize mdg l r=md at *
    go_wp2_with (at_builtin
                 refine wpList_append_run rfl (.tmp 19) (.tmp 21) _ _ rfl _ _ _ _ rfl rfl ax ?_)
    clear ax s0 s1 s2 s3;refine (Vj.out _ _ _ HP4.out).mono ?_;rintro e w5 ⟨v5,rfl,p5,x5⟩;have sN:=eP.out _ _ _ p5;obtain ⟨F0,i0,h0,F1,i1,rfl,-⟩:=id p5.open_;obtain ⟨u0,u1,u2,u3⟩:=(show jc w4 g r (.slice C0 j0 k0) (.slice C1 r.cs.length j1) from ⟨t0,t1,t2,t3⟩).ext x5 IB;have X5:=hid x5;have afN:g < w5.heap.size:=Nat.lt_of_lt_of_le IB x5.size;obtain ⟨ld,yN⟩:=n_m (wu l r);rw [yN] at sN JI zD ⊢;clear p5 x5 yN Vj eP t0 t1 t2 t3;unfold plV at sN ⊢;go_wp2_with fail;clear u0 u1 u2 u3;refine sN.mono ?_;rintro e w6 ⟨xv,rfl,ix,x6⟩;obtain ⟨bx,Bx,nx,cx,rfl⟩:=ix.unpack;have X6:=hid (X5.out.trans x6);obtain ⟨W7,hW7⟩:=n_m ((w6.alloc (.cells #[.bool bx,.slice Bx nx cx] 30)));have VQ:Ext w4 W7:=by rw [<- hW7]; exact X6.out.alloc _
    have X7:=hid VQ;have hs7:=VQ.size;clear x6 ix sN VQ
    by_cases dJ:ld.lv=0
    · have HF:Hid (zbz (fun b=>w.heap.size<=b) (uk l f) (uaf l f) w (.returned (.tuple #[.slice L6 (pre.length+1) KA,.bool true])) W7):=hid (by
       have h1:=JI.out;have h2:=zD.out;rw [if_pos dJ] at h1 h2;rw [<- h1,<- h2]
       exact ⟨_,rfl,(HR4.out.ext X7.out).rowP,X4.out.trans X7.out⟩)
      have nP:decide (ld.lv=0)=true:=by simpa using dJ
      clear dJ;go_wp2_with fail;obtain ⟨vv,e9,q3,q4⟩:=HF.out;injection e9 with e9
      exact bodyPost_ret (v:=.tuple #[.slice L6 (pre.length+1) KA,.bool true]) (by simp [results,Tryz.results86,go_sem]) rfl HF.out
    · have nP:decide (ld.lv=0)=false:=by simpa using dJ
      have h1:=JI.out;have h2:=zD.out;rw [if_neg dJ] at h1 h2;have Ry:=hid h1;have Ti:=hid h2;obtain ⟨y0,y1,y2,y3⟩:=MV.out.ext X7.out IB;obtain ⟨W8,Uu⟩:=n_m ((W7.alloc (.cells #[.int .i64 r.lv,.bool r.neg,.slice C0 j0 k0,.slice C1 r.cs.length j1] 33)));obtain ⟨o,ho⟩:=n_m (W7.heap.size);have KW:=HP4.out.ext X7.out;have DW:PBx W8 (fun b=>w.heap.size<=b/\(Value.slice L6 (pre.length+1) KA).ownBlock ≠ some b) o r:=by rw [<- Uu,<- ho]; exact PBx.new (KW.mono fun b hb=>by (try dsimp only at hb); exact ⟨hb.1,hb.2.1⟩) _
      have VP:Ext W7 W8:=by rw [<- Uu]; exact (Ext.refl W7).alloc _
      have hp8:=KW.ext VP;have lL:w4.heap.size<=o:=by omega
      have HB8:=hid DW;have Zy:=hid (X7.out.trans VP);have ho8:o < W8.heap.size:=DW.1;obtain ⟨z0,z1,z2,z3⟩:jc W8 o r (.slice C0 j0 k0) (.slice C1 r.cs.length j1):=by rw [<- Uu,<- ho]; exact jc.new W7 r _ _ _
      have EP:=yT.out _ _ _ hp8;unfold plV at EP;obtain ⟨rd,Og⟩:=n_m (kag l r);rw [Og] at EP Ry Ti oP JV;clear dJ h1 h2 JI zD KW hp8 DW VP Og yT;go_wp2_with fail;clear y0 y1 y2 y3 z0 z1 z2 z3 Uu hW7
      try rw [ho]
      clear ho;refine EP.mono ?_;rintro e w9 ⟨v9,rfl,p9,x9⟩;obtain ⟨G0,l0,l1,G1,l2,rfl,-⟩:=id p9.open_;have Yq:=HB8.out.ext x9;obtain ⟨ho9,hof,Y0,yn,yc,Y1,yc1,⟨g0,g1,g2,g3⟩,-⟩:=id Yq;obtain ⟨V,hV⟩:=n_m (((((w9.setCell ⟨o,0,none⟩ (.int .i64 rd.lv)).setCell ⟨o,1,none⟩ (.bool rd.neg)).setCell ⟨o,2,none⟩ (.slice G0 l0 l1)).setCell ⟨o,3,none⟩ (.slice G1 rd.cs.length l2)));have Nv:Ext w4 V:=by rw [<- hV]; exact ((((Zy.out.trans x9).setCell lL _).setCell lL _).setCell lL _).setCell lL _
      have rJ:Hid (qcx l f E D N w.heap.size V (.slice L6 (pre.length+1) KA) o n' rd (pre ++ [r])/\Ext w V):=hid ⟨⟨HR4.out.ext Nv,by
       rw [<- hV]
       exact Yq.store (p9.mono fun b hb=>⟨⟨by omega,fun e=>by have:=BD.out b e; omega⟩,by omega⟩),fun e=>by have:=BD.out o e; omega,by omega,by have h1:=Ry.out; simpa using h1,Ti.out,by have h1:=JV.out; omega,by have:=tV.out; simp; omega,by have h1:=oP.out; simpa [Nat.add_assoc] using h1⟩,X4.out.trans Nv⟩
      have WI:pre.length+1<=N:=by have:=tV.out; omega
      clear p9 x9 Yq Nv EP;unfold plV;go_wp2_with fail;clear g0 g1 g2 g3 hof hV
      go_roundw
      case rel=>exact ⟨o,n',rd,pre ++ [r],L6,KA,by simp,rfl,by simpa using WI,rJ.out⟩
      case measure=>simp [vcx]; omega
  · have kX:decide (0 < mdg l r)=false:=by simpa using hd
    have HF:Hid (zbz (fun b=>w.heap.size<=b) (uk l f) (uaf l f) w (.returned (.tuple #[.slice RA pre.length rc,.bool false])) w2):=hid (by
     have h1:=JI.out;have h2:=zD.out;rw [vaw hd,List.append_nil] at h1;rw [ua8 hd] at h2;rw [<- h1,<- h2]
     exact ⟨_,rfl,dS.rowP,X2.out⟩)
    clear hd JI zD dS zZ;generalize mdg l r=md at *;go_wp2_with fail;exact bodyPost_ret (v:=.tuple #[.slice RA pre.length rc,.bool false]) (by simp [results,Tryz.results86,go_sem]) rfl HF.out
def qa7 (q:Nat->Prop) (L:List Pl) (n:Int) (w:World) (e:Ending) (w':World):Prop:=∃ v,e=.returned (.tuple #[v,.int .i64 n])/\xbe w' q v L/\Ext w w'
theorem yh.frr {base g:Nat} {q:Nat->Prop} {W V:World} {v:Value} {l:List Pl} (h:yh base q W v l) (hf:Frr W g V) (au:v.ownBlock ≠ some g) (hq:∀ b,q b->b ≠ g):yh base q V v l:=by
 have ho:=fun {R:Nat}=>h.own (R:=R)
 obtain ⟨rs,e,h2,h3⟩:=h;exact ⟨rs,e,h2.turn fun R hR=>hf.block R (ho hR).2 (fun e=>au (e ▸ hR)),fun r hr=>⟨(h3 r hr).1,hf.pl (h3 r hr).2 fun b hb=>hq b hb.2⟩⟩
end Go.Proofs.YtcepajijiabkmaaGreat
