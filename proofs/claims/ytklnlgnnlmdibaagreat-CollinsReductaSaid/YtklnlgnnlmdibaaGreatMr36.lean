/- Layer 41: collins.reducta, Reducta. -/
import Derived.Test.YtklnlgnnlmdibaaGreatMr15
import Derived.Test.YtklnlgnnlmdibaaGreatMr35
import Derived.Test.YtklnlgnnlmdibaaGreatMr34
set_option linter.unusedSimpArgs false
set_option linter.unusedVariables false
set_option maxRecDepth 100000
set_option maxHeartbeats 8000000
namespace Go.Proofs.YtklnlgnnlmdibaaGreat
open Go.RowKit
def gax (W:World) (q:Nat->Prop) (v:Value) (L:List Pl):Prop:=∃ D c,v=.slice D L.length c/\L.length<=c/\c<=9223372036854775807/\jd W q L D 0
def xbm (q:Nat->Prop) (L:List Pl) (b:Bool) (w:World) (e:Ending) (w':World):Prop:=∃ v,e=.returned (.tuple #[v,.bool b])/\gax w' q v L/\Ext w w'
def xbe : Value -> Nat
 | .slice _ n _=>n
 | _=>0
theorem uh.rowP {base:Nat} {W:World} {v:Value} {l:List Pl} (h:uh base (fun b=>base<=b) W v l):gax W (fun b=>base<=b) v l:=by
 obtain ⟨A,c,rfl,h1,h2⟩:=h.len;exact ⟨A,c,rfl,h1,h2,jd.turn (Nat.le_refl _) (fun _ _ h=>h) (fun b _ hq=>⟨by rcases hq with hq | hq <;> exact hq,rfl⟩) _ _ _ h.at_⟩
structure qce (l : Int) (f : Pl) (E D N base : Nat) (W : World) (rv : Value) (g n : Nat) (r : Pl) (pre : List Pl) : Prop where
 row:uh base (fun b=>base<=b) W rv pre
 box:PBx W (fun b=>base<=b/\rv.ownBlock ≠ some b) g r
 ne:rv.ownBlock ≠ some g
 gb:base<=g
 seq:pre ++ uo l n r=xh l f
 cst:xai l n r=yag l f
 fuel:mdg l r<=n
 len:pre.length+n=N
 fit:Fit r E (D+pre.length)
theorem waz {w:World} {q:Nat->Prop} {f:Pl} {l:Int} {E D:Nat} (v:Value) (hl:1<=l) (hl4:l<=4) (h0:PlV w q f v) (hf:Fit f E D) (hE:E<=62) (hD:D<=1000000000000) :
 Calls Tryz.prog 46 #[v,.int .i64 l] w (xbm (fun b=>w.heap.size<=b) (xh l f) (yag l f) w):=by
 have H0:=Lib.hid h0;obtain ⟨A0,m0,e0,B0,f0,rfl,-⟩:=h0.open_;obtain ⟨W,hV0⟩:∃ V,(w.alloc (.cells #[.int .i64 f.lv,.bool f.neg,.slice A0 m0 e0,.slice B0 f.cs.length f0] 35))=V:=⟨_,rfl⟩;have hs0:W.heap.size=w.heap.size+1:=by rw [<- hV0]; simp
 have hx0:Ext w W:=by rw [<- hV0]; exact (Ext.refl w).alloc _
 have hb0:jb W (w.heap.size) f (.slice A0 m0 e0) (.slice B0 f.cs.length f0):=by
  have hh:jb W w.heap.size f (.slice A0 m0 e0) (.slice B0 f.cs.length f0):=by rw [<- hV0]; exact jb.new w f _ _ _
  exact hh
 have HX:=Lib.hid hx0;have HB0:=Lib.hid hb0;have hsw:W.heap.size=w.heap.size+1:=hs0;clear h0 hx0 hb0;have HN:=Lib.hid (fun (W':World) (hx:Ext w W')=>yab _ (H0.out.ext hx) hf.can (hf.copy_ (by omega)) (by have:=hf.dm; omega));have hfb:=xal (l:=l) hf.can hf.ex;obtain ⟨N,hN⟩:∃ N,(mdg l f).toNat=N:=⟨_,rfl⟩;have hNE:N<=62:=by omega
 have HSTART:Hid (∀ (W':World) (g:Nat),w.heap.size<=g->PBx W' (fun b=>w.heap.size<=b) g f->qce l f E D N w.heap.size W' (.slice none 0 0) g N f []):=Lib.hid (fun W' g hg hb=>⟨uh.nil _ _ _,hb.mono fun b h=>⟨h,by simp [Value.ownBlock]⟩,by simp [Value.ownBlock],hg,by rw [List.nil_append,<- hN]; rfl,by rw [<- hN]; rfl,by rw [<- hN]; omega,by simp,by simpa using hf⟩);obtain ⟨b0,b1,b2,b3⟩:=HB0.out;unfold plV at HN ⊢;clear hf hfb hN;go_enter Tryz.func46,Tryz.ntmps46;go_wp2_with fail;clear hV0;clear b0 b1 b2 b3;refine (HN.out _ HX.out).mono ?_;rintro e w1 ⟨v1,rfl,p1,x1⟩;obtain ⟨C0,j0,k0,C1,j1,rfl,-⟩:=id p1.open_;obtain ⟨W1,hW1⟩:∃ W1,(w1.alloc (.cells #[.int .i64 f.lv,.bool f.neg,.slice C0 j0 k0,.slice C1 f.cs.length j1] 35))=W1:=⟨_,rfl⟩;have hb1:PBx W1 (fun b=>W.heap.size<=b) w1.heap.size f:=by rw [<- hW1]; exact PBx.new p1 _
 have hxW1:Ext w W1:=by rw [<- hW1]; exact (HX.out.trans x1).alloc _
 have hwW:=HX.out.size;have hs1:=x1.size;have HI0:=Lib.hid (HSTART.out W1 w1.heap.size (by omega) (hb1.mono fun b hb=>by omega));have HX1:=Lib.hid hxW1;clear p1 x1 hb1 hxW1 HN HSTART hs0 hsw;unfold plV;go_wp2_with fail;clear hW1
 go_loopw [6,7] (fun rv pv wr=>∃ (g n:Nat) (r:Pl) (pre:List Pl) (RA:Option Addr) (rc:Nat),rv=.slice RA pre.length rc/\pv=.pointer (some ⟨g,0,none⟩)/\pre.length<=N/\Hid (qce l f E D N w.heap.size wr rv g n r pre/\Ext w wr)) (fun rv _ _=>N+1 - xbe rv)
 case atStart=>exact ⟨_,N,f,[],none,0,rfl,rfl,by simp,Lib.hid ⟨HI0.out,HX1.out⟩⟩
 case round =>
  obtain ⟨g,n,r,pre,RA,rc,rfl,rfl,hpl,HI⟩:=hrel;obtain ⟨⟨hrow,hbox,hne,hgb,hseq,hcst,hfu,hlen,hfit⟩,hx⟩:=HI.out;obtain ⟨hgs,hgf,C0,j0,k0,C1,j1,⟨g0,g1,g2,g3⟩,hp⟩:=hbox;have HDG:=Lib.hid (vac (l:=l) _ hfit.can (hfit.copy_ (by omega)) (by have:=hfit.dm; omega) hp);have HROW:=Lib.hid hrow;have HP:=Lib.hid hp;have HNE:=Lib.hid hne;have HSQ:=Lib.hid hseq;have HCS:=Lib.hid hcst;have HLN:=Lib.hid hlen;have HXR:=Lib.hid hx;clear HI hrow hp hne hseq hcst hx;unfold plV at HDG;go_wp2_with fail;refine HDG.out.mono ?_;rintro e w2 ⟨rfl,x2⟩;obtain ⟨s0,s1,s2,s3⟩:=(show jb wr g r (.slice C0 j0 k0) (.slice C1 r.cs.length j1) from ⟨g0,g1,g2,g3⟩).ext x2 hgs;have hrow2:=HROW.out.ext x2;have hp2:=HP.out.ext x2;have X2:=Lib.hid (HXR.out.trans x2);have hgs2:g < w2.heap.size:=Nat.lt_of_lt_of_le hgs x2.size;have hgf2:∀ i,w2.frozen? ⟨g,i,none⟩=false:=fun i=>(x2.frozen (p:=⟨g,i,none⟩) hgs).trans (hgf i)
  have hww2:=X2.out.size;clear x2 HDG g0 g1 g2 g3 HROW hgf hgs
  by_cases hd:0 < mdg l r
  · obtain ⟨n',rfl⟩:∃ n',n=n'+1:=⟨n - 1,by omega⟩;have hstep:=jac (n:=n') hd;have hcstep:=ya0 (n:=n') hd;rw [hstep] at HSQ;rw [hcstep] at HCS;have hmd:=xbh hl hl4 hfit.can hd;have hfr:=kat (l:=l) hfit (by have:B32=4294967296:=rfl; omega);have hsmall:=hfit.small (show E<=170 by omega);have hLF:=zaq (l:=l) hfit;have HLD:=Lib.hid (fun (W':World) (q:Nat->Prop) (u:Value) (hu:PlV W' q r u)=>qal u hl hl4 hfit (by omega) (by omega) hu);have HCO:=Lib.hid (fun (W':World) (q:Nat->Prop) (u:Value) (hu:PlV W' q (ul l r) u)=>uax (ul l r) u hu (hLF.small (by omega)) (by have:=hLF.dm; omega) (by rw [Pl.nf_of_can hLF.can]; exact hLF) (by omega));rw [Pl.nf_of_can hLF.can] at HCO;have HRD:=Lib.hid (fun (W':World) (q:Nat->Prop) (u:Value) (hu:PlV W' q r u)=>wbi u hl hl4 hfit hE (by omega) hu);obtain ⟨v4,w4,hrun,hg4,hn4,hrow4,ho4⟩:=hrow2.push (x:=r) hww2 (hp2.mono fun b hb=>by (try dsimp only at hb); exact ⟨hb.1.2,hb.1.1⟩) (by omega) 24;have hblk:∀ b,b < w2.heap.size->(Value.slice RA pre.length rc).ownBlock ≠ some b->w4.heap[b]?=w2.heap[b]?:=fun b hb hn=>World.grownBy.block hg4 b hb (fun e=>hn e.symm)
    have hv4:∀ b,b < w2.heap.size->(Value.slice RA pre.length rc).ownBlock ≠ some b->v4.ownBlock ≠ some b:=fun b hb hne e=>by
     rcases ho4 with h | h
     · exact hne (h ▸ e)
     · rw [h] at e; injection e with e; omega
    have c4:∀ i,w4.cell? ⟨g,i,none⟩=w2.cell? ⟨g,i,none⟩:=fun i=>World.cell?_of_block (a:=⟨g,i,none⟩) (hblk g hgs2 HNE.out)
    have hp4:PlV w4 (fun b=>w.heap.size<=b/\v4.ownBlock ≠ some b/\b ≠ g) r (plV r (.slice C0 j0 k0) (.slice C1 r.cs.length j1)):=PlV.turn_ hg4.size hn4 (fun b hb hq=>by (try dsimp only at hq); exact ⟨⟨hq.1.1,hv4 b hb hq.1.2,hq.2⟩,hblk b hb hq.1.2⟩) hp2;have hx4:Ext w w4:=Below.grown X2.out.below hg4 hww2 (fun k e=>(hrow2.own e).1);have hne4:v4.ownBlock ≠ some g:=hv4 g hgs2 HNE.out;obtain ⟨RA4,rc4,rfl,-,-⟩:=hrow4.len;have hlen4:(pre ++ [r]).length=pre.length+1:=by simp
    rw [hlen4] at hrun hrow4 hp4 hne4;have hgs4:g < w4.heap.size:=Nat.lt_of_lt_of_le hgs2 hg4.size;have hw24:w.heap.size<=w4.heap.size:=hx4.size;have X4:=Lib.hid hx4;have HR4:=Lib.hid hrow4;have HP4:=Lib.hid hp4;have HNE4:=Lib.hid hne4;obtain ⟨t0,t1,t2,t3⟩:jb w4 g r (.slice C0 j0 k0) (.slice C1 r.cs.length j1):=⟨(c4 0).trans s0,(c4 1).trans s1,(c4 2).trans s2,(c4 3).trans s3⟩;have HB4:=Lib.hid (show jb w4 g r (.slice C0 j0 k0) (.slice C1 r.cs.length j1) from ⟨t0,t1,t2,t3⟩);have HOWN:Hid (∀ b,(Value.slice RA4 (pre.length+1) rc4).ownBlock=some b->b < w4.heap.size):=Lib.hid (fun b e=>(hrow4.own e).2);have HDD:=Lib.hid hd;have hdd:decide (0 < mdg l r)=true:=by simpa using hd
    have HFR:=Lib.hid hfr;have HMD:=Lib.hid hmd;have HO4:=Lib.hid hv4;clear hrow2 hp2 hg4 hn4 hrow4 ho4 hblk hv4 c4 hp4 hx4 hne4 hlen4 hd hmd hfr hsmall hLF hstep hcstep hfit HP HNE;generalize mdg l r=md at *
    go_wp2_with (at_builtin
                 refine wpList_append_run rfl (.tmp 19) (.tmp 21) _ _ rfl _ _ _ _ rfl rfl hrun ?_)
    clear hrun s0 s1 s2 s3;refine (HLD.out _ _ _ HP4.out).mono ?_;rintro e w5 ⟨v5,rfl,p5,x5⟩;have hco:=HCO.out _ _ _ p5;obtain ⟨F0,i0,h0,F1,i1,rfl,-⟩:=id p5.open_;obtain ⟨u0,u1,u2,u3⟩:=(show jb w4 g r (.slice C0 j0 k0) (.slice C1 r.cs.length j1) from ⟨t0,t1,t2,t3⟩).ext x5 hgs4;have X5:=Lib.hid x5;have hgs5:g < w5.heap.size:=Nat.lt_of_lt_of_le hgs4 x5.size;obtain ⟨ld,hld⟩:∃ ld,ul l r=ld:=⟨_,rfl⟩;rw [hld] at hco HSQ HCS ⊢;clear p5 x5 hld HLD HCO t0 t1 t2 t3;unfold plV at hco ⊢;go_wp2_with fail;clear u0 u1 u2 u3;refine hco.mono ?_;rintro e w6 ⟨xv,rfl,ix,x6⟩;obtain ⟨bx,Bx,nx,cx,rfl⟩:=ix.unpack;have X6:=Lib.hid (X5.out.trans x6);obtain ⟨W7,hW7⟩:∃ W7,(w6.alloc (.cells #[.bool bx,.slice Bx nx cx] 33))=W7:=⟨_,rfl⟩;have hx7:Ext w4 W7:=by rw [<- hW7]; exact X6.out.alloc _
    have X7:=Lib.hid hx7;have hs7:=hx7.size;clear x6 ix hco hx7
    by_cases hlv:ld.lv=0
    · have HF:Hid (xbm (fun b=>w.heap.size<=b) (xh l f) (yag l f) w (.returned (.tuple #[.slice RA4 (pre.length+1) rc4,.bool true])) W7):=Lib.hid (by
       have h1:=HSQ.out;have h2:=HCS.out;rw [if_pos hlv] at h1 h2;rw [<- h1,<- h2]
       exact ⟨_,rfl,(HR4.out.ext X7.out).rowP,X4.out.trans X7.out⟩)
      have hdl:decide (ld.lv=0)=true:=by simpa using hlv
      clear hlv;go_wp2_with fail;obtain ⟨vv,e9,q3,q4⟩:=HF.out;injection e9 with e9
      exact bodyPost_ret (v:=.tuple #[.slice RA4 (pre.length+1) rc4,.bool true]) (by simp [results,Tryz.results46,go_sem]) rfl HF.out
    · have hdl:decide (ld.lv=0)=false:=by simpa using hlv
      have h1:=HSQ.out;have h2:=HCS.out;rw [if_neg hlv] at h1 h2;have HSQ2:=Lib.hid h1;have HCS2:=Lib.hid h2;obtain ⟨y0,y1,y2,y3⟩:=HB4.out.ext X7.out hgs4;obtain ⟨W8,hW8⟩:∃ W8,(W7.alloc (.cells #[.int .i64 r.lv,.bool r.neg,.slice C0 j0 k0,.slice C1 r.cs.length j1] 35))=W8:=⟨_,rfl⟩;obtain ⟨o,ho⟩:∃ o,W7.heap.size=o:=⟨_,rfl⟩;have hp7:=HP4.out.ext X7.out;have hb8:PBx W8 (fun b=>w.heap.size<=b/\(Value.slice RA4 (pre.length+1) rc4).ownBlock ≠ some b) o r:=by rw [<- hW8,<- ho]; exact PBx.new (hp7.mono fun b hb=>by (try dsimp only at hb); exact ⟨hb.1,hb.2.1⟩) _
      have hx8:Ext W7 W8:=by rw [<- hW8]; exact (Ext.refl W7).alloc _
      have hp8:=hp7.ext hx8;have ho4:w4.heap.size<=o:=by omega
      have HB8:=Lib.hid hb8;have HX8:=Lib.hid (X7.out.trans hx8);have ho8:o < W8.heap.size:=hb8.1;obtain ⟨z0,z1,z2,z3⟩:jb W8 o r (.slice C0 j0 k0) (.slice C1 r.cs.length j1):=by rw [<- hW8,<- ho]; exact jb.new W7 r _ _ _
      have hrd:=HRD.out _ _ _ hp8;unfold plV at hrd;obtain ⟨rd,hrdE⟩:∃ rd,jy l r=rd:=⟨_,rfl⟩;rw [hrdE] at hrd HSQ2 HCS2 HFR HMD;clear hlv h1 h2 HSQ HCS hp7 hp8 hb8 hx8 hrdE HRD;go_wp2_with fail;clear y0 y1 y2 y3 z0 z1 z2 z3 hW8 hW7
      try rw [ho]
      clear ho;refine hrd.mono ?_;rintro e w9 ⟨v9,rfl,p9,x9⟩;obtain ⟨G0,l0,l1,G1,l2,rfl,-⟩:=id p9.open_;have hb9:=HB8.out.ext x9;obtain ⟨ho9,hof,Y0,yn,yc,Y1,yc1,⟨g0,g1,g2,g3⟩,-⟩:=id hb9;obtain ⟨V,hV⟩:∃ V,((((w9.setCell ⟨o,0,none⟩ (.int .i64 rd.lv)).setCell ⟨o,1,none⟩ (.bool rd.neg)).setCell ⟨o,2,none⟩ (.slice G0 l0 l1)).setCell ⟨o,3,none⟩ (.slice G1 rd.cs.length l2))=V:=⟨_,rfl⟩;have hx9:Ext w4 V:=by rw [<- hV]; exact ((((HX8.out.trans x9).setCell ho4 _).setCell ho4 _).setCell ho4 _).setCell ho4 _
      have HNX:Hid (qce l f E D N w.heap.size V (.slice RA4 (pre.length+1) rc4) o n' rd (pre ++ [r])/\Ext w V):=Lib.hid ⟨⟨HR4.out.ext hx9,by
       rw [<- hV]
       exact hb9.store (p9.mono fun b hb=>⟨⟨by omega,fun e=>by have:=HOWN.out b e; omega⟩,by omega⟩),fun e=>by have:=HOWN.out o e; omega,by omega,by have h1:=HSQ2.out; simpa using h1,HCS2.out,by have h1:=HMD.out; omega,by have:=HLN.out; simp; omega,by have h1:=HFR.out; simpa [Nat.add_assoc] using h1⟩,X4.out.trans hx9⟩
      have hpl':pre.length+1<=N:=by have:=HLN.out; omega
      clear p9 x9 hb9 hx9 hrd;unfold plV;go_wp2_with fail;clear g0 g1 g2 g3 hof hV
      go_roundw
      case rel=>exact ⟨o,n',rd,pre ++ [r],RA4,rc4,by simp,rfl,by simpa using hpl',HNX.out⟩
      case measure=>simp [xbe]; omega
  · have hdd:decide (0 < mdg l r)=false:=by simpa using hd
    have HF:Hid (xbm (fun b=>w.heap.size<=b) (xh l f) (yag l f) w (.returned (.tuple #[.slice RA pre.length rc,.bool false])) w2):=Lib.hid (by
     have h1:=HSQ.out;have h2:=HCS.out;rw [xae hd,List.append_nil] at h1;rw [ubn hd] at h2;rw [<- h1,<- h2]
     exact ⟨_,rfl,hrow2.rowP,X2.out⟩)
    clear hd HSQ HCS hrow2 hp2;generalize mdg l r=md at *;go_wp2_with fail;exact bodyPost_ret (v:=.tuple #[.slice RA pre.length rc,.bool false]) (by simp [results,Tryz.results46,go_sem]) rfl HF.out
/- Layer 41: collins.Reducta; the reference's Reducta. -/
set_option maxRecDepth 100000
set_option maxHeartbeats 8000000
def xan (q:Nat->Prop) (L:List Pl) (n:Int) (w:World) (e:Ending) (w':World):Prop:=∃ v,e=.returned (.tuple #[v,.int .i64 n])/\gax w' q v L/\Ext w w'
def uay (q:Nat->Prop) (L:List Pl) (w:World) (e:Ending) (w':World):Prop:=∃ v,e=.returned v/\gax w' q v L/\Ext w w'
theorem gax.nil (W:World) (q:Nat->Prop):gax W q (.slice none 0 0) []:=⟨none,0,rfl,by simp,by omega,by unfold jd; trivial⟩
theorem vbl {w:World} {q:Nat->Prop} {f:Pl} {l:Int} {E D:Nat} (v:Value) (hl:1<=l) (hl4:l<=4) (h0:PlV w q f v) (hf:Fit f E D) (hE:E<=62) (hD:D<=1000000000000) :
 Calls Tryz.prog 16 #[v,.int .i64 l] w (xan (fun b=>w.heap.size<=b) (xh l f) 0 w):=by
 have H0:=Lib.hid h0;obtain ⟨A0,m0,e0,B0,f0,rfl,-⟩:=h0.open_;obtain ⟨W,hV0⟩:∃ V,(w.alloc (.cells #[.int .i64 f.lv,.bool f.neg,.slice A0 m0 e0,.slice B0 f.cs.length f0] 35))=V:=⟨_,rfl⟩;have hs0:W.heap.size=w.heap.size+1:=by rw [<- hV0]; simp
 have hx0:Ext w W:=by rw [<- hV0]; exact (Ext.refl w).alloc _
 have hb0:jb W (w.heap.size) f (.slice A0 m0 e0) (.slice B0 f.cs.length f0):=by
  have hh:jb W w.heap.size f (.slice A0 m0 e0) (.slice B0 f.cs.length f0):=by rw [<- hV0]; exact jb.new w f _ _ _
  exact hh
 have HX:=Lib.hid hx0;have HB0:=Lib.hid hb0;have hsw:W.heap.size=w.heap.size+1:=hs0;clear h0 hx0 hb0;have HR:=Lib.hid (fun (W':World) (hx:Ext w W')=>waz _ hl hl4 (H0.out.ext hx) hf hE hD);obtain ⟨b0,b1,b2,b3⟩:=HB0.out;have hl5:¬ l < 1:=by omega
 have hl6:¬ 4 < l:=by omega
 unfold plV at HR ⊢;clear hf hE hD;go_enter Tryz.func16,Tryz.ntmps16;go_wp2_with fail;clear hV0;clear b0 b1 b2 b3;refine (HR.out _ HX.out).mono ?_;rintro e w1 ⟨v1,rfl,⟨D1,c1,rfl,hc1,hc2,hat⟩,x1⟩;have HF:Hid (xan (fun b=>w.heap.size<=b) (xh l f) 0 w (.returned (.tuple #[.slice D1 (xh l f).length c1,.int .i64 0])) w1):=Lib.hid ⟨_,rfl,⟨D1,c1,rfl,hc1,hc2,jd.turn (Nat.le_refl _) (fun _ _ h=>h) (fun b _ hq=>⟨by have:=HX.out.size; omega,rfl⟩) _ _ _ hat⟩,HX.out.trans x1⟩;clear hat x1 HR;go_wp2_with fail;exact bodyPost_ret (v:=.tuple #[.slice D1 (xh l f).length c1,.int .i64 0]) (by simp [results,Tryz.results16,go_sem]) rfl HF.out
theorem kbl {w:World} {q:Nat->Prop} {f:Pl} {l:Int} (v:Value) (hl:l < 1\/4 < l) (h0:PlV w q f v) :
 Calls Tryz.prog 16 #[v,.int .i64 l] w (xan (fun b=>w.heap.size<=b) [] 4 w):=by
 have H0:=Lib.hid h0;obtain ⟨A0,m0,e0,B0,f0,rfl,-⟩:=h0.open_;obtain ⟨W,hV0⟩:∃ V,(w.alloc (.cells #[.int .i64 f.lv,.bool f.neg,.slice A0 m0 e0,.slice B0 f.cs.length f0] 35))=V:=⟨_,rfl⟩;have hs0:W.heap.size=w.heap.size+1:=by rw [<- hV0]; simp
 have hx0:Ext w W:=by rw [<- hV0]; exact (Ext.refl w).alloc _
 have hb0:jb W (w.heap.size) f (.slice A0 m0 e0) (.slice B0 f.cs.length f0):=by
  have hh:jb W w.heap.size f (.slice A0 m0 e0) (.slice B0 f.cs.length f0):=by rw [<- hV0]; exact jb.new w f _ _ _
  exact hh
 have HX:=Lib.hid hx0;have HB0:=Lib.hid hb0;have hsw:W.heap.size=w.heap.size+1:=hs0;clear h0 hx0 hb0;unfold plV;have HF:Hid (xan (fun b=>w.heap.size<=b) [] 4 w (.returned (.tuple #[.slice none 0 0,.int .i64 4])) W):=Lib.hid ⟨_,rfl,gax.nil _ _,HX.out⟩;rcases hl with hl5 | hl6
 · go_enter Tryz.func16,Tryz.ntmps16;go_wp2_with fail;exact bodyPost_ret (v:=.tuple #[.slice none 0 0,.int .i64 4]) (by simp [results,Tryz.results16,go_sem]) rfl HF.out
 · have hl5:¬ l < 1:=by omega
   go_enter Tryz.func16,Tryz.ntmps16;go_wp2_with fail;exact bodyPost_ret (v:=.tuple #[.slice none 0 0,.int .i64 4]) (by simp [results,Tryz.results16,go_sem]) rfl HF.out
theorem uh.frr {base g:Nat} {q:Nat->Prop} {W V:World} {v:Value} {l:List Pl} (h:uh base q W v l) (hf:Frr W g V) (hne:v.ownBlock ≠ some g) (hq:∀ b,q b->b ≠ g):uh base q V v l:=by
 have ho:=fun {R:Nat}=>h.own (R:=R)
 obtain ⟨rs,e,h2,h3⟩:=h;exact ⟨rs,e,h2.turn fun R hR=>hf.block R (ho hR).2 (fun e=>hne (e ▸ hR)),fun r hr=>⟨(h3 r hr).1,hf.pl (h3 r hr).2 fun b hb=>hq b hb.2⟩⟩
theorem uh.rowP' {base g:Nat} {W:World} {v:Value} {l:List Pl} (h:uh base (fun b=>base<=b/\b ≠ g) W v l):gax W (fun b=>base<=b) v l:=by
 obtain ⟨A,c,rfl,h1,h2⟩:=h.len;exact ⟨A,c,rfl,h1,h2,jd.turn (Nat.le_refl _) (fun _ _ h=>h) (fun b _ hq=>⟨by rcases hq with hq | hq; exact hq; exact hq.1,rfl⟩) _ _ _ h.at_⟩
structure xce (l : Int) (f : Pl) (E D N base g : Nat) (W : World) (rv : Value) (n : Nat) (r : Pl) (pre : List Pl) : Prop where
 row:uh base (fun b=>base<=b/\b ≠ g) W rv pre
 box:PBx W (fun b=>rv.ownBlock ≠ some b) g r
 ne:rv.ownBlock ≠ some g
 seq:pre ++ uo l n r=xh l f
 fuel:mdg l r<=n
 len:pre.length+n=N
 fit:Fit r E (D+pre.length)
theorem qbu {w:World} {q:Nat->Prop} {f:Pl} {l:Int} {E D:Nat} (v:Value) (hl:1<=l) (hl4:l<=4) (h0:PlV w q f v) (hf:Fit f E D) (hE:E<=62) (hD:D<=1000000000000) :
 Calls Tryz.prog 24 #[v,.int .i64 l] w (uay (fun b=>w.heap.size<=b) (xh l f) w):=by
 have H0:=Lib.hid h0;obtain ⟨A0,m0,e0,B0,f0,rfl,-⟩:=h0.open_;obtain ⟨W,hV0⟩:∃ V,(w.alloc (.cells #[.int .i64 f.lv,.bool f.neg,.slice A0 m0 e0,.slice B0 f.cs.length f0] 35))=V:=⟨_,rfl⟩;have hs0:W.heap.size=w.heap.size+1:=by rw [<- hV0]; simp
 have hx0:Ext w W:=by rw [<- hV0]; exact (Ext.refl w).alloc _
 have hb0:jb W (w.heap.size) f (.slice A0 m0 e0) (.slice B0 f.cs.length f0):=by
  have hh:jb W w.heap.size f (.slice A0 m0 e0) (.slice B0 f.cs.length f0):=by rw [<- hV0]; exact jb.new w f _ _ _
  exact hh
 have HX:=Lib.hid hx0;have HB0:=Lib.hid hb0;have hsw:W.heap.size=w.heap.size+1:=hs0;clear h0 hx0 hb0;have hfb:=xal (l:=l) hf.can hf.ex;obtain ⟨N,hN⟩:∃ N,(mdg l f).toNat=N:=⟨_,rfl⟩;have hNE:N<=62:=by omega
 obtain ⟨W1,hW1⟩:∃ W1,(W.alloc (.cells #[.int .i64 f.lv,.bool f.neg,.slice A0 m0 e0,.slice B0 f.cs.length f0] 35))=W1:=⟨_,rfl⟩;obtain ⟨g,hg⟩:∃ g,W.heap.size=g:=⟨_,rfl⟩;have hb1:PBx W1 (fun b=>(Value.slice none 0 0).ownBlock ≠ some b) g f:=by rw [<- hW1,<- hg]; exact PBx.new ((H0.out.ext HX.out).mono fun b hb=>by simp [Value.ownBlock]) _
 have hxW1:Ext w W1:=by rw [<- hW1]; exact HX.out.alloc _
 have hgw:w.heap.size<=g:=by rw [<- hg]; exact HX.out.size
 have HI0:Hid (xce l f E D N w.heap.size g W1 (.slice none 0 0) N f []):=Lib.hid ⟨uh.nil _ _ _,hb1,by simp [Value.ownBlock],by rw [List.nil_append,<- hN]; rfl,by rw [<- hN]; omega,by simp,by simpa using hf⟩;have HX1:=Lib.hid hxW1;obtain ⟨b0,b1,b2,b3⟩:=HB0.out;unfold plV;clear hf hfb hN hb1 hxW1 hs0 hsw;go_enter Tryz.func24,Tryz.ntmps24;go_wp2_with fail;clear hV0
 try rw [hg]
 clear b0 b1 b2 b3 hW1 hg
 go_loopw [5] (fun rv wr=>∃ (n:Nat) (r:Pl) (pre:List Pl) (RA:Option Addr) (rc:Nat),rv=.slice RA pre.length rc/\pre.length<=N/\Hid (xce l f E D N w.heap.size g wr rv n r pre/\Ext w wr)) (fun rv _=>N+1 - xbe rv)
 case atStart=>exact ⟨N,f,[],none,0,rfl,by simp,Lib.hid ⟨HI0.out,HX1.out⟩⟩
 case round =>
  obtain ⟨n,r,pre,RA,rc,rfl,hpl,HI⟩:=hrel;obtain ⟨⟨hrow,hbox,hne,hseq,hfu,hlen,hfit⟩,hx⟩:=HI.out;have HBX:=Lib.hid hbox;obtain ⟨hgs,hgf,C0,j0,k0,C1,j1,⟨g0,g1,g2,g3⟩,hp⟩:=hbox;have HDG:=Lib.hid (vac (l:=l) _ hfit.can (hfit.copy_ (by omega)) (by have:=hfit.dm; omega) hp);have HROW:=Lib.hid hrow;have HP:=Lib.hid hp;have HNE:=Lib.hid hne;have HSQ:=Lib.hid hseq;have HLN:=Lib.hid hlen;have HXR:=Lib.hid hx;clear HI hrow hp hne hseq hlen hx;unfold plV at HDG;go_wp2_with fail;refine HDG.out.mono ?_;rintro e w2 ⟨rfl,x2⟩;obtain ⟨s0,s1,s2,s3⟩:=(show jb wr g r (.slice C0 j0 k0) (.slice C1 r.cs.length j1) from ⟨g0,g1,g2,g3⟩).ext x2 hgs;have HROW2:=Lib.hid (HROW.out.ext x2);have HP2:=Lib.hid (HP.out.ext x2);have HBX2:=Lib.hid (HBX.out.ext x2);have X2:=Lib.hid (HXR.out.trans x2);have hgs2:g < w2.heap.size:=Nat.lt_of_lt_of_le hgs x2.size;have hww2:=X2.out.size;clear x2 HDG g0 g1 g2 g3 HROW HP hgf HBX HXR
  by_cases hd:0 < mdg l r
  · obtain ⟨n',rfl⟩:∃ n',n=n'+1:=⟨n - 1,by omega⟩;have hstep:=jac (n:=n') hd;rw [hstep] at HSQ;have HMD:=Lib.hid (xbh hl hl4 hfit.can hd);have HFR:=Lib.hid (kat (l:=l) hfit (by have:B32=4294967296:=rfl; omega));have hLF:=zaq (l:=l) hfit;have HNO:=Lib.hid (yab _ HP2.out hfit.can (hfit.copy_ (by omega)) (by have:=hfit.dm; omega));have HLD:=Lib.hid (fun (W':World) (q:Nat->Prop) (u:Value) (hu:PlV W' q r u)=>qal u hl hl4 hfit (by omega) (by omega) hu);have HCO:=Lib.hid (fun (W':World) (q:Nat->Prop) (u:Value) (hu:PlV W' q (ul l r) u)=>qa6 u hu (Or.inr ⟨hLF.can,hLF.copy_ (by omega),by have:=hLF.dm; omega⟩));rw [Pl.nf_of_can hLF.can] at HCO;have HRD:=Lib.hid (fun (W':World) (q:Nat->Prop) (u:Value) (hu:PlV W' q r u)=>wbi u hl hl4 hfit hE (by omega) hu);have hdd:decide (0 < mdg l r)=true:=by simpa using hd
    clear hd hstep hLF hfit;unfold plV at HNO;generalize mdg l r=md at *;go_wp2_with fail;refine HNO.out.mono ?_;rintro e w3 ⟨v3,rfl,p3,x3⟩;obtain ⟨E0,a0,a1,E1,a2,rfl,-⟩:=id p3.open_;have hrow3:=HROW2.out.ext x3;have hww3:w.heap.size<=w3.heap.size:=Nat.le_trans hww2 x3.size;obtain ⟨v4,w4,hrun,hg4,hn4,hrow4,ho4⟩:=hrow3.push (x:=r) hww3 (p3.mono fun b hb=>⟨fun e=>by have:=(HROW2.out.own e).2; omega,by omega,by omega⟩) (by omega) 24;have hblk:∀ b,b < w3.heap.size->(Value.slice RA pre.length rc).ownBlock ≠ some b->w4.heap[b]?=w3.heap[b]?:=fun b hb hn=>World.grownBy.block hg4 b hb (fun e=>hn e.symm)
    have hv4:∀ b,b < w3.heap.size->(Value.slice RA pre.length rc).ownBlock ≠ some b->v4.ownBlock ≠ some b:=fun b hb hne e=>by
     rcases ho4 with h | h
     · exact hne (h ▸ e)
     · rw [h] at e; injection e with e; omega
    have hgs3:g < w3.heap.size:=Nat.lt_of_lt_of_le hgs2 x3.size;have hbx3:=HBX2.out.ext x3;have c4:∀ i,w4.cell? ⟨g,i,none⟩=w3.cell? ⟨g,i,none⟩:=fun i=>World.cell?_of_block (a:=⟨g,i,none⟩) (hblk g hgs3 HNE.out)
    have f4:∀ i,w4.frozen? ⟨g,i,none⟩=false:=fun i=>(World.frozen?_of_block (a:=⟨g,i,none⟩) (hblk g hgs3 HNE.out)).trans (hbx3.2.1 i)
    have hp4:PlV w4 (fun b=>v4.ownBlock ≠ some b/\b ≠ g) r (plV r (.slice C0 j0 k0) (.slice C1 r.cs.length j1)):=PlV.turn_ hg4.size hn4 (fun b hb hq=>by (try dsimp only at hq); exact ⟨⟨hv4 b hb hq.1,hq.2⟩,hblk b hb hq.1⟩) (HP2.out.ext x3);have hx4:Ext w w4:=Below.grown (X2.out.trans x3).below hg4 hww3 (fun k e=>(hrow3.own e).1);have hne4:v4.ownBlock ≠ some g:=hv4 g hgs3 HNE.out;have hb4:jb w4 g r (.slice C0 j0 k0) (.slice C1 r.cs.length j1):=by
     obtain ⟨t0,t1,t2,t3⟩:=(show jb w2 g r (.slice C0 j0 k0) (.slice C1 r.cs.length j1) from ⟨s0,s1,s2,s3⟩).ext x3 hgs2;exact ⟨(c4 0).trans t0,(c4 1).trans t1,(c4 2).trans t2,(c4 3).trans t3⟩
    obtain ⟨RA4,rc4,rfl,-,-⟩:=hrow4.len;have hlen4:(pre ++ [r]).length=pre.length+1:=by simp
    rw [hlen4] at hrun hrow4 hp4 hne4;have hgs4:g < w4.heap.size:=Nat.lt_of_lt_of_le hgs3 hg4.size;have HBX4:Hid (PBx w4 (fun b=>(Value.slice RA4 (pre.length+1) rc4).ownBlock ≠ some b) g r):=Lib.hid ⟨hgs4,f4,_,_,_,_,_,hb4,hp4⟩;have hw24:w.heap.size<=w4.heap.size:=hx4.size;have X4:=Lib.hid hx4;have HR4:=Lib.hid hrow4;have HP4:=Lib.hid hp4;have HNE4:=Lib.hid hne4;have HB4:=Lib.hid hb4;have HOWN:Hid (∀ b,(Value.slice RA4 (pre.length+1) rc4).ownBlock=some b->b < w4.heap.size):=Lib.hid (fun b e=>(hrow4.own e).2);obtain ⟨t0,t1,t2,t3⟩:=hb4;clear hrow3 hg4 hn4 hrow4 ho4 hblk hv4 c4 hp4 hx4 hne4 hlen4 HNE hbx3 f4 p3 x3 HNO;unfold plV
    go_wp2_with (at_builtin
                 refine wpList_append_run rfl (.tmp 12) (.tmp 15) _ _ rfl _ _ _ _ rfl rfl hrun ?_)
    clear hrun s0 s1 s2 s3;refine (HLD.out _ _ _ HP4.out).mono ?_;rintro e w5 ⟨v5,rfl,p5,x5⟩;have hco:=HCO.out _ _ _ p5;obtain ⟨F0,i0,h0,F1,i1,rfl,-⟩:=id p5.open_;have X5:=Lib.hid x5;obtain ⟨ld,hld⟩:∃ ld,ul l r=ld:=⟨_,rfl⟩;rw [hld] at hco HSQ ⊢;clear p5 x5 hld HLD HCO t0 t1 t2 t3;unfold plV at hco ⊢;go_wp2_with fail;refine hco.mono ?_;rintro e w6 ⟨rfl,x6⟩;have X6:=Lib.hid (X5.out.trans x6);clear x6 hco
    by_cases hlv:ld.lv=0
    · have HF:Hid (uay (fun b=>w.heap.size<=b) (xh l f) w (.returned (.slice RA4 (pre.length+1) rc4)) w6):=Lib.hid (by
       have h1:=HSQ.out;rw [if_pos hlv] at h1;rw [<- h1]
       exact ⟨_,rfl,(HR4.out.ext X6.out).rowP',X4.out.trans X6.out⟩)
      have hdl:(ld.lv == 0)=true:=by simpa using hlv
      clear hlv;go_wp2_with fail;go_ret;exact HF.out
    · have hdl:(ld.lv == 0)=false:=by simpa using hlv
      have h1:=HSQ.out;rw [if_neg hlv] at h1;have HSQ2:=Lib.hid h1;obtain ⟨y0,y1,y2,y3⟩:=HB4.out.ext X6.out hgs4;have hrd:=HRD.out _ _ _ (HP4.out.ext X6.out);unfold plV at hrd;obtain ⟨rd,hrdE⟩:∃ rd,jy l r=rd:=⟨_,rfl⟩;rw [hrdE] at hrd HSQ2 HFR HMD;clear hlv h1 HSQ hrdE HRD;go_wp2_with fail;clear y0 y1 y2 y3;refine hrd.mono ?_;rintro e w9 ⟨v9,rfl,p9,x9⟩;obtain ⟨G0,l0,l1,G1,l2,rfl,-⟩:=id p9.open_;have hb9:=(HBX4.out.ext X6.out).ext x9;obtain ⟨ho9,hof,Y0,yn,yc,Y1,yc1,⟨g0,g1,g2,g3⟩,-⟩:=id hb9;obtain ⟨V,hV⟩:∃ V,((((w9.setCell ⟨g,0,none⟩ (.int .i64 rd.lv)).setCell ⟨g,1,none⟩ (.bool rd.neg)).setCell ⟨g,2,none⟩ (.slice G0 l0 l1)).setCell ⟨g,3,none⟩ (.slice G1 rd.cs.length l2))=V:=⟨_,rfl⟩;have hfr:=hb9.frr rd.lv rd.neg G0 G1 l0 l1 rd.cs.length l2;rw [hV] at hfr;have h96:=X6.out.size;have HNX:Hid (xce l f E D N w.heap.size g V (.slice RA4 (pre.length+1) rc4) n' rd (pre ++ [r])/\Ext w V):=Lib.hid ⟨⟨((HR4.out.ext X6.out).ext x9).frr hfr HNE4.out (fun b hb=>hb.2),by
       rw [<- hV]
       exact hb9.store (p9.mono fun b hb=>⟨fun e=>by have:=HOWN.out b e; omega,by omega⟩),HNE4.out,by have h1:=HSQ2.out; simpa using h1,by have h1:=HMD.out; omega,by have:=HLN.out; simp; omega,by have h1:=HFR.out; simpa [Nat.add_assoc] using h1⟩,by
       rw [<- hV]; exact (((((X4.out.trans X6.out).trans x9).setCell hgw _).setCell hgw _).setCell hgw _).setCell hgw _⟩
      have hpl':pre.length+1<=N:=by have:=HLN.out; omega
      clear p9 x9 hb9 hfr hrd;unfold plV;go_wp2_with fail;clear g0 g1 g2 g3 hof hV
      go_roundw
      case rel=>exact ⟨n',rd,pre ++ [r],RA4,rc4,by simp,by simpa using hpl',HNX.out⟩
      case measure=>simp [xbe]; omega
  · have hdd:decide (0 < mdg l r)=false:=by simpa using hd
    have HF:Hid (uay (fun b=>w.heap.size<=b) (xh l f) w (.returned (.slice RA pre.length rc)) w2):=Lib.hid (by
     have h1:=HSQ.out;rw [xae hd,List.append_nil] at h1;rw [<- h1]
     exact ⟨_,rfl,HROW2.out.rowP',X2.out⟩)
    clear hd HSQ;generalize mdg l r=md at *;go_wp2_with fail;go_ret;exact HF.out
end Go.Proofs.YtklnlgnnlmdibaaGreat
