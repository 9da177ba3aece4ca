/- Layer 22: recpoly.copyOf. -/
import Derived.Test.YtcepajijiabkmaaGreatMp8
import Derived.Sort.Grow
set_option linter.unusedSimpArgs false
set_option linter.unusedVariables false
set_option maxRecDepth 100000
set_option maxHeartbeats 8000000
namespace Go.Proofs.YtcepajijiabkmaaGreat
open Lib (hid)
open Go.RowKit
def wdc (w0:World) (q:Nat->Prop) (n:Nat):Prop:=∀ (p:Pl) (v:Value) (w:World),p.sz < n->p.Can->p.sz<=1099511627776->p.dm<=35184372088832->PlV w0 q p v->Ext w0 w->Calls Tryz.prog 29 #[v] w (uf (fun b=>w.heap.size<=b) p w)
theorem ycq {w0 w:World} {q:Nat->Prop} (p:Pl) (v:Value) (dD:p.Can) (gY:p.dm<=35184372088832) (h:PlV w0 q p v) (aC:Ext w0 w) (hl:p.lv=0):Calls Tryz.prog 29 #[v] w (uf (fun b=>w.heap.size<=b) p w):=by
 have zB:=p.vd;obtain ⟨A0,n0,c0,A,c,rfl,au,dP,dC,h4⟩:=h.open_;obtain ⟨l,ng,ds,cs⟩:=p
 change l=0 at hl
 subst hl;simp only [Pl.cs,Pl.ds,Pl.lv,Pl.neg,plV] at *;have dO:cs=[]/\ds=dg (val ds)/\(ds=[]->ng=false):=by
  unfold Pl.Can at dD;rcases dD with h | h
  · exact h.2
  · omega
 obtain ⟨rfl,gZ,rZ⟩:=dO;have Rn:ng=decide (sgn ng (val ds) < 0):=by
  rw [xba,<- gZ];cases ng
  · rfl
  · have:0 < ds.length:=rA.2 (fun e=>by have:=rZ e; cases this);simp [this]
 have Nb:=hid Rn;have nM:=hid gZ;obtain ⟨W,hW⟩:=n_m ((w.alloc (.cells #[.int .i64 0,.bool ng,.slice A0 n0 c0,.slice A ([]:List Pl).length c] 33)).alloc (.cells #[.int .i64 0,.bool false,.slice none 0 0,.slice none 0 0] 33));have ai:Ext w W:=by rw [<- hW]; exact ((Ext.refl w).alloc _).alloc _
 have dG:W.heap.size=w.heap.size+1+1:=by rw [<- hW]; simp
 have hz:jf W (w.heap.size+1):=by
  have:=jf.new (w.alloc (.cells #[.int .i64 0,.bool ng,.slice A0 n0 c0,.slice A ([]:List Pl).length c] 33)) 33;rw [hW] at this;simpa using this
 have adf:=hid (au.ext (aC.trans ai));have aG:=hid ai;have HZ:=hid hz;clear h h4 au aC dD rZ gZ Rn ai hz;go_enter Tryz.func29,Tryz.ntmps29;go_wp2_with fail;rw [r8] at hW;rw [hW];clear hW;refine (gan _ (sgn ng (val ds)) ds.length W ⟨ng,_,ds,rfl,adf.out,rfl,pj _⟩ (by omega)).mono ?_;rintro e w1 ⟨x,rfl,⟨v1,rfl,bD⟩,x1⟩;rw [ku,<- nM.out] at bD;rw [<- Nb.out];obtain ⟨⟨z0,z1,z2,z3⟩,zf⟩:=HZ.out.ext x1 (by omega);have oz:=x1.size;have HF:Hid (∀ A' n' c',v1=.slice A' n' c'->uf (fun b=>w.heap.size<=b) (.mk 0 ng ds []) w (.returned (plV (.mk 0 ng ds []) (.slice A' n' c') (.slice none 0 0))) ((((w1.setCell ⟨w.heap.size+1,0,none⟩ (.int .i64 0)).setCell ⟨w.heap.size+1,1,none⟩ (.bool ng)).setCell ⟨w.heap.size+1,2,none⟩ (.slice A' n' c')).setCell ⟨w.heap.size+1,3,none⟩ (.slice none 0 0))):=by
  intro A' n' c' e;subst e;exact qf (p:=.mk 0 ng ds []) (q:=fun _=>False) (aG.out.trans x1) (by omega) (HZ.out.ext x1 (by omega)) (PlV.mk (t:=.mk 0 ng ds []) bD (pj _) (by simp [Pl.cs]) (by unfold Pl.cs jd; trivial)) (fun b _ h=>h.elim)
 obtain ⟨A1,d1,rfl,-⟩:=bD;have HF2:=hid (HF.out _ _ _ rfl);clear HF x1 HZ;go_wp2_with fail;exact bodyPost_ret (v:=plV (.mk 0 ng ds []) (.slice A1 ds.length d1) (.slice none 0 0)) (by simp [results,Tryz.results29,go_sem,z0,z1,z2,z3,plV,Pl.lv,Pl.neg]) rfl HF2.out
theorem jc8 (w0:World) (q:Nat->Prop) (n:Nat):wdc w0 q n:=by
 induction n with
 | zero=>intro p v w h; omega
 | succ n ih =>
 intro p v w hn dD zG gY h aC
 by_cases hl:p.lv=0
 · exact ycq p v dD gY h aC hl
 obtain ⟨A0,n0,c0,A,c,rfl,au,dP,dC,h4⟩:=h.open_;obtain ⟨l,ng,ds,cs⟩:=p;simp only [Pl.cs,Pl.ds,Pl.lv,Pl.neg,plV] at *;have hk:=dD.kids (by have:=dD.qq.1; simp only [Pl.lv] at this; omega);obtain ⟨rfl,rfl,hlen,fB,-⟩:=hk;have EO:(Pl.mk l false [] cs).sz=vk cs+1:=by rw [Pl.sz]
 have qU:ww cs<=(Pl.mk l false [] cs).dm:=by rw [Pl.dm]; exact Sb _ _
 have rC:=xad cs;have IH:=hid ih;have H4:=hid h4;have ay:=hid aC;have jD:Hid (∀ k (hk:k < cs.length),cs[k].sz < n/\cs[k].Can/\cs[k].sz<=1099511627776/\cs[k].dm<=35184372088832):=by
  have:∀ k (hk:k < cs.length),cs[k].sz < n/\cs[k].Can/\cs[k].sz<=1099511627776/\cs[k].dm<=35184372088832:=fun k hk=>by
   have h1:=yal (pt hk);have h2:=xap (pt hk);exact ⟨by omega,(fB.mem _ (pt hk)).2,by omega,by omega⟩
  exact this
 have hlz:(l == 0)=false:=by simpa using hl
 have OJ:cs.length<=1099511627776:=by omega
 clear h h4 ih aC au dD fB qU gY rC;obtain ⟨W,hW⟩:=n_m ((w.alloc (.cells #[.int .i64 l,.bool false,.slice A0 n0 c0,.slice A cs.length c] 33)).alloc (.cells #[.int .i64 0,.bool false,.slice none 0 0,.slice none 0 0] 33));have ai:Ext w W:=by rw [<- hW]; exact ((Ext.refl w).alloc _).alloc _
 have dG:W.heap.size=w.heap.size+1+1:=by rw [<- hW]; simp
 have bV:jb W w.heap.size (.mk l false [] cs) (.slice A0 n0 c0) (.slice A cs.length c):=by rw [<- hW]; exact (jb.new w (.mk l false [] cs) _ _ _).ext ((Ext.refl _).alloc _) (by simp)
 have hz:jf W (w.heap.size+1):=by
  have:=jf.new (w.alloc (.cells #[.int .i64 l,.bool false,.slice A0 n0 c0,.slice A cs.length c] 33)) 33;rw [hW] at this;simpa using this
 obtain ⟨V,dw,eQ,xG,ae⟩:=uw (cs.length:Int) (by omega) (by omega) W;rw [sT] at dw ae;have aG:=hid ai;have lL:=hid eQ;have gK:=ae (fun b=>w.heap.size+1+1<=b);rw [dG] at dw gK;have aW:=hid gK;have kL:=hid bV;have HZ:=hid hz;obtain ⟨b0,b1,b2,b3⟩:=id bV;obtain ⟨d0,d1,d2,d3⟩:=bV.ext eQ (by omega);simp only [Pl.lv,Pl.neg] at b0 b1 d0 d1;clear ai eQ ae gK bV hz;go_enter Tryz.func29,Tryz.ntmps29;go_wp2_with fail;clear hW dw b0 b1 b2 b3 d0 d1 d2 d3
 go_loopw [20] (fun iv wr=>∃ k:Nat,k<=cs.length/\iv=.int .i64 k/\Hid ((∃ L:List Pl,L.length=cs.length/\L.take k=cs.take k/\xh wr (fun b=>w.heap.size+1+1<=b) (w.heap.size+1+1) L)/\Ext W wr)) (fun iv _=>cs.length - (intOf iv).toNat)
 case atStart=>exact ⟨0,pS _,rfl,⟨⟨_,p8,by simp,aW.out⟩,lL.out⟩⟩
 case round =>
  obtain ⟨k,hk,rfl,⟨⟨L,pI,tC,ae⟩,hx⟩⟩:=hrel;have HX:=hid hx;have aB:=hid ae;have kJ:=hid tC;obtain ⟨b0,b1,b2,b3⟩:=kL.out.ext hx (by omega);simp only [Pl.lv,Pl.neg] at b0 b1;have gV:w.heap.size+1+1 < wr.heap.size:=ae.1;clear hx ae tC lL aW
  by_cases af:k < cs.length
  · obtain ⟨ad,B0,m0,e0,B1,m1,e1,rfl,ah,bP,bC⟩:=jd.ym H4.out k af;have bQ:Ext w0 wr:=(ay.out.trans aG.out).trans HX.out;obtain ⟨a0,a1,a2,a3⟩:=bP.ext bQ (by rw [ja]; exact ah);obtain ⟨uS,oW,BD,BC⟩:=jD.out k af;have HC:=hid (fun W' (qI:Ext wr W')=>IH.out cs[k] _ W' uS oW BD BC bC (bQ.trans qI));have dU:Hid ((L.set k cs[k]).take (k+1)=cs.take (k+1)):=zae L cs k kJ.out (by omega) af;generalize cs[k]=ck at *;clear bP bC ah uS oW BD BC bQ kJ;go_wp2_with fail;refine (HC.out _ ((Ext.refl _).alloc _)).mono ?_;rintro e w2 ⟨v2,rfl,p2,x2⟩;have Ju:Ext wr w2:=((Ext.refl wr).alloc _).trans x2;obtain ⟨C0,j0,f0,C1,f1,rfl,-⟩:=id p2.open_;have fJ:=aB.out.ext Ju;obtain ⟨D0,n2,g0,D1,n3,g1,⟨r0,r1,r2,r3⟩,-⟩:=fJ.2.2 k (by omega);have bG:=fJ.2.1;have dV:=(fJ.xD k (by omega) ck (p2.mono fun b hb=>by
     have eP:wr.heap.size+1<=b:=by simpa using hb
     exact ⟨by omega,by omega⟩)).1
    simp only at r0 r1 r2 r3;have dS:=hid dV;have X2:=hid (HX.out.trans Ju);unfold plV;clear fJ dV p2 x2 Ju HC aB a0 a1 a2 a3 b0 b1 b2 b3;go_wp2_with fail
    go_roundw
    case rel=>exact ⟨k+1,by omega,by go_num,⟨_,by rw [pH]; exact pI,dU.out,dS.out⟩,(((X2.out.setCell (by show W.heap.size<=w.heap.size+1+1; omega) _).setCell (by show W.heap.size<=w.heap.size+1+1; omega) _).setCell (by show W.heap.size<=w.heap.size+1+1; omega) _).setCell (by show W.heap.size<=w.heap.size+1+1; omega) _⟩
    case measure=>simp [intOf]; omega
  · have df:k=cs.length:=by omega
    have pJ:L=cs:=by
     have h:=kJ.out;rw [df,pP,<- pI,pP] at h;exact h
    obtain ⟨⟨z0,z1,z2,z3⟩,zf⟩:=HZ.out.ext HX.out (by omega);have aS:=aB.out.fin (pj _);rw [pJ] at aS;have HF:=hid (qf (p:=.mk l false [] cs) (q':=fun b=>w.heap.size<=b) (aG.out.trans HX.out) (r6 _) (HZ.out.ext HX.out (by omega)) (PlV.mk (t:=.mk l false [] cs) (c:=cs.length) (jc.nil _) (pj _) (by omega) aS) (fun b _ hb=>⟨by omega,by omega⟩));clear aS aB kJ pJ HZ;go_wp2_with fail;exact bodyPost_ret (v:=plV (.mk l false [] cs) (.slice none 0 0) (.slice (some ⟨w.heap.size+1+1,0,none⟩) cs.length cs.length)) (by simp [results,Tryz.results29,go_sem,z0,z1,z2,z3,plV,Pl.lv,Pl.neg]) rfl HF.out
theorem zah {w:World} {q:Nat->Prop} (p:Pl) (v:Value) (dD:p.Can) (hsz:p.sz<=1099511627776) (gY:p.dm<=35184372088832) (h:PlV w q p v):Calls Tryz.prog 29 #[v] w (uf (fun b=>w.heap.size<=b) p w):=
 jc8 w q (p.sz+1) p v w (tx _) dD hsz gY h (Ext.refl w)
open Go.Sort
theorem gcx (a b c d:Int) (w:World):(Instr.index 61 (.agg #[.int .i64 a,.int .i64 b,.int .i64 c,.int .i64 d]) (.int .i64 0)).run Tryz.prog w=.ok (.int .i64 a) w/\(Instr.index 61 (.agg #[.int .i64 a,.int .i64 b,.int .i64 c,.int .i64 d]) (.int .i64 1)).run Tryz.prog w=.ok (.int .i64 b) w/\(Instr.index 61 (.agg #[.int .i64 a,.int .i64 b,.int .i64 c,.int .i64 d]) (.int .i64 2)).run Tryz.prog w=.ok (.int .i64 c) w/\(Instr.index 61 (.agg #[.int .i64 a,.int .i64 b,.int .i64 c,.int .i64 d]) (.int .i64 3)).run Tryz.prog w=.ok (.int .i64 d) w:=
 ⟨by kernel_rfl,by kernel_rfl,by kernel_rfl,by kernel_rfl⟩
theorem xav (m:Mo) (w:World):Calls Tryz.prog 79 #[moV m] w fun e w'=>e=.returned (.bool (decide (¬ m.qe)))/\Ext w w':=by
 have HX:Hid (∀ o,Ext w (w.alloc o)):=fun o=>(Ext.refl w).alloc o
 obtain ⟨W,hW⟩:=n_m (w.alloc (.cells #[.int .i64 m.a,.int .i64 m.b,.int .i64 m.c,.int .i64 m.d] 61));have aG:Hid (Ext w W):=by
  have:Ext w W:=by rw [<- hW]; exact HX.out _
  exact this
 obtain ⟨d0,d1,d2,d3⟩:vw W w.heap.size m:=by rw [<- hW]; exact vw.new w m _
 obtain ⟨i0,i1,i2,i3⟩:=gcx m.a m.b m.c m.d W;unfold moV
 by_cases h0:m.a < 0
 · have HR:Hid (decide (¬ m.qe)=true):=by
    have:decide (¬ m.qe)=true:=decide_eq_true (by unfold Mo.qe; omega);exact this
   have q0:decide (m.a < 0)=true:=decide_eq_true h0;go_enter Tryz.func79,Tryz.ntmps79;go_wp2_with fail;refine wp_loop_rounds 1 ?_;rw [rounds_succ];go_wp2_with fail;go_ret;exact ⟨by rw [HR.out]; rfl,aG.out⟩
 · have q0:decide (m.a < 0)=false:=decide_eq_false h0
   by_cases h1:m.b < 0
   · have HR:Hid (decide (¬ m.qe)=true):=by
      have:decide (¬ m.qe)=true:=decide_eq_true (by unfold Mo.qe; omega);exact this
     have q1:decide (m.b < 0)=true:=decide_eq_true h1;go_enter Tryz.func79,Tryz.ntmps79;go_wp2_with fail;refine wp_loop_rounds 2 ?_;rw [rounds_succ];go_wp2_with fail;rw [rounds_succ];go_wp2_with fail;go_ret;exact ⟨by rw [HR.out]; rfl,aG.out⟩
   · have q1:decide (m.b < 0)=false:=decide_eq_false h1
     by_cases h2:m.c < 0
     · have HR:Hid (decide (¬ m.qe)=true):=by
        have:decide (¬ m.qe)=true:=decide_eq_true (by unfold Mo.qe; omega);exact this
       have q2:decide (m.c < 0)=true:=decide_eq_true h2;go_enter Tryz.func79,Tryz.ntmps79;go_wp2_with fail;refine wp_loop_rounds 3 ?_;rw [rounds_succ];go_wp2_with fail;rw [rounds_succ];go_wp2_with fail;rw [rounds_succ];go_wp2_with fail;go_ret;exact ⟨by rw [HR.out]; rfl,aG.out⟩
     · have q2:decide (m.c < 0)=false:=decide_eq_false h2
       by_cases h3:m.d < 0
       · have HR:Hid (decide (¬ m.qe)=true):=by
          have:decide (¬ m.qe)=true:=decide_eq_true (by unfold Mo.qe; omega);exact this
         have q3:decide (m.d < 0)=true:=decide_eq_true h3;go_enter Tryz.func79,Tryz.ntmps79;go_wp2_with fail;refine wp_loop_rounds 4 ?_;rw [rounds_succ];go_wp2_with fail;rw [rounds_succ];go_wp2_with fail;rw [rounds_succ];go_wp2_with fail;rw [rounds_succ];go_wp2_with fail;go_ret;exact ⟨by rw [HR.out]; rfl,aG.out⟩
       · have HR:Hid (decide (¬ m.qe)=false):=by
          have:decide (¬ m.qe)=false:=decide_eq_false (by unfold Mo.qe; omega);exact this
         have q3:decide (m.d < 0)=false:=decide_eq_false h3;go_enter Tryz.func79,Tryz.ntmps79;go_wp2_with fail;refine wp_loop_rounds 5 ?_;rw [rounds_succ];go_wp2_with fail;rw [rounds_succ];go_wp2_with fail;rw [rounds_succ];go_wp2_with fail;rw [rounds_succ];go_wp2_with fail;rw [rounds_succ];go_wp2_with fail;go_ret;exact ⟨by rw [HR.out]; rfl,aG.out⟩
theorem yam (a:Int) (w:World):Calls Tryz.prog 123 #[.int .i64 a] w fun e w'=>e=.returned (.bool false)/\w'=w:=by
 go_enter Tryz.func123,Tryz.ntmps123;go_wp2_with fail;go_ret;simp
theorem uq (a b:Int) (w:World):Calls Tryz.prog 104 #[.int .i64 a,.int .i64 b] w fun e w'=>e=.returned (.int .i64 (jh a b))/\w'=w:=by
 rcases wg a b with h | h | h
 · have q1:decide (a < b)=true:=decide_eq_true h;have HR:=hid (yag h);go_enter Tryz.func104,Tryz.ntmps104;go_wp2_with fail;refine (yam _ _).mono ?_;rintro e w1 ⟨rfl,rfl⟩;go_wp2_with fail;refine (yam _ _).mono ?_;rintro e w1 ⟨rfl,rfl⟩;go_wp2_with fail;go_ret;exact ⟨by rw [HR.out]; rfl,rfl⟩
 · have q1:decide (a < b)=false:=decide_eq_false (by omega);have q2:decide (a > b)=false:=decide_eq_false (by omega);have HR:=hid (wz h);go_enter Tryz.func104,Tryz.ntmps104;go_wp2_with fail;refine (yam _ _).mono ?_;rintro e w1 ⟨rfl,rfl⟩;go_wp2_with fail;refine (yam _ _).mono ?_;rintro e w1 ⟨rfl,rfl⟩;go_wp2_with fail;go_ret;exact ⟨by rw [HR.out]; rfl,rfl⟩
 · have q1:decide (a < b)=false:=decide_eq_false (by omega);have q2:decide (a > b)=true:=decide_eq_true (by omega);have HR:=hid (qaq h);go_enter Tryz.func104,Tryz.ntmps104;go_wp2_with fail;refine (yam _ _).mono ?_;rintro e w1 ⟨rfl,rfl⟩;go_wp2_with fail;refine (yam _ _).mono ?_;rintro e w1 ⟨rfl,rfl⟩;go_wp2_with fail;go_ret;exact ⟨by rw [HR.out]; rfl,rfl⟩
def vaf (m n:Mo):Int:=if m.lt n then -1 else if n.lt m then 1 else 0
theorem zc0 (m n:Mo):vaf m n=if m.d ≠ n.d then jh m.d n.d else if m.c ≠ n.c then jh m.c n.c else if m.b ≠ n.b then jh m.b n.b else jh m.a n.a:=by
 unfold vaf jh Mo.lt
 repeat' split
 all_goals first | rfl | omega
theorem ga0 {a b:Int} (h:a ≠ b):(jh a b != 0)=true:=by
 unfold jh; split
 · rfl
 · split
   · rfl
   · omega
theorem kcq (a:Int):jh a a=0:=wz rfl
theorem zay (m n:Mo) (w:World):Calls Tryz.prog 77 #[moV m,moV n] w fun e w'=>e=.returned (.int .i64 (vaf m n))/\∃ q os,w'=grow (w.drewN q) os:=by
 have HG:Hid (∀ o o' q,∃ q' os,(((w.alloc o).alloc o').drewN q)=grow (w.drewN q') os):=fun o o' q=>⟨q,#[o] ++ #[o'],by rw [alloc_eq_grow,alloc_eq_grow,grow_grow]; rfl⟩
 obtain ⟨W,hW⟩:=n_m ((w.alloc (.cells #[.int .i64 m.a,.int .i64 m.b,.int .i64 m.c,.int .i64 m.d] 61)).alloc (.cells #[.int .i64 n.a,.int .i64 n.b,.int .i64 n.c,.int .i64 n.d] 61));have VX:Hid (∀ q,∃ q' os,W.drewN q=grow (w.drewN q') os):=fun q=>by rw [<- hW]; exact HG.out _ _ q
 have hm:vw W w.heap.size m:=by rw [<- hW]; exact (vw.new w m _).ext ((Ext.refl _).alloc _) (by simp)
 have hn:vw W (w.heap.size+1) n:=by
  have:=vw.new (w.alloc (.cells #[.int .i64 m.a,.int .i64 m.b,.int .i64 m.c,.int .i64 m.d] 61)) n 61;rw [hW] at this;simpa using this
 obtain ⟨d0,d1,d2,d3⟩:=hm;obtain ⟨e0,e1,e2,e3⟩:=hn;have HC:=hid (zc0 m n);generalize vaf m n=r at *;unfold moV
 by_cases h3:m.d=n.d
 · by_cases h2:m.c=n.c
   · by_cases h1:m.b=n.b
     · by_cases h0:m.a=n.a
       · have HR:Hid (r=0):=by
          have:r=0:=by rw [HC.out,if_neg (fun h=>h h3),if_neg (fun h=>h h2),if_neg (fun h=>h h1),h0,kcq]
          exact this
         have z3:jh m.d n.d=0:=wz h3;have z2:jh m.c n.c=0:=wz h2;have z1:jh m.b n.b=0:=wz h1;have z0:jh m.a n.a=0:=wz h0;clear h3 h2 h1 h0;go_enter Tryz.func77,Tryz.ntmps77;go_wp2_with fail;refine wp_loop_rounds 5 ?_;rw [rounds_succ];go_wp2_with fail
         go_region_held3 (fun W'=>W'=W.drew) (first | rfl | assumption) ((go_at_call 104; refine (uq _ _ _).mono ?_; rintro e v1 ⟨rfl,bD⟩))
         all_goals
          subst bD;go_wp2_with fail;rw [rounds_succ];go_wp2_with fail
          go_region_held3 (fun W'=>W'=W.drew.drew) (first | rfl | assumption) ((go_at_call 104; refine (uq _ _ _).mono ?_; rintro e v1 ⟨rfl,bD⟩))
          all_goals
           subst bD;go_wp2_with fail;rw [rounds_succ];go_wp2_with fail
           go_region_held3 (fun W'=>W'=W.drew.drew.drew) (first | rfl | assumption) ((go_at_call 104; refine (uq _ _ _).mono ?_; rintro e v1 ⟨rfl,bD⟩))
           all_goals
            subst bD;go_wp2_with fail;rw [rounds_succ];go_wp2_with fail
            go_region_held3 (fun W'=>W'=W.drew.drew.drew.drew) (first | rfl | assumption) ((go_at_call 104; refine (uq _ _ _).mono ?_; rintro e v1 ⟨rfl,bD⟩))
            all_goals
             subst bD;go_wp2_with fail;rw [rounds_succ];go_wp2_with fail;go_ret;exact ⟨by rw [HR.out]; rfl,VX.out 4⟩
       · have HR:Hid (r=jh m.a n.a):=by
          have:r=jh m.a n.a:=by rw [HC.out,if_neg (fun h=>h h3),if_neg (fun h=>h h2),if_neg (fun h=>h h1)]
          exact this
         have q0:=ga0 h0;have z3:jh m.d n.d=0:=wz h3;have z2:jh m.c n.c=0:=wz h2;have z1:jh m.b n.b=0:=wz h1;clear h3 h2 h1;go_enter Tryz.func77,Tryz.ntmps77;go_wp2_with fail;refine wp_loop_rounds 4 ?_;rw [rounds_succ];go_wp2_with fail
         go_region_held3 (fun W'=>W'=W.drew) (first | rfl | assumption) ((go_at_call 104; refine (uq _ _ _).mono ?_; rintro e v1 ⟨rfl,bD⟩))
         all_goals
          subst bD;go_wp2_with fail;rw [rounds_succ];go_wp2_with fail
          go_region_held3 (fun W'=>W'=W.drew.drew) (first | rfl | assumption) ((go_at_call 104; refine (uq _ _ _).mono ?_; rintro e v1 ⟨rfl,bD⟩))
          all_goals
           subst bD;go_wp2_with fail;rw [rounds_succ];go_wp2_with fail
           go_region_held3 (fun W'=>W'=W.drew.drew.drew) (first | rfl | assumption) ((go_at_call 104; refine (uq _ _ _).mono ?_; rintro e v1 ⟨rfl,bD⟩))
           all_goals
            subst bD;go_wp2_with fail;rw [rounds_succ];go_wp2_with fail
            go_region_held3 (fun W'=>W'=W.drew.drew.drew.drew) (first | rfl | assumption) ((go_at_call 104; refine (uq _ _ _).mono ?_; rintro e v1 ⟨rfl,bD⟩))
            all_goals
             subst bD;go_wp2_with fail;go_ret;exact ⟨by rw [HR.out]; rfl,VX.out 4⟩
     · have HR:Hid (r=jh m.b n.b):=by
        have:r=jh m.b n.b:=by rw [HC.out,if_neg (fun h=>h h3),if_neg (fun h=>h h2),if_pos h1]
        exact this
       have q1:=ga0 h1;have z3:jh m.d n.d=0:=wz h3;have z2:jh m.c n.c=0:=wz h2;clear h3 h2;go_enter Tryz.func77,Tryz.ntmps77;go_wp2_with fail;refine wp_loop_rounds 3 ?_;rw [rounds_succ];go_wp2_with fail
       go_region_held3 (fun W'=>W'=W.drew) (first | rfl | assumption) ((go_at_call 104; refine (uq _ _ _).mono ?_; rintro e v1 ⟨rfl,bD⟩))
       all_goals
        subst bD;go_wp2_with fail;rw [rounds_succ];go_wp2_with fail
        go_region_held3 (fun W'=>W'=W.drew.drew) (first | rfl | assumption) ((go_at_call 104; refine (uq _ _ _).mono ?_; rintro e v1 ⟨rfl,bD⟩))
        all_goals
         subst bD;go_wp2_with fail;rw [rounds_succ];go_wp2_with fail
         go_region_held3 (fun W'=>W'=W.drew.drew.drew) (first | rfl | assumption) ((go_at_call 104; refine (uq _ _ _).mono ?_; rintro e v1 ⟨rfl,bD⟩))
         all_goals
          subst bD;go_wp2_with fail;go_ret;exact ⟨by rw [HR.out]; rfl,VX.out 3⟩
   · have HR:Hid (r=jh m.c n.c):=by
      have:r=jh m.c n.c:=by rw [HC.out,if_neg (fun h=>h h3),if_pos h2]
      exact this
     have q2:=ga0 h2;have z3:jh m.d n.d=0:=wz h3;clear h3;go_enter Tryz.func77,Tryz.ntmps77;go_wp2_with fail;refine wp_loop_rounds 2 ?_;rw [rounds_succ];go_wp2_with fail
     go_region_held3 (fun W'=>W'=W.drew) (first | rfl | assumption) ((go_at_call 104; refine (uq _ _ _).mono ?_; rintro e v1 ⟨rfl,bD⟩))
     all_goals
      subst bD;go_wp2_with fail;rw [rounds_succ];go_wp2_with fail
      go_region_held3 (fun W'=>W'=W.drew.drew) (first | rfl | assumption) ((go_at_call 104; refine (uq _ _ _).mono ?_; rintro e v1 ⟨rfl,bD⟩))
      all_goals
       subst bD;go_wp2_with fail;go_ret;exact ⟨by rw [HR.out]; rfl,VX.out 2⟩
 · have HR:Hid (r=jh m.d n.d):=by
    have:r=jh m.d n.d:=by rw [HC.out,if_pos h3]
    exact this
   have q3:=ga0 h3;go_enter Tryz.func77,Tryz.ntmps77;go_wp2_with fail;refine wp_loop_rounds 1 ?_;rw [rounds_succ];go_wp2_with fail
   go_region_held3 (fun W'=>W'=W.drew) (first | rfl | assumption) ((go_at_call 104; refine (uq _ _ _).mono ?_; rintro e v1 ⟨rfl,bD⟩))
   all_goals
    subst bD;go_wp2_with fail;go_ret;exact ⟨by rw [HR.out]; rfl,VX.out 1⟩
end Go.Proofs.YtcepajijiabkmaaGreat
