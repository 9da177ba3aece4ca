/- Layer 22: recpoly.copyOf. -/
import Derived.Test.YtklnlgnnlmdibaaGreatMq8
import Derived.Sort.Grow
set_option linter.unusedSimpArgs false
set_option linter.unusedVariables false
set_option maxRecDepth 100000
set_option maxHeartbeats 8000000
namespace Go.Proofs.YtklnlgnnlmdibaaGreat
open Lib (hid)
open Go.RowKit
def zc0 (w0:World) (q:Nat->Prop) (n:Nat):Prop:=∀ (p:Pl) (v:Value) (w:World),p.sz < n->p.Can->p.sz<=1099511627776->p.dm<=35184372088832->PlV w0 q p v->Ext w0 w->Calls Tryz.prog 43 #[v] w (uf (fun b=>w.heap.size<=b) p w)
theorem wce {w0 w:World} {q:Nat->Prop} (p:Pl) (v:Value) (dw:p.Can) (ig:p.dm<=35184372088832) (h:PlV w0 q p v) (aC:Ext w0 w) (hl:p.lv=0):Calls Tryz.prog 43 #[v] w (uf (fun b=>w.heap.size<=b) p w):=by
 have F6:=p.dm_ds;obtain ⟨A0,n0,c0,A,c,rfl,au,dY,eF,h4⟩:=h.open_;obtain ⟨l,ng,ds,cs⟩:=p
 change l=0 at hl
 subst hl;simp only [Pl.cs,Pl.ds,Pl.lv,Pl.neg,plV] at *;have eX:cs=[]/\ds=dg (val ds)/\(ds=[]->ng=false):=by
  unfold Pl.Can at dw;rcases dw with h | h
  · exact h.2
  · omega
 obtain ⟨rfl,jX,sH⟩:=eX;have RX:ng=decide (sgn ng (val ds) < 0):=by
  rw [ga6,<- jX];cases ng
  · rfl
  · have:0 < ds.length:=List.length_pos_iff.2 (fun e=>by have:=sH e; cases this);simp [this]
 have ND:=hid RX;have mO:=hid jX;obtain ⟨W,hW⟩:=n_m ((w.alloc (.cells #[.int .i64 0,.bool ng,.slice A0 n0 c0,.slice A ([]:List Pl).length c] 35)).alloc (.cells #[.int .i64 0,.bool false,.slice none 0 0,.slice none 0 0] 35));have ai:Ext w W:=by rw [<- hW]; exact ((Ext.refl w).alloc _).alloc _
 have dE:W.heap.size=w.heap.size+1+1:=by rw [<- hW]; simp
 have hz:jf W (w.heap.size+1):=by
  have:=jf.new (w.alloc (.cells #[.int .i64 0,.bool ng,.slice A0 n0 c0,.slice A ([]:List Pl).length c] 35)) 35;rw [hW] at this;simpa using this
 have aed:=hid (au.ext (aC.trans ai));have aF:=hid ai;have HZ:=hid hz;clear h h4 au aC dw sH jX RX ai hz;go_enter Tryz.func43,Tryz.ntmps43;go_wp2_with fail;rw [List.length_nil] at hW;rw [hW];clear hW;refine (xam _ (sgn ng (val ds)) ds.length W ⟨ng,_,ds,rfl,aed.out,rfl,Nat.le_refl _⟩ (by omega)).mono ?_;rintro e w1 ⟨x,rfl,⟨v1,rfl,aY⟩,x1⟩;rw [ku,<- mO.out] at aY;rw [<- ND.out];obtain ⟨⟨z0,z1,z2,z3⟩,zf⟩:=HZ.out.ext x1 (by omega);have oK:=x1.size;have HF:Hid (∀ A' n' c',v1=.slice A' n' c'->uf (fun b=>w.heap.size<=b) (.mk 0 ng ds []) w (.returned (plV (.mk 0 ng ds []) (.slice A' n' c') (.slice none 0 0))) ((((w1.setCell ⟨w.heap.size+1,0,none⟩ (.int .i64 0)).setCell ⟨w.heap.size+1,1,none⟩ (.bool ng)).setCell ⟨w.heap.size+1,2,none⟩ (.slice A' n' c')).setCell ⟨w.heap.size+1,3,none⟩ (.slice none 0 0))):=by
  intro A' n' c' e;subst e;exact qf (p:=.mk 0 ng ds []) (q:=fun _=>False) (aF.out.trans x1) (by omega) (HZ.out.ext x1 (by omega)) (PlV.mk (t:=.mk 0 ng ds []) aY (Nat.le_refl _) (by simp [Pl.cs]) (by unfold Pl.cs jc; trivial)) (fun b _ h=>h.elim)
 obtain ⟨A1,d1,rfl,-⟩:=aY;have HF2:=hid (HF.out _ _ _ rfl);clear HF x1 HZ;go_wp2_with fail;exact bodyPost_ret (v:=plV (.mk 0 ng ds []) (.slice A1 ds.length d1) (.slice none 0 0)) (by simp [results,Tryz.results43,go_sem,z0,z1,z2,z3,plV,Pl.lv,Pl.neg]) rfl HF2.out
theorem jcv (w0:World) (q:Nat->Prop) (n:Nat):zc0 w0 q n:=by
 induction n with
 | zero=>intro p v w h; omega
 | succ n ih =>
 intro p v w hn dw zL ig h aC
 by_cases hl:p.lv=0
 · exact wce p v dw ig h aC hl
 obtain ⟨A0,n0,c0,A,c,rfl,au,dY,eF,h4⟩:=h.open_;obtain ⟨l,ng,ds,cs⟩:=p;simp only [Pl.cs,Pl.ds,Pl.lv,Pl.neg,plV] at *;have hk:=dw.kids (by have:=dw.lv_nonneg.1; simp only [Pl.lv] at this; omega);obtain ⟨rfl,rfl,hlen,gK,-⟩:=hk;have Fb:(Pl.mk l false [] cs).sz=uk cs+1:=by rw [Pl.sz]
 have qW:ww cs<=(Pl.mk l false [] cs).dm:=by rw [Pl.dm]; exact Nat.le_max_right _ _
 have rE:=wac cs;have IH:=hid ih;have H4:=hid h4;have ax:=hid aC;have jC:Hid (∀ k (hk:k < cs.length),cs[k].sz < n/\cs[k].Can/\cs[k].sz<=1099511627776/\cs[k].dm<=35184372088832):=by
  have:∀ k (hk:k < cs.length),cs[k].sz < n/\cs[k].Can/\cs[k].sz<=1099511627776/\cs[k].dm<=35184372088832:=fun k hk=>by
   have h1:=zak (List.getElem_mem hk);have h2:=qan (List.getElem_mem hk);exact ⟨by omega,(gK.mem _ (List.getElem_mem hk)).2,by omega,by omega⟩
  exact this
 have hlz:(l == 0)=false:=by simpa using hl
 have ED:cs.length<=1099511627776:=by omega
 clear h h4 ih aC au dw gK qW ig rE;obtain ⟨W,hW⟩:=n_m ((w.alloc (.cells #[.int .i64 l,.bool false,.slice A0 n0 c0,.slice A cs.length c] 35)).alloc (.cells #[.int .i64 0,.bool false,.slice none 0 0,.slice none 0 0] 35));have ai:Ext w W:=by rw [<- hW]; exact ((Ext.refl w).alloc _).alloc _
 have dE:W.heap.size=w.heap.size+1+1:=by rw [<- hW]; simp
 have bG:jb W w.heap.size (.mk l false [] cs) (.slice A0 n0 c0) (.slice A cs.length c):=by rw [<- hW]; exact (jb.new w (.mk l false [] cs) _ _ _).ext ((Ext.refl _).alloc _) (by simp)
 have hz:jf W (w.heap.size+1):=by
  have:=jf.new (w.alloc (.cells #[.int .i64 l,.bool false,.slice A0 n0 c0,.slice A cs.length c] 35)) 35;rw [hW] at this;simpa using this
 obtain ⟨V,cu,eH,xW,ae⟩:=uw (cs.length:Int) (by omega) (by omega) W;rw [Int.toNat_natCast] at cu ae;have aF:=hid ai;have lL:=hid eH;have gX:=ae (fun b=>w.heap.size+1+1<=b);rw [dE] at cu gX;have dF:=hid gX;have iG:=hid bG;have HZ:=hid hz;obtain ⟨b0,b1,b2,b3⟩:=id bG;obtain ⟨d0,d1,d2,d3⟩:=bG.ext eH (by omega);simp only [Pl.lv,Pl.neg] at b0 b1 d0 d1;clear ai eH ae gX bG hz;go_enter Tryz.func43,Tryz.ntmps43;go_wp2_with fail;clear hW cu b0 b1 b2 b3 d0 d1 d2 d3
 go_loopw [20] (fun iv wr=>∃ k:Nat,k<=cs.length/\iv=.int .i64 k/\Hid ((∃ L:List Pl,L.length=cs.length/\L.take k=cs.take k/\xh wr (fun b=>w.heap.size+1+1<=b) (w.heap.size+1+1) L)/\Ext W wr)) (fun iv _=>cs.length - (intOf iv).toNat)
 case atStart=>exact ⟨0,Nat.zero_le _,rfl,⟨⟨_,List.length_replicate,by simp,dF.out⟩,lL.out⟩⟩
 case round =>
  obtain ⟨k,hk,rfl,⟨⟨L,mr,tK,ae⟩,hx⟩⟩:=hrel;have HX:=hid hx;have aA:=hid ae;have kE:=hid tK;obtain ⟨b0,b1,b2,b3⟩:=iG.out.ext hx (by omega);simp only [Pl.lv,Pl.neg] at b0 b1;have gZ:w.heap.size+1+1 < wr.heap.size:=ae.1;clear hx ae tK lL dF
  by_cases af:k < cs.length
  · obtain ⟨ad,B0,m0,e0,B1,m1,e1,rfl,ah,bY,aW⟩:=jc.kid H4.out k af;have bW:Ext w0 wr:=(ax.out.trans aF.out).trans HX.out;obtain ⟨a0,a1,a2,a3⟩:=bY.ext bW (by rw [ja]; exact ah);obtain ⟨uZ,pq,BU,BR⟩:=jC.out k af;have HC:=hid (fun W' (qN:Ext wr W')=>IH.out cs[k] _ W' uZ pq BU BR aW (bW.trans qN));have dO:Hid ((L.set k cs[k]).take (k+1)=cs.take (k+1)):=kad L cs k kE.out (by omega) af;generalize cs[k]=ck at *;clear bY aW ah uZ pq BU BR bW kE;go_wp2_with fail;refine (HC.out _ ((Ext.refl _).alloc _)).mono ?_;rintro e w2 ⟨v2,rfl,p2,x2⟩;have JK:Ext wr w2:=((Ext.refl wr).alloc _).trans x2;obtain ⟨C0,j0,f0,C1,f1,rfl,-⟩:=id p2.open_;have gI:=aA.out.ext JK;obtain ⟨D0,n2,g0,D1,n3,g1,⟨r0,r1,r2,r3⟩,-⟩:=gI.2.2 k (by omega);have bF:=gI.2.1;have dR:=(gI.set_ k (by omega) ck (p2.mono fun b hb=>by
     have dL:wr.heap.size+1<=b:=by simpa using hb
     exact ⟨by omega,by omega⟩)).1
    simp only at r0 r1 r2 r3;have dN:=hid dR;have X2:=hid (HX.out.trans JK);unfold plV;clear gI dR p2 x2 JK HC aA a0 a1 a2 a3 b0 b1 b2 b3;go_wp2_with fail
    go_roundw
    case rel=>exact ⟨k+1,by omega,by go_num,⟨_,by rw [List.length_set]; exact mr,dO.out,dN.out⟩,(((X2.out.setCell (by show W.heap.size<=w.heap.size+1+1; omega) _).setCell (by show W.heap.size<=w.heap.size+1+1; omega) _).setCell (by show W.heap.size<=w.heap.size+1+1; omega) _).setCell (by show W.heap.size<=w.heap.size+1+1; omega) _⟩
    case measure=>simp [intOf]; omega
  · have bH:k=cs.length:=by omega
    have pM:L=cs:=by
     have h:=kE.out;rw [bH,List.take_length,<- mr,List.take_length] at h;exact h
    obtain ⟨⟨z0,z1,z2,z3⟩,zf⟩:=HZ.out.ext HX.out (by omega);have aS:=aA.out.fin (Nat.le_refl _);rw [pM] at aS;have HF:=hid (qf (p:=.mk l false [] cs) (q':=fun b=>w.heap.size<=b) (aF.out.trans HX.out) (Nat.le_succ _) (HZ.out.ext HX.out (by omega)) (PlV.mk (t:=.mk l false [] cs) (c:=cs.length) (jd.nil _) (Nat.le_refl _) (by omega) aS) (fun b _ hb=>⟨by omega,by omega⟩));clear aS aA kE pM HZ;go_wp2_with fail;exact bodyPost_ret (v:=plV (.mk l false [] cs) (.slice none 0 0) (.slice (some ⟨w.heap.size+1+1,0,none⟩) cs.length cs.length)) (by simp [results,Tryz.results43,go_sem,z0,z1,z2,z3,plV,Pl.lv,Pl.neg]) rfl HF.out
theorem qag {w:World} {q:Nat->Prop} (p:Pl) (v:Value) (dw:p.Can) (hsz:p.sz<=1099511627776) (ig:p.dm<=35184372088832) (h:PlV w q p v):Calls Tryz.prog 43 #[v] w (uf (fun b=>w.heap.size<=b) p w):=
 jcv w q (p.sz+1) p v w (Nat.lt_succ_self _) dw hsz ig h (Ext.refl w)
open Go.Sort
theorem ucm (a b c d:Int) (w:World):(Instr.index 75 (.agg #[.int .i64 a,.int .i64 b,.int .i64 c,.int .i64 d]) (.int .i64 0)).run Tryz.prog w=.ok (.int .i64 a) w/\(Instr.index 75 (.agg #[.int .i64 a,.int .i64 b,.int .i64 c,.int .i64 d]) (.int .i64 1)).run Tryz.prog w=.ok (.int .i64 b) w/\(Instr.index 75 (.agg #[.int .i64 a,.int .i64 b,.int .i64 c,.int .i64 d]) (.int .i64 2)).run Tryz.prog w=.ok (.int .i64 c) w/\(Instr.index 75 (.agg #[.int .i64 a,.int .i64 b,.int .i64 c,.int .i64 d]) (.int .i64 3)).run Tryz.prog w=.ok (.int .i64 d) w:=
 ⟨by kernel_rfl,by kernel_rfl,by kernel_rfl,by kernel_rfl⟩
theorem kas (m:Mo) (w:World):Calls Tryz.prog 100 #[moV m] w fun e w'=>e=.returned (.bool (decide (¬ m.nonneg)))/\Ext w w':=by
 have HX:Hid (∀ o,Ext w (w.alloc o)):=fun o=>(Ext.refl w).alloc o
 obtain ⟨W,hW⟩:=n_m (w.alloc (.cells #[.int .i64 m.a,.int .i64 m.b,.int .i64 m.c,.int .i64 m.d] 75));have aF:Hid (Ext w W):=by
  have:Ext w W:=by rw [<- hW]; exact HX.out _
  exact this
 obtain ⟨d0,d1,d2,d3⟩:vw W w.heap.size m:=by rw [<- hW]; exact vw.new w m _
 obtain ⟨i0,i1,i2,i3⟩:=ucm m.a m.b m.c m.d W;unfold moV
 by_cases h0:m.a < 0
 · have HR:Hid (decide (¬ m.nonneg)=true):=by
    have:decide (¬ m.nonneg)=true:=decide_eq_true (by unfold Mo.nonneg; omega);exact this
   have q0:decide (m.a < 0)=true:=decide_eq_true h0;go_enter Tryz.func100,Tryz.ntmps100;go_wp2_with fail;refine wp_loop_rounds 1 ?_;rw [rounds_succ];go_wp2_with fail;go_ret;exact ⟨by rw [HR.out]; rfl,aF.out⟩
 · have q0:decide (m.a < 0)=false:=decide_eq_false h0
   by_cases h1:m.b < 0
   · have HR:Hid (decide (¬ m.nonneg)=true):=by
      have:decide (¬ m.nonneg)=true:=decide_eq_true (by unfold Mo.nonneg; omega);exact this
     have q1:decide (m.b < 0)=true:=decide_eq_true h1;go_enter Tryz.func100,Tryz.ntmps100;go_wp2_with fail;refine wp_loop_rounds 2 ?_;rw [rounds_succ];go_wp2_with fail;rw [rounds_succ];go_wp2_with fail;go_ret;exact ⟨by rw [HR.out]; rfl,aF.out⟩
   · have q1:decide (m.b < 0)=false:=decide_eq_false h1
     by_cases h2:m.c < 0
     · have HR:Hid (decide (¬ m.nonneg)=true):=by
        have:decide (¬ m.nonneg)=true:=decide_eq_true (by unfold Mo.nonneg; omega);exact this
       have q2:decide (m.c < 0)=true:=decide_eq_true h2;go_enter Tryz.func100,Tryz.ntmps100;go_wp2_with fail;refine wp_loop_rounds 3 ?_;rw [rounds_succ];go_wp2_with fail;rw [rounds_succ];go_wp2_with fail;rw [rounds_succ];go_wp2_with fail;go_ret;exact ⟨by rw [HR.out]; rfl,aF.out⟩
     · have q2:decide (m.c < 0)=false:=decide_eq_false h2
       by_cases h3:m.d < 0
       · have HR:Hid (decide (¬ m.nonneg)=true):=by
          have:decide (¬ m.nonneg)=true:=decide_eq_true (by unfold Mo.nonneg; omega);exact this
         have q3:decide (m.d < 0)=true:=decide_eq_true h3;go_enter Tryz.func100,Tryz.ntmps100;go_wp2_with fail;refine wp_loop_rounds 4 ?_;rw [rounds_succ];go_wp2_with fail;rw [rounds_succ];go_wp2_with fail;rw [rounds_succ];go_wp2_with fail;rw [rounds_succ];go_wp2_with fail;go_ret;exact ⟨by rw [HR.out]; rfl,aF.out⟩
       · have HR:Hid (decide (¬ m.nonneg)=false):=by
          have:decide (¬ m.nonneg)=false:=decide_eq_false (by unfold Mo.nonneg; omega);exact this
         have q3:decide (m.d < 0)=false:=decide_eq_false h3;go_enter Tryz.func100,Tryz.ntmps100;go_wp2_with fail;refine wp_loop_rounds 5 ?_;rw [rounds_succ];go_wp2_with fail;rw [rounds_succ];go_wp2_with fail;rw [rounds_succ];go_wp2_with fail;rw [rounds_succ];go_wp2_with fail;rw [rounds_succ];go_wp2_with fail;go_ret;exact ⟨by rw [HR.out]; rfl,aF.out⟩
theorem vak (a:Int) (w:World):Calls Tryz.prog 138 #[.int .i64 a] w fun e w'=>e=.returned (.bool false)/\w'=w:=by
 go_enter Tryz.func138,Tryz.ntmps138;go_wp2_with fail;go_ret;simp
theorem zt (a b:Int) (w:World):Calls Tryz.prog 121 #[.int .i64 a,.int .i64 b] w fun e w'=>e=.returned (.int .i64 (qi a b))/\w'=w:=by
 rcases Int.lt_trichotomy a b with h | h | h
 · have q1:decide (a < b)=true:=decide_eq_true h;have HR:=hid (qaf h);go_enter Tryz.func121,Tryz.ntmps121;go_wp2_with fail;refine (vak _ _).mono ?_;rintro e w1 ⟨rfl,rfl⟩;go_wp2_with fail;refine (vak _ _).mono ?_;rintro e w1 ⟨rfl,rfl⟩;go_wp2_with fail;go_ret;exact ⟨by rw [HR.out]; rfl,rfl⟩
 · have q1:decide (a < b)=false:=decide_eq_false (by omega);have q2:decide (a > b)=false:=decide_eq_false (by omega);have HR:=hid (uz h);go_enter Tryz.func121,Tryz.ntmps121;go_wp2_with fail;refine (vak _ _).mono ?_;rintro e w1 ⟨rfl,rfl⟩;go_wp2_with fail;refine (vak _ _).mono ?_;rintro e w1 ⟨rfl,rfl⟩;go_wp2_with fail;go_ret;exact ⟨by rw [HR.out]; rfl,rfl⟩
 · have q1:decide (a < b)=false:=decide_eq_false (by omega);have q2:decide (a > b)=true:=decide_eq_true (by omega);have HR:=hid (wan h);go_enter Tryz.func121,Tryz.ntmps121;go_wp2_with fail;refine (vak _ _).mono ?_;rintro e w1 ⟨rfl,rfl⟩;go_wp2_with fail;refine (vak _ _).mono ?_;rintro e w1 ⟨rfl,rfl⟩;go_wp2_with fail;go_ret;exact ⟨by rw [HR.out]; rfl,rfl⟩
def va0 (m n:Mo):Int:=if m.lt n then -1 else if n.lt m then 1 else 0
theorem kco (m n:Mo):va0 m n=if m.d ≠ n.d then qi m.d n.d else if m.c ≠ n.c then qi m.c n.c else if m.b ≠ n.b then qi m.b n.b else qi m.a n.a:=by
 unfold va0 qi Mo.lt
 repeat' split
 all_goals first | rfl | omega
theorem qax {a b:Int} (h:a ≠ b):(qi a b != 0)=true:=by
 unfold qi; split
 · rfl
 · split
   · rfl
   · omega
theorem jcf (a:Int):qi a a=0:=uz rfl
theorem wbe (m n:Mo) (w:World):Calls Tryz.prog 94 #[moV m,moV n] w fun e w'=>e=.returned (.int .i64 (va0 m n))/\∃ q os,w'=grow (w.drewN q) os:=by
 have HG:Hid (∀ o o' q,∃ q' os,(((w.alloc o).alloc o').drewN q)=grow (w.drewN q') os):=fun o o' q=>⟨q,#[o] ++ #[o'],by rw [alloc_eq_grow,alloc_eq_grow,grow_grow]; rfl⟩
 obtain ⟨W,hW⟩:=n_m ((w.alloc (.cells #[.int .i64 m.a,.int .i64 m.b,.int .i64 m.c,.int .i64 m.d] 75)).alloc (.cells #[.int .i64 n.a,.int .i64 n.b,.int .i64 n.c,.int .i64 n.d] 75));have WM:Hid (∀ q,∃ q' os,W.drewN q=grow (w.drewN q') os):=fun q=>by rw [<- hW]; exact HG.out _ _ q
 have hm:vw W w.heap.size m:=by rw [<- hW]; exact (vw.new w m _).ext ((Ext.refl _).alloc _) (by simp)
 have hn:vw W (w.heap.size+1) n:=by
  have:=vw.new (w.alloc (.cells #[.int .i64 m.a,.int .i64 m.b,.int .i64 m.c,.int .i64 m.d] 75)) n 75;rw [hW] at this;simpa using this
 obtain ⟨d0,d1,d2,d3⟩:=hm;obtain ⟨e0,e1,e2,e3⟩:=hn;have HC:=hid (kco m n);generalize va0 m n=r at *;unfold moV
 by_cases h3:m.d=n.d
 · by_cases h2:m.c=n.c
   · by_cases h1:m.b=n.b
     · by_cases h0:m.a=n.a
       · have HR:Hid (r=0):=by
          have:r=0:=by rw [HC.out,if_neg (fun h=>h h3),if_neg (fun h=>h h2),if_neg (fun h=>h h1),h0,jcf]
          exact this
         have z3:qi m.d n.d=0:=uz h3;have z2:qi m.c n.c=0:=uz h2;have z1:qi m.b n.b=0:=uz h1;have z0:qi m.a n.a=0:=uz h0;clear h3 h2 h1 h0;go_enter Tryz.func94,Tryz.ntmps94;go_wp2_with fail;refine wp_loop_rounds 5 ?_;rw [rounds_succ];go_wp2_with fail
         go_region_held3 (fun W'=>W'=W.drew) (first | rfl | assumption) ((go_at_call 121; refine (zt _ _ _).mono ?_; rintro e v1 ⟨rfl,aY⟩))
         all_goals
          subst aY;go_wp2_with fail;rw [rounds_succ];go_wp2_with fail
          go_region_held3 (fun W'=>W'=W.drew.drew) (first | rfl | assumption) ((go_at_call 121; refine (zt _ _ _).mono ?_; rintro e v1 ⟨rfl,aY⟩))
          all_goals
           subst aY;go_wp2_with fail;rw [rounds_succ];go_wp2_with fail
           go_region_held3 (fun W'=>W'=W.drew.drew.drew) (first | rfl | assumption) ((go_at_call 121; refine (zt _ _ _).mono ?_; rintro e v1 ⟨rfl,aY⟩))
           all_goals
            subst aY;go_wp2_with fail;rw [rounds_succ];go_wp2_with fail
            go_region_held3 (fun W'=>W'=W.drew.drew.drew.drew) (first | rfl | assumption) ((go_at_call 121; refine (zt _ _ _).mono ?_; rintro e v1 ⟨rfl,aY⟩))
            all_goals
             subst aY;go_wp2_with fail;rw [rounds_succ];go_wp2_with fail;go_ret;exact ⟨by rw [HR.out]; rfl,WM.out 4⟩
       · have HR:Hid (r=qi m.a n.a):=by
          have:r=qi m.a n.a:=by rw [HC.out,if_neg (fun h=>h h3),if_neg (fun h=>h h2),if_neg (fun h=>h h1)]
          exact this
         have q0:=qax h0;have z3:qi m.d n.d=0:=uz h3;have z2:qi m.c n.c=0:=uz h2;have z1:qi m.b n.b=0:=uz h1;clear h3 h2 h1;go_enter Tryz.func94,Tryz.ntmps94;go_wp2_with fail;refine wp_loop_rounds 4 ?_;rw [rounds_succ];go_wp2_with fail
         go_region_held3 (fun W'=>W'=W.drew) (first | rfl | assumption) ((go_at_call 121; refine (zt _ _ _).mono ?_; rintro e v1 ⟨rfl,aY⟩))
         all_goals
          subst aY;go_wp2_with fail;rw [rounds_succ];go_wp2_with fail
          go_region_held3 (fun W'=>W'=W.drew.drew) (first | rfl | assumption) ((go_at_call 121; refine (zt _ _ _).mono ?_; rintro e v1 ⟨rfl,aY⟩))
          all_goals
           subst aY;go_wp2_with fail;rw [rounds_succ];go_wp2_with fail
           go_region_held3 (fun W'=>W'=W.drew.drew.drew) (first | rfl | assumption) ((go_at_call 121; refine (zt _ _ _).mono ?_; rintro e v1 ⟨rfl,aY⟩))
           all_goals
            subst aY;go_wp2_with fail;rw [rounds_succ];go_wp2_with fail
            go_region_held3 (fun W'=>W'=W.drew.drew.drew.drew) (first | rfl | assumption) ((go_at_call 121; refine (zt _ _ _).mono ?_; rintro e v1 ⟨rfl,aY⟩))
            all_goals
             subst aY;go_wp2_with fail;go_ret;exact ⟨by rw [HR.out]; rfl,WM.out 4⟩
     · have HR:Hid (r=qi m.b n.b):=by
        have:r=qi m.b n.b:=by rw [HC.out,if_neg (fun h=>h h3),if_neg (fun h=>h h2),if_pos h1]
        exact this
       have q1:=qax h1;have z3:qi m.d n.d=0:=uz h3;have z2:qi m.c n.c=0:=uz h2;clear h3 h2;go_enter Tryz.func94,Tryz.ntmps94;go_wp2_with fail;refine wp_loop_rounds 3 ?_;rw [rounds_succ];go_wp2_with fail
       go_region_held3 (fun W'=>W'=W.drew) (first | rfl | assumption) ((go_at_call 121; refine (zt _ _ _).mono ?_; rintro e v1 ⟨rfl,aY⟩))
       all_goals
        subst aY;go_wp2_with fail;rw [rounds_succ];go_wp2_with fail
        go_region_held3 (fun W'=>W'=W.drew.drew) (first | rfl | assumption) ((go_at_call 121; refine (zt _ _ _).mono ?_; rintro e v1 ⟨rfl,aY⟩))
        all_goals
         subst aY;go_wp2_with fail;rw [rounds_succ];go_wp2_with fail
         go_region_held3 (fun W'=>W'=W.drew.drew.drew) (first | rfl | assumption) ((go_at_call 121; refine (zt _ _ _).mono ?_; rintro e v1 ⟨rfl,aY⟩))
         all_goals
          subst aY;go_wp2_with fail;go_ret;exact ⟨by rw [HR.out]; rfl,WM.out 3⟩
   · have HR:Hid (r=qi m.c n.c):=by
      have:r=qi m.c n.c:=by rw [HC.out,if_neg (fun h=>h h3),if_pos h2]
      exact this
     have q2:=qax h2;have z3:qi m.d n.d=0:=uz h3;clear h3;go_enter Tryz.func94,Tryz.ntmps94;go_wp2_with fail;refine wp_loop_rounds 2 ?_;rw [rounds_succ];go_wp2_with fail
     go_region_held3 (fun W'=>W'=W.drew) (first | rfl | assumption) ((go_at_call 121; refine (zt _ _ _).mono ?_; rintro e v1 ⟨rfl,aY⟩))
     all_goals
      subst aY;go_wp2_with fail;rw [rounds_succ];go_wp2_with fail
      go_region_held3 (fun W'=>W'=W.drew.drew) (first | rfl | assumption) ((go_at_call 121; refine (zt _ _ _).mono ?_; rintro e v1 ⟨rfl,aY⟩))
      all_goals
       subst aY;go_wp2_with fail;go_ret;exact ⟨by rw [HR.out]; rfl,WM.out 2⟩
 · have HR:Hid (r=qi m.d n.d):=by
    have:r=qi m.d n.d:=by rw [HC.out,if_pos h3]
    exact this
   have q3:=qax h3;go_enter Tryz.func94,Tryz.ntmps94;go_wp2_with fail;refine wp_loop_rounds 1 ?_;rw [rounds_succ];go_wp2_with fail
   go_region_held3 (fun W'=>W'=W.drew) (first | rfl | assumption) ((go_at_call 121; refine (zt _ _ _).mono ?_; rintro e v1 ⟨rfl,aY⟩))
   all_goals
    subst aY;go_wp2_with fail;go_ret;exact ⟨by rw [HR.out]; rfl,WM.out 1⟩
end Go.Proofs.YtklnlgnnlmdibaaGreat
