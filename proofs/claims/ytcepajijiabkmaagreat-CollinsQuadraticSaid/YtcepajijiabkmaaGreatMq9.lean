/- Layer 22: recpoly.copyOf. -/
import Derived.Test.YtcepajijiabkmaaGreatMq8
import Derived.Sort.Grow
set_option linter.unusedSimpArgs false
set_option linter.unusedVariables false
set_option maxRecDepth 100000
set_option maxHeartbeats 8000000
namespace Go.Proofs.YtcepajijiabkmaaGreat
open Lib (hid)
open Go.RowKit
def kc7 (w0:World) (q:Nat->Prop) (n:Nat):Prop:=∀ (p:Pl) (v:Value) (w:World),p.sz < n->p.Can->p.sz<=1099511627776->p.dm<=35184372088832->PlV w0 q p v->Ext w0 w->Calls Tryz.prog 29 #[v] w (zg (fun b=>w.heap.size<=b) p w)
theorem xcm {w0 w:World} {q:Nat->Prop} (p:Pl) (v:Value) (bQ:p.Can) (fG:p.dm<=35184372088832) (h:PlV w0 q p v) (aF:Ext w0 w) (hl:p.lv=0):Calls Tryz.prog 29 #[v] w (zg (fun b=>w.heap.size<=b) p w):=by
 have xC:=p.dm_ds;obtain ⟨A0,n0,c0,A,c,rfl,ak,dY,dK,h4⟩:=h.open_;obtain ⟨l,ng,ds,cs⟩:=p
 change l=0 at hl
 subst hl;simp only [Pl.cs,Pl.ds,Pl.lv,Pl.neg,plV] at *;have dw:cs=[]/\ds=dg (val ds)/\(ds=[]->ng=false):=by
  unfold Pl.Can at bQ;rcases bQ with h | h
  · exact h.2
  · omega
 obtain ⟨rfl,eG,pY⟩:=dw;have OD:ng=decide (sgn ng (val ds) < 0):=by
  rw [ja8,<- eG];cases ng
  · rfl
  · have:0 < ds.length:=List.length_pos_iff.2 (fun e=>by have:=pY e; cases this);simp [this]
 have JS:=hid OD;have nY:=hid eG;obtain ⟨W,hW⟩:=n_m ((w.alloc (.cells #[.int .i64 0,.bool ng,.slice A0 n0 c0,.slice A ([]:List Pl).length c] 33)).alloc (.cells #[.int .i64 0,.bool false,.slice none 0 0,.slice none 0 0] 33));have ag:Ext w W:=by rw [<- hW]; exact ((Ext.refl w).alloc _).alloc _
 have bY:W.heap.size=w.heap.size+1+1:=by rw [<- hW]; simp
 have hz:uf W (w.heap.size+1):=by
  have:=uf.new (w.alloc (.cells #[.int .i64 0,.bool ng,.slice A0 n0 c0,.slice A ([]:List Pl).length c] 33)) 33;rw [hW] at this;simpa using this
 have Z7:=hid (ak.ext (aF.trans ag));have aB:=hid ag;have HZ:=hid hz;clear h h4 ak aF bQ pY eG OD ag hz;go_enter Tryz.func29,Tryz.ntmps29;go_wp2_with fail;rw [List.length_nil] at hW;rw [hW];clear hW;refine (xam _ (sgn ng (val ds)) ds.length W ⟨ng,_,ds,rfl,Z7.out,rfl,Nat.le_refl _⟩ (by omega)).mono ?_;rintro e w1 ⟨x,rfl,⟨v1,rfl,aU⟩,x1⟩;rw [uu,<- nY.out] at aU;rw [<- JS.out];obtain ⟨⟨z0,z1,z2,z3⟩,zf⟩:=HZ.out.ext x1 (by omega);have lK:=x1.size;have HF:Hid (∀ A' n' c',v1=.slice A' n' c'->zg (fun b=>w.heap.size<=b) (.mk 0 ng ds []) w (.returned (plV (.mk 0 ng ds []) (.slice A' n' c') (.slice none 0 0))) ((((w1.setCell ⟨w.heap.size+1,0,none⟩ (.int .i64 0)).setCell ⟨w.heap.size+1,1,none⟩ (.bool ng)).setCell ⟨w.heap.size+1,2,none⟩ (.slice A' n' c')).setCell ⟨w.heap.size+1,3,none⟩ (.slice none 0 0))):=by
  intro A' n' c' e;subst e;exact jg (p:=.mk 0 ng ds []) (q:=fun _=>False) (aB.out.trans x1) (by omega) (HZ.out.ext x1 (by omega)) (PlV.mk (t:=.mk 0 ng ds []) aU (Nat.le_refl _) (by simp [Pl.cs]) (by unfold Pl.cs jd; trivial)) (fun b _ h=>h.elim)
 obtain ⟨A1,d1,rfl,-⟩:=aU;have MO:=hid (HF.out _ _ _ rfl);clear HF x1 HZ;go_wp2_with fail;exact bodyPost_ret (v:=plV (.mk 0 ng ds []) (.slice A1 ds.length d1) (.slice none 0 0)) (by simp [results,Tryz.results29,go_sem,z0,z1,z2,z3,plV,Pl.lv,Pl.neg]) rfl MO.out
theorem yc3 (w0:World) (q:Nat->Prop) (n:Nat):kc7 w0 q n:=by
 induction n with
 | zero=>intro p v w h; omega
 | succ n ih =>
 intro p v w hn bQ xJ fG h aF
 by_cases hl:p.lv=0
 · exact xcm p v bQ fG h aF hl
 obtain ⟨A0,n0,c0,A,c,rfl,ak,dY,dK,h4⟩:=h.open_;obtain ⟨l,ng,ds,cs⟩:=p;simp only [Pl.cs,Pl.ds,Pl.lv,Pl.neg,plV] at *;have hk:=bQ.kids (by have:=bQ.lv_nonneg.1; simp only [Pl.lv] at this; omega);obtain ⟨rfl,rfl,hlen,eH,-⟩:=hk;have Dh:(Pl.mk l false [] cs).sz=xk cs+1:=by rw [Pl.sz]
 have oM:qx cs<=(Pl.mk l false [] cs).dm:=by rw [Pl.dm]; exact Nat.le_max_right _ _
 have oV:=vac cs;have IH:=hid ih;have H4:=hid h4;have ay:=hid aF;have iT:Hid (∀ k (hk:k < cs.length),cs[k].sz < n/\cs[k].Can/\cs[k].sz<=1099511627776/\cs[k].dm<=35184372088832):=by
  have:∀ k (hk:k < cs.length),cs[k].sz < n/\cs[k].Can/\cs[k].sz<=1099511627776/\cs[k].dm<=35184372088832:=fun k hk=>by
   have h1:=xak (List.getElem_mem hk);have h2:=kan (List.getElem_mem hk);exact ⟨by omega,(eH.mem _ (List.getElem_mem hk)).2,by omega,by omega⟩
  exact this
 have hlz:(l == 0)=false:=by simpa using hl
 have LC:cs.length<=1099511627776:=by omega
 clear h h4 ih aF ak bQ eH oM fG oV;obtain ⟨W,hW⟩:=n_m ((w.alloc (.cells #[.int .i64 l,.bool false,.slice A0 n0 c0,.slice A cs.length c] 33)).alloc (.cells #[.int .i64 0,.bool false,.slice none 0 0,.slice none 0 0] 33));have ag:Ext w W:=by rw [<- hW]; exact ((Ext.refl w).alloc _).alloc _
 have bY:W.heap.size=w.heap.size+1+1:=by rw [<- hW]; simp
 have bJ:jc W w.heap.size (.mk l false [] cs) (.slice A0 n0 c0) (.slice A cs.length c):=by rw [<- hW]; exact (jc.new w (.mk l false [] cs) _ _ _).ext ((Ext.refl _).alloc _) (by simp)
 have hz:uf W (w.heap.size+1):=by
  have:=uf.new (w.alloc (.cells #[.int .i64 l,.bool false,.slice A0 n0 c0,.slice A cs.length c] 33)) 33;rw [hW] at this;simpa using this
 obtain ⟨V,dB,fD,AV,ae⟩:=qab (cs.length:Int) (by omega) (by omega) W;rw [Int.toNat_natCast] at dB ae;have aB:=hid ag;have kQ:=hid fD;have eF:=ae (fun b=>w.heap.size+1+1<=b);rw [bY] at dB eF;have aS:=hid eF;have eY:=hid bJ;have HZ:=hid hz;obtain ⟨b0,b1,b2,b3⟩:=id bJ;obtain ⟨d0,d1,d2,d3⟩:=bJ.ext fD (by omega);simp only [Pl.lv,Pl.neg] at b0 b1 d0 d1;clear ag fD ae eF bJ hz;go_enter Tryz.func29,Tryz.ntmps29;go_wp2_with fail;clear hW dB b0 b1 b2 b3 d0 d1 d2 d3
 go_loopw [20] (fun iv wr=>∃ k:Nat,k<=cs.length/\iv=.int .i64 k/\Hid ((∃ L:List Pl,L.length=cs.length/\L.take k=cs.take k/\zi wr (fun b=>w.heap.size+1+1<=b) (w.heap.size+1+1) L)/\Ext W wr)) (fun iv _=>cs.length - (intOf iv).toNat)
 case atStart=>exact ⟨0,Nat.zero_le _,rfl,⟨⟨_,List.length_replicate,by simp,aS.out⟩,kQ.out⟩⟩
 case round =>
  obtain ⟨k,hk,rfl,⟨⟨L,rE,AY,ae⟩,hx⟩⟩:=hrel;have HX:=hid hx;have aC:=hid ae;have kR:=hid AY;obtain ⟨b0,b1,b2,b3⟩:=eY.out.ext hx (by omega);simp only [Pl.lv,Pl.neg] at b0 b1;have oN:w.heap.size+1+1 < wr.heap.size:=ae.1;clear hx ae AY kQ aS
  by_cases af:k < cs.length
  · obtain ⟨ad,B0,m0,e0,B1,m1,e1,rfl,ah,bF,aV⟩:=jd.kid H4.out k af;have bC:Ext w0 wr:=(ay.out.trans aB.out).trans HX.out;obtain ⟨a0,a1,a2,a3⟩:=bF.ext bC (by rw [ja]; exact ah);obtain ⟨rX,pI,zK,zJ⟩:=iT.out k af;have HC:=hid (fun W' (nZ:Ext wr W')=>IH.out cs[k] _ W' rX pI zK zJ aV (bC.trans nZ));have dI:Hid ((L.set k cs[k]).take (k+1)=cs.take (k+1)):=vaf L cs k kR.out (by omega) af;generalize cs[k]=ck at *;clear bF aV ah rX pI zK zJ bC kR;go_wp2_with fail;refine (HC.out _ ((Ext.refl _).alloc _)).mono ?_;rintro e w2 ⟨v2,rfl,p2,x2⟩;have VA:Ext wr w2:=((Ext.refl wr).alloc _).trans x2;obtain ⟨C0,j0,f0,C1,f1,rfl,-⟩:=id p2.open_;have fA:=aC.out.ext VA;obtain ⟨D0,n2,g0,D1,n3,g1,⟨r0,r1,r2,r3⟩,-⟩:=fA.2.2 k (by omega);have bu:=fA.2.1;have dF:=(fA.set_ k (by omega) ck (p2.mono fun b hb=>by
     have dX:wr.heap.size+1<=b:=by simpa using hb
     exact ⟨by omega,by omega⟩)).1
    simp only at r0 r1 r2 r3;have dP:=hid dF;have X2:=hid (HX.out.trans VA);unfold plV;clear fA dF p2 x2 VA HC aC a0 a1 a2 a3 b0 b1 b2 b3;go_wp2_with fail
    go_roundw
    case rel=>exact ⟨k+1,by omega,by go_num,⟨_,by rw [List.length_set]; exact rE,dI.out,dP.out⟩,(((X2.out.setCell (by show W.heap.size<=w.heap.size+1+1; omega) _).setCell (by show W.heap.size<=w.heap.size+1+1; omega) _).setCell (by show W.heap.size<=w.heap.size+1+1; omega) _).setCell (by show W.heap.size<=w.heap.size+1+1; omega) _⟩
    case measure=>simp [intOf]; omega
  · have bV:k=cs.length:=by omega
    have oZ:L=cs:=by
     have h:=kR.out;rw [bV,List.take_length,<- rE,List.take_length] at h;exact h
    obtain ⟨⟨z0,z1,z2,z3⟩,zf⟩:=HZ.out.ext HX.out (by omega);have aQ:=aC.out.fin (Nat.le_refl _);rw [oZ] at aQ;have HF:=hid (jg (p:=.mk l false [] cs) (q':=fun b=>w.heap.size<=b) (aB.out.trans HX.out) (Nat.le_succ _) (HZ.out.ext HX.out (by omega)) (PlV.mk (t:=.mk l false [] cs) (c:=cs.length) (jb.nil _) (Nat.le_refl _) (by omega) aQ) (fun b _ hb=>⟨by omega,by omega⟩));clear aQ aC kR oZ HZ;go_wp2_with fail;exact bodyPost_ret (v:=plV (.mk l false [] cs) (.slice none 0 0) (.slice (some ⟨w.heap.size+1+1,0,none⟩) cs.length cs.length)) (by simp [results,Tryz.results29,go_sem,z0,z1,z2,z3,plV,Pl.lv,Pl.neg]) rfl HF.out
theorem qaf {w:World} {q:Nat->Prop} (p:Pl) (v:Value) (bQ:p.Can) (hsz:p.sz<=1099511627776) (fG:p.dm<=35184372088832) (h:PlV w q p v):Calls Tryz.prog 29 #[v] w (zg (fun b=>w.heap.size<=b) p w):=
 yc3 w q (p.sz+1) p v w (Nat.lt_succ_self _) bQ hsz fG h (Ext.refl w)
open Go.Sort
theorem jcu (a b c d:Int) (w:World):(Instr.index 61 (.agg #[.int .i64 a,.int .i64 b,.int .i64 c,.int .i64 d]) (.int .i64 0)).run Tryz.prog w=.ok (.int .i64 a) w/\(Instr.index 61 (.agg #[.int .i64 a,.int .i64 b,.int .i64 c,.int .i64 d]) (.int .i64 1)).run Tryz.prog w=.ok (.int .i64 b) w/\(Instr.index 61 (.agg #[.int .i64 a,.int .i64 b,.int .i64 c,.int .i64 d]) (.int .i64 2)).run Tryz.prog w=.ok (.int .i64 c) w/\(Instr.index 61 (.agg #[.int .i64 a,.int .i64 b,.int .i64 c,.int .i64 d]) (.int .i64 3)).run Tryz.prog w=.ok (.int .i64 d) w:=
 ⟨by kernel_rfl,by kernel_rfl,by kernel_rfl,by kernel_rfl⟩
theorem jat (m:Mo) (w:World):Calls Tryz.prog 79 #[moV m] w fun e w'=>e=.returned (.bool (decide (¬ m.nonneg)))/\Ext w w':=by
 have HX:Hid (∀ o,Ext w (w.alloc o)):=fun o=>(Ext.refl w).alloc o
 obtain ⟨W,hW⟩:=n_m (w.alloc (.cells #[.int .i64 m.a,.int .i64 m.b,.int .i64 m.c,.int .i64 m.d] 61));have aB:Hid (Ext w W):=by
  have:Ext w W:=by rw [<- hW]; exact HX.out _
  exact this
 obtain ⟨d0,d1,d2,d3⟩:vw W w.heap.size m:=by rw [<- hW]; exact vw.new w m _
 obtain ⟨i0,i1,i2,i3⟩:=jcu m.a m.b m.c m.d W;unfold moV
 by_cases h0:m.a < 0
 · have HR:Hid (decide (¬ m.nonneg)=true):=by
    have:decide (¬ m.nonneg)=true:=decide_eq_true (by unfold Mo.nonneg; omega);exact this
   have q0:decide (m.a < 0)=true:=decide_eq_true h0;go_enter Tryz.func79,Tryz.ntmps79;go_wp2_with fail;refine wp_loop_rounds 1 ?_;rw [rounds_succ];go_wp2_with fail;go_ret;exact ⟨by rw [HR.out]; rfl,aB.out⟩
 · have q0:decide (m.a < 0)=false:=decide_eq_false h0
   by_cases h1:m.b < 0
   · have HR:Hid (decide (¬ m.nonneg)=true):=by
      have:decide (¬ m.nonneg)=true:=decide_eq_true (by unfold Mo.nonneg; omega);exact this
     have q1:decide (m.b < 0)=true:=decide_eq_true h1;go_enter Tryz.func79,Tryz.ntmps79;go_wp2_with fail;refine wp_loop_rounds 2 ?_;rw [rounds_succ];go_wp2_with fail;rw [rounds_succ];go_wp2_with fail;go_ret;exact ⟨by rw [HR.out]; rfl,aB.out⟩
   · have q1:decide (m.b < 0)=false:=decide_eq_false h1
     by_cases h2:m.c < 0
     · have HR:Hid (decide (¬ m.nonneg)=true):=by
        have:decide (¬ m.nonneg)=true:=decide_eq_true (by unfold Mo.nonneg; omega);exact this
       have q2:decide (m.c < 0)=true:=decide_eq_true h2;go_enter Tryz.func79,Tryz.ntmps79;go_wp2_with fail;refine wp_loop_rounds 3 ?_;rw [rounds_succ];go_wp2_with fail;rw [rounds_succ];go_wp2_with fail;rw [rounds_succ];go_wp2_with fail;go_ret;exact ⟨by rw [HR.out]; rfl,aB.out⟩
     · have q2:decide (m.c < 0)=false:=decide_eq_false h2
       by_cases h3:m.d < 0
       · have HR:Hid (decide (¬ m.nonneg)=true):=by
          have:decide (¬ m.nonneg)=true:=decide_eq_true (by unfold Mo.nonneg; omega);exact this
         have q3:decide (m.d < 0)=true:=decide_eq_true h3;go_enter Tryz.func79,Tryz.ntmps79;go_wp2_with fail;refine wp_loop_rounds 4 ?_;rw [rounds_succ];go_wp2_with fail;rw [rounds_succ];go_wp2_with fail;rw [rounds_succ];go_wp2_with fail;rw [rounds_succ];go_wp2_with fail;go_ret;exact ⟨by rw [HR.out]; rfl,aB.out⟩
       · have HR:Hid (decide (¬ m.nonneg)=false):=by
          have:decide (¬ m.nonneg)=false:=decide_eq_false (by unfold Mo.nonneg; omega);exact this
         have q3:decide (m.d < 0)=false:=decide_eq_false h3;go_enter Tryz.func79,Tryz.ntmps79;go_wp2_with fail;refine wp_loop_rounds 5 ?_;rw [rounds_succ];go_wp2_with fail;rw [rounds_succ];go_wp2_with fail;rw [rounds_succ];go_wp2_with fail;rw [rounds_succ];go_wp2_with fail;rw [rounds_succ];go_wp2_with fail;go_ret;exact ⟨by rw [HR.out]; rfl,aB.out⟩
theorem uak (a:Int) (w:World):Calls Tryz.prog 123 #[.int .i64 a] w fun e w'=>e=.returned (.bool false)/\w'=w:=by
 go_enter Tryz.func123,Tryz.ntmps123;go_wp2_with fail;go_ret;simp
theorem jr (a b:Int) (w:World):Calls Tryz.prog 104 #[.int .i64 a,.int .i64 b] w fun e w'=>e=.returned (.int .i64 (xh a b))/\w'=w:=by
 rcases Int.lt_trichotomy a b with h | h | h
 · have q1:decide (a < b)=true:=decide_eq_true h;have HR:=hid (uae h);go_enter Tryz.func104,Tryz.ntmps104;go_wp2_with fail;refine (uak _ _).mono ?_;rintro e w1 ⟨rfl,rfl⟩;go_wp2_with fail;refine (uak _ _).mono ?_;rintro e w1 ⟨rfl,rfl⟩;go_wp2_with fail;go_ret;exact ⟨by rw [HR.out]; rfl,rfl⟩
 · have q1:decide (a < b)=false:=decide_eq_false (by omega);have q2:decide (a > b)=false:=decide_eq_false (by omega);have HR:=hid (uz h);go_enter Tryz.func104,Tryz.ntmps104;go_wp2_with fail;refine (uak _ _).mono ?_;rintro e w1 ⟨rfl,rfl⟩;go_wp2_with fail;refine (uak _ _).mono ?_;rintro e w1 ⟨rfl,rfl⟩;go_wp2_with fail;go_ret;exact ⟨by rw [HR.out]; rfl,rfl⟩
 · have q1:decide (a < b)=false:=decide_eq_false (by omega);have q2:decide (a > b)=true:=decide_eq_true (by omega);have HR:=hid (qao h);go_enter Tryz.func104,Tryz.ntmps104;go_wp2_with fail;refine (uak _ _).mono ?_;rintro e w1 ⟨rfl,rfl⟩;go_wp2_with fail;refine (uak _ _).mono ?_;rintro e w1 ⟨rfl,rfl⟩;go_wp2_with fail;go_ret;exact ⟨by rw [HR.out]; rfl,rfl⟩
def jae (m n:Mo):Int:=if m.lt n then -1 else if n.lt m then 1 else 0
theorem qcw (m n:Mo):jae m n=if m.d ≠ n.d then xh m.d n.d else if m.c ≠ n.c then xh m.c n.c else if m.b ≠ n.b then xh m.b n.b else xh m.a n.a:=by
 unfold jae xh Mo.lt
 repeat' split
 all_goals first | rfl | omega
theorem zaz {a b:Int} (h:a ≠ b):(xh a b != 0)=true:=by
 unfold xh; split
 · rfl
 · split
   · rfl
   · omega
theorem vcm (a:Int):xh a a=0:=uz rfl
theorem qaw (m n:Mo) (w:World):Calls Tryz.prog 77 #[moV m,moV n] w fun e w'=>e=.returned (.int .i64 (jae m n))/\∃ q os,w'=grow (w.drewN q) os:=by
 have HG:Hid (∀ o o' q,∃ q' os,(((w.alloc o).alloc o').drewN q)=grow (w.drewN q') os):=fun o o' q=>⟨q,#[o] ++ #[o'],by rw [alloc_eq_grow,alloc_eq_grow,grow_grow]; rfl⟩
 obtain ⟨W,hW⟩:=n_m ((w.alloc (.cells #[.int .i64 m.a,.int .i64 m.b,.int .i64 m.c,.int .i64 m.d] 61)).alloc (.cells #[.int .i64 n.a,.int .i64 n.b,.int .i64 n.c,.int .i64 n.d] 61));have SC:Hid (∀ q,∃ q' os,W.drewN q=grow (w.drewN q') os):=fun q=>by rw [<- hW]; exact HG.out _ _ q
 have hm:vw W w.heap.size m:=by rw [<- hW]; exact (vw.new w m _).ext ((Ext.refl _).alloc _) (by simp)
 have hn:vw W (w.heap.size+1) n:=by
  have:=vw.new (w.alloc (.cells #[.int .i64 m.a,.int .i64 m.b,.int .i64 m.c,.int .i64 m.d] 61)) n 61;rw [hW] at this;simpa using this
 obtain ⟨d0,d1,d2,d3⟩:=hm;obtain ⟨e0,e1,e2,e3⟩:=hn;have HC:=hid (qcw m n);generalize jae m n=r at *;unfold moV
 by_cases h3:m.d=n.d
 · by_cases h2:m.c=n.c
   · by_cases h1:m.b=n.b
     · by_cases h0:m.a=n.a
       · have HR:Hid (r=0):=by
          have:r=0:=by rw [HC.out,if_neg (fun h=>h h3),if_neg (fun h=>h h2),if_neg (fun h=>h h1),h0,vcm]
          exact this
         have z3:xh m.d n.d=0:=uz h3;have z2:xh m.c n.c=0:=uz h2;have z1:xh m.b n.b=0:=uz h1;have z0:xh m.a n.a=0:=uz h0;clear h3 h2 h1 h0;go_enter Tryz.func77,Tryz.ntmps77;go_wp2_with fail;refine wp_loop_rounds 5 ?_;rw [rounds_succ];go_wp2_with fail
         go_region_held3 (fun W'=>W'=W.drew) (first | rfl | assumption) ((go_at_call 104; refine (jr _ _ _).mono ?_; rintro e v1 ⟨rfl,aU⟩))
         all_goals
          subst aU;go_wp2_with fail;rw [rounds_succ];go_wp2_with fail
          go_region_held3 (fun W'=>W'=W.drew.drew) (first | rfl | assumption) ((go_at_call 104; refine (jr _ _ _).mono ?_; rintro e v1 ⟨rfl,aU⟩))
          all_goals
           subst aU;go_wp2_with fail;rw [rounds_succ];go_wp2_with fail
           go_region_held3 (fun W'=>W'=W.drew.drew.drew) (first | rfl | assumption) ((go_at_call 104; refine (jr _ _ _).mono ?_; rintro e v1 ⟨rfl,aU⟩))
           all_goals
            subst aU;go_wp2_with fail;rw [rounds_succ];go_wp2_with fail
            go_region_held3 (fun W'=>W'=W.drew.drew.drew.drew) (first | rfl | assumption) ((go_at_call 104; refine (jr _ _ _).mono ?_; rintro e v1 ⟨rfl,aU⟩))
            all_goals
             subst aU;go_wp2_with fail;rw [rounds_succ];go_wp2_with fail;go_ret;exact ⟨by rw [HR.out]; rfl,SC.out 4⟩
       · have HR:Hid (r=xh m.a n.a):=by
          have:r=xh m.a n.a:=by rw [HC.out,if_neg (fun h=>h h3),if_neg (fun h=>h h2),if_neg (fun h=>h h1)]
          exact this
         have q0:=zaz h0;have z3:xh m.d n.d=0:=uz h3;have z2:xh m.c n.c=0:=uz h2;have z1:xh m.b n.b=0:=uz h1;clear h3 h2 h1;go_enter Tryz.func77,Tryz.ntmps77;go_wp2_with fail;refine wp_loop_rounds 4 ?_;rw [rounds_succ];go_wp2_with fail
         go_region_held3 (fun W'=>W'=W.drew) (first | rfl | assumption) ((go_at_call 104; refine (jr _ _ _).mono ?_; rintro e v1 ⟨rfl,aU⟩))
         all_goals
          subst aU;go_wp2_with fail;rw [rounds_succ];go_wp2_with fail
          go_region_held3 (fun W'=>W'=W.drew.drew) (first | rfl | assumption) ((go_at_call 104; refine (jr _ _ _).mono ?_; rintro e v1 ⟨rfl,aU⟩))
          all_goals
           subst aU;go_wp2_with fail;rw [rounds_succ];go_wp2_with fail
           go_region_held3 (fun W'=>W'=W.drew.drew.drew) (first | rfl | assumption) ((go_at_call 104; refine (jr _ _ _).mono ?_; rintro e v1 ⟨rfl,aU⟩))
           all_goals
            subst aU;go_wp2_with fail;rw [rounds_succ];go_wp2_with fail
            go_region_held3 (fun W'=>W'=W.drew.drew.drew.drew) (first | rfl | assumption) ((go_at_call 104; refine (jr _ _ _).mono ?_; rintro e v1 ⟨rfl,aU⟩))
            all_goals
             subst aU;go_wp2_with fail;go_ret;exact ⟨by rw [HR.out]; rfl,SC.out 4⟩
     · have HR:Hid (r=xh m.b n.b):=by
        have:r=xh m.b n.b:=by rw [HC.out,if_neg (fun h=>h h3),if_neg (fun h=>h h2),if_pos h1]
        exact this
       have q1:=zaz h1;have z3:xh m.d n.d=0:=uz h3;have z2:xh m.c n.c=0:=uz h2;clear h3 h2;go_enter Tryz.func77,Tryz.ntmps77;go_wp2_with fail;refine wp_loop_rounds 3 ?_;rw [rounds_succ];go_wp2_with fail
       go_region_held3 (fun W'=>W'=W.drew) (first | rfl | assumption) ((go_at_call 104; refine (jr _ _ _).mono ?_; rintro e v1 ⟨rfl,aU⟩))
       all_goals
        subst aU;go_wp2_with fail;rw [rounds_succ];go_wp2_with fail
        go_region_held3 (fun W'=>W'=W.drew.drew) (first | rfl | assumption) ((go_at_call 104; refine (jr _ _ _).mono ?_; rintro e v1 ⟨rfl,aU⟩))
        all_goals
         subst aU;go_wp2_with fail;rw [rounds_succ];go_wp2_with fail
         go_region_held3 (fun W'=>W'=W.drew.drew.drew) (first | rfl | assumption) ((go_at_call 104; refine (jr _ _ _).mono ?_; rintro e v1 ⟨rfl,aU⟩))
         all_goals
          subst aU;go_wp2_with fail;go_ret;exact ⟨by rw [HR.out]; rfl,SC.out 3⟩
   · have HR:Hid (r=xh m.c n.c):=by
      have:r=xh m.c n.c:=by rw [HC.out,if_neg (fun h=>h h3),if_pos h2]
      exact this
     have q2:=zaz h2;have z3:xh m.d n.d=0:=uz h3;clear h3;go_enter Tryz.func77,Tryz.ntmps77;go_wp2_with fail;refine wp_loop_rounds 2 ?_;rw [rounds_succ];go_wp2_with fail
     go_region_held3 (fun W'=>W'=W.drew) (first | rfl | assumption) ((go_at_call 104; refine (jr _ _ _).mono ?_; rintro e v1 ⟨rfl,aU⟩))
     all_goals
      subst aU;go_wp2_with fail;rw [rounds_succ];go_wp2_with fail
      go_region_held3 (fun W'=>W'=W.drew.drew) (first | rfl | assumption) ((go_at_call 104; refine (jr _ _ _).mono ?_; rintro e v1 ⟨rfl,aU⟩))
      all_goals
       subst aU;go_wp2_with fail;go_ret;exact ⟨by rw [HR.out]; rfl,SC.out 2⟩
 · have HR:Hid (r=xh m.d n.d):=by
    have:r=xh m.d n.d:=by rw [HC.out,if_pos h3]
    exact this
   have q3:=zaz h3;go_enter Tryz.func77,Tryz.ntmps77;go_wp2_with fail;refine wp_loop_rounds 1 ?_;rw [rounds_succ];go_wp2_with fail
   go_region_held3 (fun W'=>W'=W.drew) (first | rfl | assumption) ((go_at_call 104; refine (jr _ _ _).mono ?_; rintro e v1 ⟨rfl,aU⟩))
   all_goals
    subst aU;go_wp2_with fail;go_ret;exact ⟨by rw [HR.out]; rfl,SC.out 1⟩
end Go.Proofs.YtcepajijiabkmaaGreat
