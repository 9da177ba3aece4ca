/- Layer 22: recpoly.copyOf. -/
import Derived.Test.YtklnlgnnlmdibaaGreatMr8
import Derived.Sort.Grow
set_option linter.unusedSimpArgs false
set_option linter.unusedVariables false
set_option maxRecDepth 100000
set_option maxHeartbeats 8000000
namespace Go.Proofs.YtklnlgnnlmdibaaGreat
open Go.RowKit
def jcn (w0:World) (q:Nat->Prop) (n:Nat):Prop:=∀ (p:Pl) (v:Value) (w:World),p.sz < n->p.Can->p.sz<=1099511627776->p.dm<=35184372088832->PlV w0 q p v->Ext w0 w->Calls Tryz.prog 43 #[v] w (jf (fun b=>w.heap.size<=b) p w)
theorem ub4 {w0 w:World} {q:Nat->Prop} (p:Pl) (v:Value) (hcan:p.Can) (hdm:p.dm<=35184372088832) (h:PlV w0 q p v) (hx0:Ext w0 w) (hl:p.lv=0):Calls Tryz.prog 43 #[v] w (jf (fun b=>w.heap.size<=b) p w):=by
 have hds:=p.dm_ds;obtain ⟨A0,n0,c0,A,c,rfl,hnat,hl1,hl2,h4⟩:=h.open_;obtain ⟨l,ng,ds,cs⟩:=p
 change l=0 at hl
 subst hl;simp only [Pl.cs,Pl.ds,Pl.lv,Pl.neg,plV] at *;have hc2:cs=[]/\ds=dg (val ds)/\(ds=[]->ng=false):=by
  unfold Pl.Can at hcan;rcases hcan with h | h
  · exact h.2
  · omega
 obtain ⟨rfl,hdg,hng⟩:=hc2;have hngz:ng=decide (sgn ng (val ds) < 0):=by
  rw [gaz,<- hdg];cases ng
  · rfl
  · have:0 < ds.length:=List.length_pos_iff.2 (fun e=>by have:=hng e; cases this);simp [this]
 have HNG:=Lib.hid hngz;have HDG:=Lib.hid hdg;obtain ⟨W,hW⟩:∃ W,(w.alloc (.cells #[.int .i64 0,.bool ng,.slice A0 n0 c0,.slice A ([]:List Pl).length c] 35)).alloc (.cells #[.int .i64 0,.bool false,.slice none 0 0,.slice none 0 0] 35)=W:=⟨_,rfl⟩;have hWx:Ext w W:=by rw [<- hW]; exact ((Ext.refl w).alloc _).alloc _
 have hWs:W.heap.size=w.heap.size+1+1:=by rw [<- hW]; simp
 have hz:yf W (w.heap.size+1):=by
  have:=yf.new (w.alloc (.cells #[.int .i64 0,.bool ng,.slice A0 n0 c0,.slice A ([]:List Pl).length c] 35)) 35;rw [hW] at this;simpa using this
 have HNAT:=Lib.hid (hnat.ext (hx0.trans hWx));have HWX:=Lib.hid hWx;have HZ:=Lib.hid hz;clear h h4 hnat hx0 hcan hng hdg hngz hWx hz;go_enter Tryz.func43,Tryz.ntmps43;go_wp2_with fail;rw [List.length_nil] at hW;rw [hW];clear hW;refine (vai _ (sgn ng (val ds)) ds.length W ⟨ng,_,ds,rfl,HNAT.out,rfl,Nat.le_refl _⟩ (by omega)).mono ?_;rintro e w1 ⟨x,rfl,⟨v1,rfl,hv1⟩,x1⟩;rw [zq,<- HDG.out] at hv1;rw [<- HNG.out];obtain ⟨⟨z0,z1,z2,z3⟩,zf⟩:=HZ.out.ext x1 (by omega);have hws:=x1.size;have HF:Hid (∀ A' n' c',v1=.slice A' n' c'->jf (fun b=>w.heap.size<=b) (.mk 0 ng ds []) w (.returned (plV (.mk 0 ng ds []) (.slice A' n' c') (.slice none 0 0))) ((((w1.setCell ⟨w.heap.size+1,0,none⟩ (.int .i64 0)).setCell ⟨w.heap.size+1,1,none⟩ (.bool ng)).setCell ⟨w.heap.size+1,2,none⟩ (.slice A' n' c')).setCell ⟨w.heap.size+1,3,none⟩ (.slice none 0 0))):=by
  intro A' n' c' e;subst e;exact yg (p:=.mk 0 ng ds []) (q:=fun _=>False) (HWX.out.trans x1) (by omega) (HZ.out.ext x1 (by omega)) (PlV.mk (t:=.mk 0 ng ds []) hv1 (Nat.le_refl _) (by simp [Pl.cs]) (by unfold Pl.cs jd; trivial)) (fun b _ h=>h.elim)
 obtain ⟨A1,d1,rfl,-⟩:=hv1;have HF2:=Lib.hid (HF.out _ _ _ rfl);clear HF x1 HZ;go_wp2_with fail;exact bodyPost_ret (v:=plV (.mk 0 ng ds []) (.slice A1 ds.length d1) (.slice none 0 0)) (by simp [results,Tryz.results43,go_sem,z0,z1,z2,z3,plV,Pl.lv,Pl.neg]) rfl HF2.out
theorem jcj (w0:World) (q:Nat->Prop) (n:Nat):jcn w0 q n:=by
 induction n with
 | zero=>intro p v w h; omega
 | succ n ih =>
 intro p v w hn hcan hbig hdm h hx0
 by_cases hl:p.lv=0
 · exact ub4 p v hcan hdm h hx0 hl
 obtain ⟨A0,n0,c0,A,c,rfl,hnat,hl1,hl2,h4⟩:=h.open_;obtain ⟨l,ng,ds,cs⟩:=p;simp only [Pl.cs,Pl.ds,Pl.lv,Pl.neg,plV] at *;have hk:=hcan.kids (by have:=hcan.lv_nonneg.1; simp only [Pl.lv] at this; omega);obtain ⟨rfl,rfl,hlen,hcs,-⟩:=hk;have hszp:(Pl.mk l false [] cs).sz=uj cs+1:=by rw [Pl.sz]
 have hdmp:ku cs<=(Pl.mk l false [] cs).dm:=by rw [Pl.dm]; exact Nat.le_max_right _ _
 have hlb:=xab cs;have IH:=Lib.hid ih;have H4:=Lib.hid h4;have HX0:=Lib.hid hx0;have HSZ:Hid (∀ k (hk:k < cs.length),cs[k].sz < n/\cs[k].Can/\cs[k].sz<=1099511627776/\cs[k].dm<=35184372088832):=by
  have:∀ k (hk:k < cs.length),cs[k].sz < n/\cs[k].Can/\cs[k].sz<=1099511627776/\cs[k].dm<=35184372088832:=fun k hk=>by
   have h1:=uag (List.getElem_mem hk);have h2:=vaj (List.getElem_mem hk);exact ⟨by omega,(hcs.mem _ (List.getElem_mem hk)).2,by omega,by omega⟩
  exact this
 have hlz:(l == 0)=false:=by simpa using hl
 have hcb:cs.length<=1099511627776:=by omega
 clear h h4 ih hx0 hnat hcan hcs hdmp hdm hlb;obtain ⟨W,hW⟩:∃ W,(w.alloc (.cells #[.int .i64 l,.bool false,.slice A0 n0 c0,.slice A cs.length c] 35)).alloc (.cells #[.int .i64 0,.bool false,.slice none 0 0,.slice none 0 0] 35)=W:=⟨_,rfl⟩;have hWx:Ext w W:=by rw [<- hW]; exact ((Ext.refl w).alloc _).alloc _
 have hWs:W.heap.size=w.heap.size+1+1:=by rw [<- hW]; simp
 have hbx:jb W w.heap.size (.mk l false [] cs) (.slice A0 n0 c0) (.slice A cs.length c):=by rw [<- hW]; exact (jb.new w (.mk l false [] cs) _ _ _).ext ((Ext.refl _).alloc _) (by simp)
 have hz:yf W (w.heap.size+1):=by
  have:=yf.new (w.alloc (.cells #[.int .i64 l,.bool false,.slice A0 n0 c0,.slice A cs.length c] 35)) 35;rw [hW] at this;simpa using this
 obtain ⟨V,hmk,hVx,hVs,hrow⟩:=wz (cs.length:Int) (by omega) (by omega) W;rw [Int.toNat_natCast] at hmk hrow;have HWX:=Lib.hid hWx;have HVX:=Lib.hid hVx;have hrow0:=hrow (fun b=>w.heap.size+1+1<=b);rw [hWs] at hmk hrow0;have HROW:=Lib.hid hrow0;have HBX:=Lib.hid hbx;have HZ:=Lib.hid hz;obtain ⟨b0,b1,b2,b3⟩:=id hbx;obtain ⟨d0,d1,d2,d3⟩:=hbx.ext hVx (by omega);simp only [Pl.lv,Pl.neg] at b0 b1 d0 d1;clear hWx hVx hrow hrow0 hbx hz;go_enter Tryz.func43,Tryz.ntmps43;go_wp2_with fail;clear hW hmk b0 b1 b2 b3 d0 d1 d2 d3
 go_loopw [20] (fun iv wr=>∃ k:Nat,k<=cs.length/\iv=.int .i64 k/\Hid ((∃ L:List Pl,L.length=cs.length/\L.take k=cs.take k/\jh wr (fun b=>w.heap.size+1+1<=b) (w.heap.size+1+1) L)/\Ext W wr)) (fun iv _=>cs.length - (intOf iv).toNat)
 case atStart=>exact ⟨0,Nat.zero_le _,rfl,⟨⟨_,List.length_replicate,by simp,HROW.out⟩,HVX.out⟩⟩
 case round =>
  obtain ⟨k,hk,rfl,⟨⟨L,hLl,hLt,hrow⟩,hx⟩⟩:=hrel;have HX:=Lib.hid hx;have HROWk:=Lib.hid hrow;have HLT:=Lib.hid hLt;obtain ⟨b0,b1,b2,b3⟩:=HBX.out.ext hx (by omega);simp only [Pl.lv,Pl.neg] at b0 b1;have hRlt:w.heap.size+1+1 < wr.heap.size:=hrow.1;clear hx hrow hLt HVX HROW
  by_cases hlt:k < cs.length
  · obtain ⟨ad,B0,m0,e0,B1,m1,e1,rfl,hadb,hnd,hkt⟩:=jd.kid H4.out k hlt;have hxx:Ext w0 wr:=(HX0.out.trans HWX.out).trans HX.out;obtain ⟨a0,a1,a2,a3⟩:=hnd.ext hxx (by rw [ja]; exact hadb);obtain ⟨hsz1,hsz2,hsz3,hsz4⟩:=HSZ.out k hlt;have HC:=Lib.hid (fun W' (hxW:Ext wr W')=>IH.out cs[k] _ W' hsz1 hsz2 hsz3 hsz4 hkt (hxx.trans hxW));have HSET:Hid ((L.set k cs[k]).take (k+1)=cs.take (k+1)):=vad L cs k HLT.out (by omega) hlt;generalize cs[k]=ck at *;clear hnd hkt hadb hsz1 hsz2 hsz3 hsz4 hxx HLT;go_wp2_with fail;refine (HC.out _ ((Ext.refl _).alloc _)).mono ?_;rintro e w2 ⟨v2,rfl,p2,x2⟩;have x2':Ext wr w2:=((Ext.refl wr).alloc _).trans x2;obtain ⟨C0,j0,f0,C1,f1,rfl,-⟩:=id p2.open_;have hr2:=HROWk.out.ext x2';obtain ⟨D0,n2,g0,D1,n3,g1,⟨r0,r1,r2,r3⟩,-⟩:=hr2.2.2 k (by omega);have hfr:=hr2.2.1;have hst:=(hr2.set_ k (by omega) ck (p2.mono fun b hb=>by
     have hb':wr.heap.size+1<=b:=by simpa using hb
     exact ⟨by omega,by omega⟩)).1
    simp only at r0 r1 r2 r3;have HST:=Lib.hid hst;have X2:=Lib.hid (HX.out.trans x2');unfold plV;clear hr2 hst p2 x2 x2' HC HROWk a0 a1 a2 a3 b0 b1 b2 b3;go_wp2_with fail
    go_roundw
    case rel=>exact ⟨k+1,by omega,by go_num,⟨_,by rw [List.length_set]; exact hLl,HSET.out,HST.out⟩,(((X2.out.setCell (by show W.heap.size<=w.heap.size+1+1; omega) _).setCell (by show W.heap.size<=w.heap.size+1+1; omega) _).setCell (by show W.heap.size<=w.heap.size+1+1; omega) _).setCell (by show W.heap.size<=w.heap.size+1+1; omega) _⟩
    case measure=>simp [intOf]; omega
  · have hke:k=cs.length:=by omega
    have hLe:L=cs:=by
     have h:=HLT.out;rw [hke,List.take_length,<- hLl,List.take_length] at h;exact h
    obtain ⟨⟨z0,z1,z2,z3⟩,zf⟩:=HZ.out.ext HX.out (by omega);have hfin:=HROWk.out.fin (Nat.le_refl _);rw [hLe] at hfin;have HF:=Lib.hid (yg (p:=.mk l false [] cs) (q':=fun b=>w.heap.size<=b) (HWX.out.trans HX.out) (Nat.le_succ _) (HZ.out.ext HX.out (by omega)) (PlV.mk (t:=.mk l false [] cs) (c:=cs.length) (jc.nil _) (Nat.le_refl _) (by omega) hfin) (fun b _ hb=>⟨by omega,by omega⟩));clear hfin HROWk HLT hLe HZ;go_wp2_with fail;exact bodyPost_ret (v:=plV (.mk l false [] cs) (.slice none 0 0) (.slice (some ⟨w.heap.size+1+1,0,none⟩) cs.length cs.length)) (by simp [results,Tryz.results43,go_sem,z0,z1,z2,z3,plV,Pl.lv,Pl.neg]) rfl HF.out
theorem qad {w:World} {q:Nat->Prop} (p:Pl) (v:Value) (hcan:p.Can) (hsz:p.sz<=1099511627776) (hdm:p.dm<=35184372088832) (h:PlV w q p v):Calls Tryz.prog 43 #[v] w (jf (fun b=>w.heap.size<=b) p w):=
 jcj w q (p.sz+1) p v w (Nat.lt_succ_self _) hcan hsz hdm h (Ext.refl w)
/- Layer 20: sparse.negative, cmp.Compare, sparse.CompareMono. -/
set_option maxRecDepth 100000
set_option maxHeartbeats 8000000
open Go.Sort
theorem vcb (a b c d:Int) (w:World):(Instr.index 75 (.agg #[.int .i64 a,.int .i64 b,.int .i64 c,.int .i64 d]) (.int .i64 0)).run Tryz.prog w=.ok (.int .i64 a) w/\(Instr.index 75 (.agg #[.int .i64 a,.int .i64 b,.int .i64 c,.int .i64 d]) (.int .i64 1)).run Tryz.prog w=.ok (.int .i64 b) w/\(Instr.index 75 (.agg #[.int .i64 a,.int .i64 b,.int .i64 c,.int .i64 d]) (.int .i64 2)).run Tryz.prog w=.ok (.int .i64 c) w/\(Instr.index 75 (.agg #[.int .i64 a,.int .i64 b,.int .i64 c,.int .i64 d]) (.int .i64 3)).run Tryz.prog w=.ok (.int .i64 d) w:=
 ⟨by kernel_rfl,by kernel_rfl,by kernel_rfl,by kernel_rfl⟩
theorem yao (m:Mo) (w:World):Calls Tryz.prog 100 #[moV m] w fun e w'=>e=.returned (.bool (decide (¬ m.nonneg)))/\Ext w w':=by
 have HX:Hid (∀ o,Ext w (w.alloc o)):=fun o=>(Ext.refl w).alloc o
 obtain ⟨W,hW⟩:∃ W,w.alloc (.cells #[.int .i64 m.a,.int .i64 m.b,.int .i64 m.c,.int .i64 m.d] 75)=W:=⟨_,rfl⟩;have HWX:Hid (Ext w W):=by
  have:Ext w W:=by rw [<- hW]; exact HX.out _
  exact this
 obtain ⟨d0,d1,d2,d3⟩:ut W w.heap.size m:=by rw [<- hW]; exact ut.new w m _
 obtain ⟨i0,i1,i2,i3⟩:=vcb m.a m.b m.c m.d W;unfold moV
 by_cases h0:m.a < 0
 · have HR:Hid (decide (¬ m.nonneg)=true):=by
    have:decide (¬ m.nonneg)=true:=decide_eq_true (by unfold Mo.nonneg; omega);exact this
   have q0:decide (m.a < 0)=true:=decide_eq_true h0;go_enter Tryz.func100,Tryz.ntmps100;go_wp2_with fail;refine wp_loop_rounds 1 ?_;rw [rounds_succ];go_wp2_with fail;go_ret;exact ⟨by rw [HR.out]; rfl,HWX.out⟩
 · have q0:decide (m.a < 0)=false:=decide_eq_false h0
   by_cases h1:m.b < 0
   · have HR:Hid (decide (¬ m.nonneg)=true):=by
      have:decide (¬ m.nonneg)=true:=decide_eq_true (by unfold Mo.nonneg; omega);exact this
     have q1:decide (m.b < 0)=true:=decide_eq_true h1;go_enter Tryz.func100,Tryz.ntmps100;go_wp2_with fail;refine wp_loop_rounds 2 ?_;rw [rounds_succ];go_wp2_with fail;rw [rounds_succ];go_wp2_with fail;go_ret;exact ⟨by rw [HR.out]; rfl,HWX.out⟩
   · have q1:decide (m.b < 0)=false:=decide_eq_false h1
     by_cases h2:m.c < 0
     · have HR:Hid (decide (¬ m.nonneg)=true):=by
        have:decide (¬ m.nonneg)=true:=decide_eq_true (by unfold Mo.nonneg; omega);exact this
       have q2:decide (m.c < 0)=true:=decide_eq_true h2;go_enter Tryz.func100,Tryz.ntmps100;go_wp2_with fail;refine wp_loop_rounds 3 ?_;rw [rounds_succ];go_wp2_with fail;rw [rounds_succ];go_wp2_with fail;rw [rounds_succ];go_wp2_with fail;go_ret;exact ⟨by rw [HR.out]; rfl,HWX.out⟩
     · have q2:decide (m.c < 0)=false:=decide_eq_false h2
       by_cases h3:m.d < 0
       · have HR:Hid (decide (¬ m.nonneg)=true):=by
          have:decide (¬ m.nonneg)=true:=decide_eq_true (by unfold Mo.nonneg; omega);exact this
         have q3:decide (m.d < 0)=true:=decide_eq_true h3;go_enter Tryz.func100,Tryz.ntmps100;go_wp2_with fail;refine wp_loop_rounds 4 ?_;rw [rounds_succ];go_wp2_with fail;rw [rounds_succ];go_wp2_with fail;rw [rounds_succ];go_wp2_with fail;rw [rounds_succ];go_wp2_with fail;go_ret;exact ⟨by rw [HR.out]; rfl,HWX.out⟩
       · have HR:Hid (decide (¬ m.nonneg)=false):=by
          have:decide (¬ m.nonneg)=false:=decide_eq_false (by unfold Mo.nonneg; omega);exact this
         have q3:decide (m.d < 0)=false:=decide_eq_false h3;go_enter Tryz.func100,Tryz.ntmps100;go_wp2_with fail;refine wp_loop_rounds 5 ?_;rw [rounds_succ];go_wp2_with fail;rw [rounds_succ];go_wp2_with fail;rw [rounds_succ];go_wp2_with fail;rw [rounds_succ];go_wp2_with fail;rw [rounds_succ];go_wp2_with fail;go_ret;exact ⟨by rw [HR.out]; rfl,HWX.out⟩
theorem wag (a:Int) (w:World):Calls Tryz.prog 138 #[.int .i64 a] w fun e w'=>e=.returned (.bool false)/\w'=w:=by
 go_enter Tryz.func138,Tryz.ntmps138;go_wp2_with fail;go_ret;simp
theorem zo (a b:Int) (w:World):Calls Tryz.prog 121 #[.int .i64 a,.int .i64 b] w fun e w'=>e=.returned (.int .i64 (zh a b))/\w'=w:=by
 rcases Int.lt_trichotomy a b with h | h | h
 · have q1:decide (a < b)=true:=decide_eq_true h;have HR:=Lib.hid (wac h);go_enter Tryz.func121,Tryz.ntmps121;go_wp2_with fail;refine (wag _ _).mono ?_;rintro e w1 ⟨rfl,rfl⟩;go_wp2_with fail;refine (wag _ _).mono ?_;rintro e w1 ⟨rfl,rfl⟩;go_wp2_with fail;go_ret;exact ⟨by rw [HR.out]; rfl,rfl⟩
 · have q1:decide (a < b)=false:=decide_eq_false (by omega);have q2:decide (a > b)=false:=decide_eq_false (by omega);have HR:=Lib.hid (ww h);go_enter Tryz.func121,Tryz.ntmps121;go_wp2_with fail;refine (wag _ _).mono ?_;rintro e w1 ⟨rfl,rfl⟩;go_wp2_with fail;refine (wag _ _).mono ?_;rintro e w1 ⟨rfl,rfl⟩;go_wp2_with fail;go_ret;exact ⟨by rw [HR.out]; rfl,rfl⟩
 · have q1:decide (a < b)=false:=decide_eq_false (by omega);have q2:decide (a > b)=true:=decide_eq_true (by omega);have HR:=Lib.hid (qak h);go_enter Tryz.func121,Tryz.ntmps121;go_wp2_with fail;refine (wag _ _).mono ?_;rintro e w1 ⟨rfl,rfl⟩;go_wp2_with fail;refine (wag _ _).mono ?_;rintro e w1 ⟨rfl,rfl⟩;go_wp2_with fail;go_ret;exact ⟨by rw [HR.out]; rfl,rfl⟩
def yav (m n:Mo):Int:=if m.lt n then -1 else if n.lt m then 1 else 0
theorem ycd (m n:Mo):yav m n=if m.d ≠ n.d then zh m.d n.d else if m.c ≠ n.c then zh m.c n.c else if m.b ≠ n.b then zh m.b n.b else zh m.a n.a:=by
 unfold yav zh Mo.lt
 repeat' split
 all_goals first | rfl | omega
theorem qas {a b:Int} (h:a ≠ b):(zh a b != 0)=true:=by
 unfold zh; split
 · rfl
 · split
   · rfl
   · omega
theorem gb4 (a:Int):zh a a=0:=ww rfl
theorem va7 (m n:Mo) (w:World):Calls Tryz.prog 94 #[moV m,moV n] w fun e w'=>e=.returned (.int .i64 (yav m n))/\∃ q os,w'=grow (w.drewN q) os:=by
 have HG:Hid (∀ o o' q,∃ q' os,(((w.alloc o).alloc o').drewN q)=grow (w.drewN q') os):=fun o o' q=>⟨q,#[o] ++ #[o'],by rw [alloc_eq_grow,alloc_eq_grow,grow_grow]; rfl⟩
 obtain ⟨W,hW⟩:∃ W,(w.alloc (.cells #[.int .i64 m.a,.int .i64 m.b,.int .i64 m.c,.int .i64 m.d] 75)).alloc (.cells #[.int .i64 n.a,.int .i64 n.b,.int .i64 n.c,.int .i64 n.d] 75)=W:=⟨_,rfl⟩;have HGW:Hid (∀ q,∃ q' os,W.drewN q=grow (w.drewN q') os):=fun q=>by rw [<- hW]; exact HG.out _ _ q
 have hm:ut W w.heap.size m:=by rw [<- hW]; exact (ut.new w m _).ext ((Ext.refl _).alloc _) (by simp)
 have hn:ut W (w.heap.size+1) n:=by
  have:=ut.new (w.alloc (.cells #[.int .i64 m.a,.int .i64 m.b,.int .i64 m.c,.int .i64 m.d] 75)) n 75;rw [hW] at this;simpa using this
 obtain ⟨d0,d1,d2,d3⟩:=hm;obtain ⟨e0,e1,e2,e3⟩:=hn;have HC:=Lib.hid (ycd m n);generalize yav m n=r at *;unfold moV
 by_cases h3:m.d=n.d
 · by_cases h2:m.c=n.c
   · by_cases h1:m.b=n.b
     · by_cases h0:m.a=n.a
       · have HR:Hid (r=0):=by
          have:r=0:=by rw [HC.out,if_neg (fun h=>h h3),if_neg (fun h=>h h2),if_neg (fun h=>h h1),h0,gb4]
          exact this
         have z3:zh m.d n.d=0:=ww h3;have z2:zh m.c n.c=0:=ww h2;have z1:zh m.b n.b=0:=ww h1;have z0:zh m.a n.a=0:=ww h0;clear h3 h2 h1 h0;go_enter Tryz.func94,Tryz.ntmps94;go_wp2_with fail;refine wp_loop_rounds 5 ?_;rw [rounds_succ];go_wp2_with fail
         go_region_held3 (fun W'=>W'=W.drew) (first | rfl | assumption) ((go_at_call 121; refine (zo _ _ _).mono ?_; rintro e v1 ⟨rfl,hv1⟩))
         all_goals
          subst hv1;go_wp2_with fail;rw [rounds_succ];go_wp2_with fail
          go_region_held3 (fun W'=>W'=W.drew.drew) (first | rfl | assumption) ((go_at_call 121; refine (zo _ _ _).mono ?_; rintro e v1 ⟨rfl,hv1⟩))
          all_goals
           subst hv1;go_wp2_with fail;rw [rounds_succ];go_wp2_with fail
           go_region_held3 (fun W'=>W'=W.drew.drew.drew) (first | rfl | assumption) ((go_at_call 121; refine (zo _ _ _).mono ?_; rintro e v1 ⟨rfl,hv1⟩))
           all_goals
            subst hv1;go_wp2_with fail;rw [rounds_succ];go_wp2_with fail
            go_region_held3 (fun W'=>W'=W.drew.drew.drew.drew) (first | rfl | assumption) ((go_at_call 121; refine (zo _ _ _).mono ?_; rintro e v1 ⟨rfl,hv1⟩))
            all_goals
             subst hv1;go_wp2_with fail;rw [rounds_succ];go_wp2_with fail;go_ret;exact ⟨by rw [HR.out]; rfl,HGW.out 4⟩
       · have HR:Hid (r=zh m.a n.a):=by
          have:r=zh m.a n.a:=by rw [HC.out,if_neg (fun h=>h h3),if_neg (fun h=>h h2),if_neg (fun h=>h h1)]
          exact this
         have q0:=qas h0;have z3:zh m.d n.d=0:=ww h3;have z2:zh m.c n.c=0:=ww h2;have z1:zh m.b n.b=0:=ww h1;clear h3 h2 h1;go_enter Tryz.func94,Tryz.ntmps94;go_wp2_with fail;refine wp_loop_rounds 4 ?_;rw [rounds_succ];go_wp2_with fail
         go_region_held3 (fun W'=>W'=W.drew) (first | rfl | assumption) ((go_at_call 121; refine (zo _ _ _).mono ?_; rintro e v1 ⟨rfl,hv1⟩))
         all_goals
          subst hv1;go_wp2_with fail;rw [rounds_succ];go_wp2_with fail
          go_region_held3 (fun W'=>W'=W.drew.drew) (first | rfl | assumption) ((go_at_call 121; refine (zo _ _ _).mono ?_; rintro e v1 ⟨rfl,hv1⟩))
          all_goals
           subst hv1;go_wp2_with fail;rw [rounds_succ];go_wp2_with fail
           go_region_held3 (fun W'=>W'=W.drew.drew.drew) (first | rfl | assumption) ((go_at_call 121; refine (zo _ _ _).mono ?_; rintro e v1 ⟨rfl,hv1⟩))
           all_goals
            subst hv1;go_wp2_with fail;rw [rounds_succ];go_wp2_with fail
            go_region_held3 (fun W'=>W'=W.drew.drew.drew.drew) (first | rfl | assumption) ((go_at_call 121; refine (zo _ _ _).mono ?_; rintro e v1 ⟨rfl,hv1⟩))
            all_goals
             subst hv1;go_wp2_with fail;go_ret;exact ⟨by rw [HR.out]; rfl,HGW.out 4⟩
     · have HR:Hid (r=zh m.b n.b):=by
        have:r=zh m.b n.b:=by rw [HC.out,if_neg (fun h=>h h3),if_neg (fun h=>h h2),if_pos h1]
        exact this
       have q1:=qas h1;have z3:zh m.d n.d=0:=ww h3;have z2:zh m.c n.c=0:=ww h2;clear h3 h2;go_enter Tryz.func94,Tryz.ntmps94;go_wp2_with fail;refine wp_loop_rounds 3 ?_;rw [rounds_succ];go_wp2_with fail
       go_region_held3 (fun W'=>W'=W.drew) (first | rfl | assumption) ((go_at_call 121; refine (zo _ _ _).mono ?_; rintro e v1 ⟨rfl,hv1⟩))
       all_goals
        subst hv1;go_wp2_with fail;rw [rounds_succ];go_wp2_with fail
        go_region_held3 (fun W'=>W'=W.drew.drew) (first | rfl | assumption) ((go_at_call 121; refine (zo _ _ _).mono ?_; rintro e v1 ⟨rfl,hv1⟩))
        all_goals
         subst hv1;go_wp2_with fail;rw [rounds_succ];go_wp2_with fail
         go_region_held3 (fun W'=>W'=W.drew.drew.drew) (first | rfl | assumption) ((go_at_call 121; refine (zo _ _ _).mono ?_; rintro e v1 ⟨rfl,hv1⟩))
         all_goals
          subst hv1;go_wp2_with fail;go_ret;exact ⟨by rw [HR.out]; rfl,HGW.out 3⟩
   · have HR:Hid (r=zh m.c n.c):=by
      have:r=zh m.c n.c:=by rw [HC.out,if_neg (fun h=>h h3),if_pos h2]
      exact this
     have q2:=qas h2;have z3:zh m.d n.d=0:=ww h3;clear h3;go_enter Tryz.func94,Tryz.ntmps94;go_wp2_with fail;refine wp_loop_rounds 2 ?_;rw [rounds_succ];go_wp2_with fail
     go_region_held3 (fun W'=>W'=W.drew) (first | rfl | assumption) ((go_at_call 121; refine (zo _ _ _).mono ?_; rintro e v1 ⟨rfl,hv1⟩))
     all_goals
      subst hv1;go_wp2_with fail;rw [rounds_succ];go_wp2_with fail
      go_region_held3 (fun W'=>W'=W.drew.drew) (first | rfl | assumption) ((go_at_call 121; refine (zo _ _ _).mono ?_; rintro e v1 ⟨rfl,hv1⟩))
      all_goals
       subst hv1;go_wp2_with fail;go_ret;exact ⟨by rw [HR.out]; rfl,HGW.out 2⟩
 · have HR:Hid (r=zh m.d n.d):=by
    have:r=zh m.d n.d:=by rw [HC.out,if_pos h3]
    exact this
   have q3:=qas h3;go_enter Tryz.func94,Tryz.ntmps94;go_wp2_with fail;refine wp_loop_rounds 1 ?_;rw [rounds_succ];go_wp2_with fail
   go_region_held3 (fun W'=>W'=W.drew) (first | rfl | assumption) ((go_at_call 121; refine (zo _ _ _).mono ?_; rintro e v1 ⟨rfl,hv1⟩))
   all_goals
    subst hv1;go_wp2_with fail;go_ret;exact ⟨by rw [HR.out]; rfl,HGW.out 1⟩
end Go.Proofs.YtklnlgnnlmdibaaGreat
