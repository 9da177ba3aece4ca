/- Layer 22: recpoly.collect: the loop, once for each level; the whole. -/
import Derived.Test.YtopddaabiinboaaGreatMp12
set_option linter.unusedSimpArgs false
set_option linter.unusedVariables false
set_option maxRecDepth 100000
set_option maxHeartbeats 8000000
namespace Go.Proofs.YtopddaabiinboaaGreat
open Go.RowKit
theorem qh4 {w0 w:World} {q:Nat->Prop} {L n:Nat} (ih:uhl w0 q L n) (p:Pl) (v:Value) (m:Mo) (E:Int) (l:Sp) (tv:Value) (hn:p.sz < n+1) (hdm:p.dm<=L) (h:PlV w0 q p v) (hx0:Ext w0 w) (ht:TsV (some L) w0.heap.size w tv l) (hm:m.nonneg) (hE:m.le E) (hES:E+p.sz<=4611686018427387904) (hlen:l.length+p.sz<=1099511627776) (hl:p.lv=1):Calls Tryz.prog 55 #[tv,v,moV m] w (vgr (some L) w0.heap.size tv (l ++ p.terms m) w):=by
 have HTV:=Lib.hid ht;have HX0:=Lib.hid hx0;have IH:=Lib.hid ih;obtain ⟨A0,n0,c0,A,c,rfl,hnat,hl1,hl2,h4⟩:=h.open_;obtain ⟨lv,ng,ds,cs⟩:=p
 change lv=1 at hl
 subst hl;simp only [Pl.cs,Pl.ds,Pl.lv,Pl.neg,plV] at *;have hte:(Pl.mk 1 ng ds cs).terms m=gc2 m 1 (m.get 1) cs:=by rw [Pl.terms,if_neg (by omega),if_neg (by omega)]
 rw [hte];have hszp:(Pl.mk 1 ng ds cs).sz=kc5 cs+1:=by rw [Pl.sz]
 have hdmp:xdb cs<=(Pl.mk 1 ng ds cs).dm:=by rw [Pl.dm]; exact Nat.le_max_right _ _
 have H4:=Lib.hid h4;have hgm:0<=m.a/\m.a<=E:=⟨by unfold Mo.nonneg at hm; omega,by unfold Mo.le at hE; omega⟩;have hlb:=ude cs;have HARG:Hid (∀ k (hk:k < cs.length),cs[k].sz < n/\cs[k].dm<=L/\(m.put 1 (m.get 1+k)).nonneg/\(m.put 1 (m.get 1+k)).le (E+k)/\E+k+cs[k].sz<=4611686018427387904/\(l ++ gc2 m 1 (m.get 1) (cs.take k)).length+cs[k].sz<=1099511627776):=by
  have:∀ k (hk:k < cs.length),cs[k].sz < n/\cs[k].dm<=L/\(m.put 1 (m.get 1+k)).nonneg/\(m.put 1 (m.get 1+k)).le (E+k)/\E+k+cs[k].sz<=4611686018427387904/\(l ++ gc2 m 1 (m.get 1) (cs.take k)).length+cs[k].sz<=1099511627776:=fun k hk=>by
   have h1:=ygs (List.getElem_mem hk);have h2:=jg2 (List.getElem_mem hk);have h3:=xdj (cs.take k) m 1 (m.get 1);have h5:=kg3 cs k hk;have h6:=ude (cs.take k);rw [List.length_take] at h6;have hg:m.get 1=m.a:=rfl;exact ⟨by omega,by omega,Mo.put_nonneg hm (by omega),(hE.mono (by omega)).put _ _ (by omega),by omega,by rw [List.length_append]; omega⟩
  exact this
 obtain ⟨W,hW⟩:=n_m ((w.alloc (.cells #[.int .i64 1,.bool ng,.slice A0 n0 c0,.slice A cs.length c] 30)).alloc (.cells #[.int .i64 m.a,.int .i64 m.b,.int .i64 m.c,.int .i64 m.d] 114));have hWx:Ext w W:=by rw [<- hW]; exact ((Ext.refl w).alloc _).alloc _
 have hWs:W.heap.size=w.heap.size+1+1:=by rw [<- hW]; simp
 have hbx:yc3 W w.heap.size (.mk 1 ng ds cs) (.slice A0 n0 c0) (.slice A cs.length c):=by rw [<- hW]; exact (yc3.new w (.mk 1 ng ds cs) _ _ _).ext ((Ext.refl _).alloc _) (by simp)
 have hmx:vc9 W (w.heap.size+1) m:=by
  have:=vc9.new (w.alloc (.cells #[.int .i64 1,.bool ng,.slice A0 n0 c0,.slice A cs.length c] 30)) m 114;rw [hW] at this;simpa using this
 have hmf:∀ i,W.frozen? ⟨w.heap.size+1,i,none⟩=false:=fun i=>by rw [<- hW]; simp [go_sem]
 have HI0:Hid (udh w0 w L (.mk 1 ng ds cs) (.slice A0 n0 c0) (.slice A cs.length c) m tv l 0 tv W):=by
  refine ⟨?_,⟨m.get 1,?_⟩,hmf,hbx,⟨hWx.below.os,hWx.below.tape,hWx.below.output,hWx.size,fun i hi _=>hWx.below.block i hi⟩,fun v ds hv=>hv.ext hWx,.inl rfl,by omega⟩
  · simp only [Pl.cs,List.take_zero,gc2,List.append_nil]; exact ht.ext hWx
  · rw [show (Pl.mk 1 ng ds cs).lv=1 from rfl,Mo.put_get]; exact hmx
 obtain ⟨b0,b1,b2,b3⟩:=hbx;obtain ⟨d0,d1,d2,d3⟩:=hmx;simp only [Pl.lv,Pl.neg] at b0 b1;obtain ⟨At,ct,rfl,-,-⟩:=ht.len;have hcb:cs.length<=1099511627776:=by omega
 have HE:=Lib.hid hES;clear ht h hnat h4 hWx ih hx0 hm hE hte hdmp hlb hmf hdm;unfold moV;go_enter Tryz.func55,Tryz.ntmps55;go_wp2_with fail;clear hW b0 b1 b2 b3 d0 d1 d2 d3
 go_loopw [0,34] (fun tvk iv wr=>∃ k:Nat,k<=cs.length/\iv=.int .i64 k/\(∃ Ak ck,tvk=.slice Ak (l.length+(gc2 m 1 (m.get 1) (cs.take k)).length) ck)/\Hid (udh w0 w L (.mk 1 ng ds cs) (.slice A0 n0 c0) (.slice A cs.length c) m (.slice At l.length ct) l k tvk wr)) (fun _ iv _=>cs.length - (intOf iv).toNat)
 case atStart=>exact ⟨0,Nat.zero_le _,rfl,⟨At,ct,by rw [List.take_zero,gc2,List.length_nil,Nat.add_zero]⟩,HI0⟩
 case round =>
  obtain ⟨k,hk,rfl,⟨Ak,ck,rfl⟩,HI⟩:=hrel;have hx:=HI.out.ext0 HX0.out HTV.out;obtain ⟨-,⟨e,d0,d1,d2,d3⟩,hfr,⟨b0,b1,b2,b3⟩,-,-,-,hwz⟩:=id HI.out;simp only [Pl.lv,Pl.neg] at b0 b1 d0 d1 d2 d3
  by_cases hlt:k < cs.length
  · obtain ⟨ad,B0,m0,e0,B1,m1,e1,rfl,hadb,hnd,hkt⟩:=kc3.kid H4.out k hlt;obtain ⟨a0,a1,a2,a3⟩:=hnd.ext hx (by rw [uc2]; exact hadb);obtain ⟨q1,q2,q3,q4,q5,q6⟩:=HARG.out k hlt;have hstep:=HI.out.step HX0.out HTV.out (by simp [Pl.lv]) hlt (.cells #[.int .i64 cs[k].lv,.bool cs[k].neg,.slice B0 m0 e0,.slice B1 m1 e1] 30) _ rfl;obtain ⟨s1,s2,s3,s4,s5⟩:=hstep;have HC:=Lib.hid (IH.out cs[k] _ _ _ _ _ _ q1 q2 (hkt) s3 s1 q3 q4 q5 q6);have S5:=Lib.hid s5;obtain ⟨W1,hW1⟩:=n_m ((wr.alloc (.cells #[.int .i64 cs[k].lv,.bool cs[k].neg,.slice B0 m0 e0,.slice B1 m1 e1] 30)).setCell ⟨w.heap.size+1,0,none⟩ (.int .i64 (m.a+k)));have hW1':(wr.alloc (.cells #[.int .i64 cs[k].lv,.bool cs[k].neg,.slice B0 m0 e0,.slice B1 m1 e1] 30)).setCell ⟨w.heap.size+1,((Pl.mk 1 ng ds cs).lv - 1).toNat,none⟩ (.int .i64 (m.get (Pl.mk 1 ng ds cs).lv+k))=W1:=hW1;rw [hW1'] at s2 s4 S5 HC;have t0:W1.cell? ⟨wr.heap.size,0,none⟩=some (.int .i64 cs[k].lv):=by rw [s4]; simp [go_sem]
    have t1:W1.cell? ⟨wr.heap.size,1,none⟩=some (.bool cs[k].neg):=by rw [s4]; simp [go_sem]
    have t2:W1.cell? ⟨wr.heap.size,2,none⟩=some (.slice B0 m0 e0):=by rw [s4]; simp [go_sem]
    have t3:W1.cell? ⟨wr.heap.size,3,none⟩=some (.slice B1 m1 e1):=by rw [s4]; simp [go_sem]
    obtain ⟨x0,x1,x2,x3⟩:=s2;have HS1:=Lib.hid hW1;clear hnd hkt hadb q1 q2 q3 q4 q5 q6 s1 s3 s4 s5 hx hW1'
    change W1.cell? ⟨w.heap.size+1,0,none⟩=some (.int .i64 (m.a+k)) at x0
    change W1.cell? ⟨w.heap.size+1,1,none⟩=some (.int .i64 m.b) at x1
    change W1.cell? ⟨w.heap.size+1,2,none⟩=some (.int .i64 m.c) at x2
    change W1.cell? ⟨w.heap.size+1,3,none⟩=some (.int .i64 m.d) at x3
    simp only [Pl.lv,Pl.cs] at HC S5;have hws:w.heap.size < wr.heap.size:=by omega
    have hws1:w.heap.size+1 < wr.heap.size:=by omega
    have hwr:IntKind.i64.wrap (m.a+k)=m.a+k:=by rw [IntKind.wrap_i64]; omega
    generalize cs[k]=ckk at *;go_wp2_with fail;refine HC.out.mono ?_;rintro e w2 hret;obtain ⟨tv2,A2,c2,rfl,e2,hinv⟩:=S5.out _ _ hret;rw [List.length_append] at e2;subst e2;have HN:=Lib.hid hinv;clear hret hinv HC S5 HS1 hW1 t0 t1 t2 t3 x0 x1 x2 x3 a0 a1 a2 a3 d0 d1 d2 d3 b0 b1 b2 b3 hfr;go_wp2_with fail
    go_roundw
    case rel=>exact ⟨k+1,by omega,by go_num,⟨A2,c2,rfl⟩,HN⟩
    case measure=>simp [intOf]; omega
  · have hke:k=cs.length:=by omega
    have htk:cs.take k=cs:=by rw [hke,List.take_length]
    rw [htk] at HI;rw [htk];have HF:Hid (vgr (some L) w0.heap.size (.slice At l.length ct) (l ++ gc2 m 1 (m.get 1) cs) w (.returned (.slice Ak (l.length+(gc2 m 1 (m.get 1) cs).length) ck)) wr):=by
     obtain ⟨h1,-,-,-,h5,h6,h7,-⟩:=HI.out;simp only [Pl.cs,Pl.lv,htk] at h1;exact ⟨_,rfl,h1,h5,h6,h7.imp id (fun h R hR=>by have:=h R hR; omega)⟩
    clear hx hfr HI htk hke;go_wp2_with fail;go_ret;exact HF.out
theorem xh4 {w0 w:World} {q:Nat->Prop} {L n:Nat} (ih:uhl w0 q L n) (p:Pl) (v:Value) (m:Mo) (E:Int) (l:Sp) (tv:Value) (hn:p.sz < n+1) (hdm:p.dm<=L) (h:PlV w0 q p v) (hx0:Ext w0 w) (ht:TsV (some L) w0.heap.size w tv l) (hm:m.nonneg) (hE:m.le E) (hES:E+p.sz<=4611686018427387904) (hlen:l.length+p.sz<=1099511627776) (hl:p.lv=2):Calls Tryz.prog 55 #[tv,v,moV m] w (vgr (some L) w0.heap.size tv (l ++ p.terms m) w):=by
 have HTV:=Lib.hid ht;have HX0:=Lib.hid hx0;have IH:=Lib.hid ih;obtain ⟨A0,n0,c0,A,c,rfl,hnat,hl1,hl2,h4⟩:=h.open_;obtain ⟨lv,ng,ds,cs⟩:=p
 change lv=2 at hl
 subst hl;simp only [Pl.cs,Pl.ds,Pl.lv,Pl.neg,plV] at *;have hte:(Pl.mk 2 ng ds cs).terms m=gc2 m 2 (m.get 2) cs:=by rw [Pl.terms,if_neg (by omega),if_neg (by omega)]
 rw [hte];have hszp:(Pl.mk 2 ng ds cs).sz=kc5 cs+1:=by rw [Pl.sz]
 have hdmp:xdb cs<=(Pl.mk 2 ng ds cs).dm:=by rw [Pl.dm]; exact Nat.le_max_right _ _
 have H4:=Lib.hid h4;have hgm:0<=m.b/\m.b<=E:=⟨by unfold Mo.nonneg at hm; omega,by unfold Mo.le at hE; omega⟩;have hlb:=ude cs;have HARG:Hid (∀ k (hk:k < cs.length),cs[k].sz < n/\cs[k].dm<=L/\(m.put 2 (m.get 2+k)).nonneg/\(m.put 2 (m.get 2+k)).le (E+k)/\E+k+cs[k].sz<=4611686018427387904/\(l ++ gc2 m 2 (m.get 2) (cs.take k)).length+cs[k].sz<=1099511627776):=by
  have:∀ k (hk:k < cs.length),cs[k].sz < n/\cs[k].dm<=L/\(m.put 2 (m.get 2+k)).nonneg/\(m.put 2 (m.get 2+k)).le (E+k)/\E+k+cs[k].sz<=4611686018427387904/\(l ++ gc2 m 2 (m.get 2) (cs.take k)).length+cs[k].sz<=1099511627776:=fun k hk=>by
   have h1:=ygs (List.getElem_mem hk);have h2:=jg2 (List.getElem_mem hk);have h3:=xdj (cs.take k) m 2 (m.get 2);have h5:=kg3 cs k hk;have h6:=ude (cs.take k);rw [List.length_take] at h6;have hg:m.get 2=m.b:=rfl;exact ⟨by omega,by omega,Mo.put_nonneg hm (by omega),(hE.mono (by omega)).put _ _ (by omega),by omega,by rw [List.length_append]; omega⟩
  exact this
 obtain ⟨W,hW⟩:=n_m ((w.alloc (.cells #[.int .i64 2,.bool ng,.slice A0 n0 c0,.slice A cs.length c] 30)).alloc (.cells #[.int .i64 m.a,.int .i64 m.b,.int .i64 m.c,.int .i64 m.d] 114));have hWx:Ext w W:=by rw [<- hW]; exact ((Ext.refl w).alloc _).alloc _
 have hWs:W.heap.size=w.heap.size+1+1:=by rw [<- hW]; simp
 have hbx:yc3 W w.heap.size (.mk 2 ng ds cs) (.slice A0 n0 c0) (.slice A cs.length c):=by rw [<- hW]; exact (yc3.new w (.mk 2 ng ds cs) _ _ _).ext ((Ext.refl _).alloc _) (by simp)
 have hmx:vc9 W (w.heap.size+1) m:=by
  have:=vc9.new (w.alloc (.cells #[.int .i64 2,.bool ng,.slice A0 n0 c0,.slice A cs.length c] 30)) m 114;rw [hW] at this;simpa using this
 have hmf:∀ i,W.frozen? ⟨w.heap.size+1,i,none⟩=false:=fun i=>by rw [<- hW]; simp [go_sem]
 have HI0:Hid (udh w0 w L (.mk 2 ng ds cs) (.slice A0 n0 c0) (.slice A cs.length c) m tv l 0 tv W):=by
  refine ⟨?_,⟨m.get 2,?_⟩,hmf,hbx,⟨hWx.below.os,hWx.below.tape,hWx.below.output,hWx.size,fun i hi _=>hWx.below.block i hi⟩,fun v ds hv=>hv.ext hWx,.inl rfl,by omega⟩
  · simp only [Pl.cs,List.take_zero,gc2,List.append_nil]; exact ht.ext hWx
  · rw [show (Pl.mk 2 ng ds cs).lv=2 from rfl,Mo.put_get]; exact hmx
 obtain ⟨b0,b1,b2,b3⟩:=hbx;obtain ⟨d0,d1,d2,d3⟩:=hmx;simp only [Pl.lv,Pl.neg] at b0 b1;obtain ⟨At,ct,rfl,-,-⟩:=ht.len;have hcb:cs.length<=1099511627776:=by omega
 have HE:=Lib.hid hES;clear ht h hnat h4 hWx ih hx0 hm hE hte hdmp hlb hmf hdm;unfold moV;go_enter Tryz.func55,Tryz.ntmps55;go_wp2_with fail;clear hW b0 b1 b2 b3 d0 d1 d2 d3
 go_loopw [0,34] (fun tvk iv wr=>∃ k:Nat,k<=cs.length/\iv=.int .i64 k/\(∃ Ak ck,tvk=.slice Ak (l.length+(gc2 m 2 (m.get 2) (cs.take k)).length) ck)/\Hid (udh w0 w L (.mk 2 ng ds cs) (.slice A0 n0 c0) (.slice A cs.length c) m (.slice At l.length ct) l k tvk wr)) (fun _ iv _=>cs.length - (intOf iv).toNat)
 case atStart=>exact ⟨0,Nat.zero_le _,rfl,⟨At,ct,by rw [List.take_zero,gc2,List.length_nil,Nat.add_zero]⟩,HI0⟩
 case round =>
  obtain ⟨k,hk,rfl,⟨Ak,ck,rfl⟩,HI⟩:=hrel;have hx:=HI.out.ext0 HX0.out HTV.out;obtain ⟨-,⟨e,d0,d1,d2,d3⟩,hfr,⟨b0,b1,b2,b3⟩,-,-,-,hwz⟩:=id HI.out;simp only [Pl.lv,Pl.neg] at b0 b1 d0 d1 d2 d3
  by_cases hlt:k < cs.length
  · obtain ⟨ad,B0,m0,e0,B1,m1,e1,rfl,hadb,hnd,hkt⟩:=kc3.kid H4.out k hlt;obtain ⟨a0,a1,a2,a3⟩:=hnd.ext hx (by rw [uc2]; exact hadb);obtain ⟨q1,q2,q3,q4,q5,q6⟩:=HARG.out k hlt;have hstep:=HI.out.step HX0.out HTV.out (by simp [Pl.lv]) hlt (.cells #[.int .i64 cs[k].lv,.bool cs[k].neg,.slice B0 m0 e0,.slice B1 m1 e1] 30) _ rfl;obtain ⟨s1,s2,s3,s4,s5⟩:=hstep;have HC:=Lib.hid (IH.out cs[k] _ _ _ _ _ _ q1 q2 (hkt) s3 s1 q3 q4 q5 q6);have S5:=Lib.hid s5;obtain ⟨W1,hW1⟩:=n_m ((wr.alloc (.cells #[.int .i64 cs[k].lv,.bool cs[k].neg,.slice B0 m0 e0,.slice B1 m1 e1] 30)).setCell ⟨w.heap.size+1,1,none⟩ (.int .i64 (m.b+k)));have hW1':(wr.alloc (.cells #[.int .i64 cs[k].lv,.bool cs[k].neg,.slice B0 m0 e0,.slice B1 m1 e1] 30)).setCell ⟨w.heap.size+1,((Pl.mk 2 ng ds cs).lv - 1).toNat,none⟩ (.int .i64 (m.get (Pl.mk 2 ng ds cs).lv+k))=W1:=hW1;rw [hW1'] at s2 s4 S5 HC;have t0:W1.cell? ⟨wr.heap.size,0,none⟩=some (.int .i64 cs[k].lv):=by rw [s4]; simp [go_sem]
    have t1:W1.cell? ⟨wr.heap.size,1,none⟩=some (.bool cs[k].neg):=by rw [s4]; simp [go_sem]
    have t2:W1.cell? ⟨wr.heap.size,2,none⟩=some (.slice B0 m0 e0):=by rw [s4]; simp [go_sem]
    have t3:W1.cell? ⟨wr.heap.size,3,none⟩=some (.slice B1 m1 e1):=by rw [s4]; simp [go_sem]
    obtain ⟨x0,x1,x2,x3⟩:=s2;have HS1:=Lib.hid hW1;clear hnd hkt hadb q1 q2 q3 q4 q5 q6 s1 s3 s4 s5 hx hW1'
    change W1.cell? ⟨w.heap.size+1,0,none⟩=some (.int .i64 m.a) at x0
    change W1.cell? ⟨w.heap.size+1,1,none⟩=some (.int .i64 (m.b+k)) at x1
    change W1.cell? ⟨w.heap.size+1,2,none⟩=some (.int .i64 m.c) at x2
    change W1.cell? ⟨w.heap.size+1,3,none⟩=some (.int .i64 m.d) at x3
    simp only [Pl.lv,Pl.cs] at HC S5;have hws:w.heap.size < wr.heap.size:=by omega
    have hws1:w.heap.size+1 < wr.heap.size:=by omega
    have hwr:IntKind.i64.wrap (m.b+k)=m.b+k:=by rw [IntKind.wrap_i64]; omega
    generalize cs[k]=ckk at *;go_wp2_with fail;refine HC.out.mono ?_;rintro e w2 hret;obtain ⟨tv2,A2,c2,rfl,e2,hinv⟩:=S5.out _ _ hret;rw [List.length_append] at e2;subst e2;have HN:=Lib.hid hinv;clear hret hinv HC S5 HS1 hW1 t0 t1 t2 t3 x0 x1 x2 x3 a0 a1 a2 a3 d0 d1 d2 d3 b0 b1 b2 b3 hfr;go_wp2_with fail
    go_roundw
    case rel=>exact ⟨k+1,by omega,by go_num,⟨A2,c2,rfl⟩,HN⟩
    case measure=>simp [intOf]; omega
  · have hke:k=cs.length:=by omega
    have htk:cs.take k=cs:=by rw [hke,List.take_length]
    rw [htk] at HI;rw [htk];have HF:Hid (vgr (some L) w0.heap.size (.slice At l.length ct) (l ++ gc2 m 2 (m.get 2) cs) w (.returned (.slice Ak (l.length+(gc2 m 2 (m.get 2) cs).length) ck)) wr):=by
     obtain ⟨h1,-,-,-,h5,h6,h7,-⟩:=HI.out;simp only [Pl.cs,Pl.lv,htk] at h1;exact ⟨_,rfl,h1,h5,h6,h7.imp id (fun h R hR=>by have:=h R hR; omega)⟩
    clear hx hfr HI htk hke;go_wp2_with fail;go_ret;exact HF.out
theorem yh4 {w0 w:World} {q:Nat->Prop} {L n:Nat} (ih:uhl w0 q L n) (p:Pl) (v:Value) (m:Mo) (E:Int) (l:Sp) (tv:Value) (hn:p.sz < n+1) (hdm:p.dm<=L) (h:PlV w0 q p v) (hx0:Ext w0 w) (ht:TsV (some L) w0.heap.size w tv l) (hm:m.nonneg) (hE:m.le E) (hES:E+p.sz<=4611686018427387904) (hlen:l.length+p.sz<=1099511627776) (hl:p.lv=3):Calls Tryz.prog 55 #[tv,v,moV m] w (vgr (some L) w0.heap.size tv (l ++ p.terms m) w):=by
 have HTV:=Lib.hid ht;have HX0:=Lib.hid hx0;have IH:=Lib.hid ih;obtain ⟨A0,n0,c0,A,c,rfl,hnat,hl1,hl2,h4⟩:=h.open_;obtain ⟨lv,ng,ds,cs⟩:=p
 change lv=3 at hl
 subst hl;simp only [Pl.cs,Pl.ds,Pl.lv,Pl.neg,plV] at *;have hte:(Pl.mk 3 ng ds cs).terms m=gc2 m 3 (m.get 3) cs:=by rw [Pl.terms,if_neg (by omega),if_neg (by omega)]
 rw [hte];have hszp:(Pl.mk 3 ng ds cs).sz=kc5 cs+1:=by rw [Pl.sz]
 have hdmp:xdb cs<=(Pl.mk 3 ng ds cs).dm:=by rw [Pl.dm]; exact Nat.le_max_right _ _
 have H4:=Lib.hid h4;have hgm:0<=m.c/\m.c<=E:=⟨by unfold Mo.nonneg at hm; omega,by unfold Mo.le at hE; omega⟩;have hlb:=ude cs;have HARG:Hid (∀ k (hk:k < cs.length),cs[k].sz < n/\cs[k].dm<=L/\(m.put 3 (m.get 3+k)).nonneg/\(m.put 3 (m.get 3+k)).le (E+k)/\E+k+cs[k].sz<=4611686018427387904/\(l ++ gc2 m 3 (m.get 3) (cs.take k)).length+cs[k].sz<=1099511627776):=by
  have:∀ k (hk:k < cs.length),cs[k].sz < n/\cs[k].dm<=L/\(m.put 3 (m.get 3+k)).nonneg/\(m.put 3 (m.get 3+k)).le (E+k)/\E+k+cs[k].sz<=4611686018427387904/\(l ++ gc2 m 3 (m.get 3) (cs.take k)).length+cs[k].sz<=1099511627776:=fun k hk=>by
   have h1:=ygs (List.getElem_mem hk);have h2:=jg2 (List.getElem_mem hk);have h3:=xdj (cs.take k) m 3 (m.get 3);have h5:=kg3 cs k hk;have h6:=ude (cs.take k);rw [List.length_take] at h6;have hg:m.get 3=m.c:=rfl;exact ⟨by omega,by omega,Mo.put_nonneg hm (by omega),(hE.mono (by omega)).put _ _ (by omega),by omega,by rw [List.length_append]; omega⟩
  exact this
 obtain ⟨W,hW⟩:=n_m ((w.alloc (.cells #[.int .i64 3,.bool ng,.slice A0 n0 c0,.slice A cs.length c] 30)).alloc (.cells #[.int .i64 m.a,.int .i64 m.b,.int .i64 m.c,.int .i64 m.d] 114));have hWx:Ext w W:=by rw [<- hW]; exact ((Ext.refl w).alloc _).alloc _
 have hWs:W.heap.size=w.heap.size+1+1:=by rw [<- hW]; simp
 have hbx:yc3 W w.heap.size (.mk 3 ng ds cs) (.slice A0 n0 c0) (.slice A cs.length c):=by rw [<- hW]; exact (yc3.new w (.mk 3 ng ds cs) _ _ _).ext ((Ext.refl _).alloc _) (by simp)
 have hmx:vc9 W (w.heap.size+1) m:=by
  have:=vc9.new (w.alloc (.cells #[.int .i64 3,.bool ng,.slice A0 n0 c0,.slice A cs.length c] 30)) m 114;rw [hW] at this;simpa using this
 have hmf:∀ i,W.frozen? ⟨w.heap.size+1,i,none⟩=false:=fun i=>by rw [<- hW]; simp [go_sem]
 have HI0:Hid (udh w0 w L (.mk 3 ng ds cs) (.slice A0 n0 c0) (.slice A cs.length c) m tv l 0 tv W):=by
  refine ⟨?_,⟨m.get 3,?_⟩,hmf,hbx,⟨hWx.below.os,hWx.below.tape,hWx.below.output,hWx.size,fun i hi _=>hWx.below.block i hi⟩,fun v ds hv=>hv.ext hWx,.inl rfl,by omega⟩
  · simp only [Pl.cs,List.take_zero,gc2,List.append_nil]; exact ht.ext hWx
  · rw [show (Pl.mk 3 ng ds cs).lv=3 from rfl,Mo.put_get]; exact hmx
 obtain ⟨b0,b1,b2,b3⟩:=hbx;obtain ⟨d0,d1,d2,d3⟩:=hmx;simp only [Pl.lv,Pl.neg] at b0 b1;obtain ⟨At,ct,rfl,-,-⟩:=ht.len;have hcb:cs.length<=1099511627776:=by omega
 have HE:=Lib.hid hES;clear ht h hnat h4 hWx ih hx0 hm hE hte hdmp hlb hmf hdm;unfold moV;go_enter Tryz.func55,Tryz.ntmps55;go_wp2_with fail;clear hW b0 b1 b2 b3 d0 d1 d2 d3
 go_loopw [0,34] (fun tvk iv wr=>∃ k:Nat,k<=cs.length/\iv=.int .i64 k/\(∃ Ak ck,tvk=.slice Ak (l.length+(gc2 m 3 (m.get 3) (cs.take k)).length) ck)/\Hid (udh w0 w L (.mk 3 ng ds cs) (.slice A0 n0 c0) (.slice A cs.length c) m (.slice At l.length ct) l k tvk wr)) (fun _ iv _=>cs.length - (intOf iv).toNat)
 case atStart=>exact ⟨0,Nat.zero_le _,rfl,⟨At,ct,by rw [List.take_zero,gc2,List.length_nil,Nat.add_zero]⟩,HI0⟩
 case round =>
  obtain ⟨k,hk,rfl,⟨Ak,ck,rfl⟩,HI⟩:=hrel;have hx:=HI.out.ext0 HX0.out HTV.out;obtain ⟨-,⟨e,d0,d1,d2,d3⟩,hfr,⟨b0,b1,b2,b3⟩,-,-,-,hwz⟩:=id HI.out;simp only [Pl.lv,Pl.neg] at b0 b1 d0 d1 d2 d3
  by_cases hlt:k < cs.length
  · obtain ⟨ad,B0,m0,e0,B1,m1,e1,rfl,hadb,hnd,hkt⟩:=kc3.kid H4.out k hlt;obtain ⟨a0,a1,a2,a3⟩:=hnd.ext hx (by rw [uc2]; exact hadb);obtain ⟨q1,q2,q3,q4,q5,q6⟩:=HARG.out k hlt;have hstep:=HI.out.step HX0.out HTV.out (by simp [Pl.lv]) hlt (.cells #[.int .i64 cs[k].lv,.bool cs[k].neg,.slice B0 m0 e0,.slice B1 m1 e1] 30) _ rfl;obtain ⟨s1,s2,s3,s4,s5⟩:=hstep;have HC:=Lib.hid (IH.out cs[k] _ _ _ _ _ _ q1 q2 (hkt) s3 s1 q3 q4 q5 q6);have S5:=Lib.hid s5;obtain ⟨W1,hW1⟩:=n_m ((wr.alloc (.cells #[.int .i64 cs[k].lv,.bool cs[k].neg,.slice B0 m0 e0,.slice B1 m1 e1] 30)).setCell ⟨w.heap.size+1,2,none⟩ (.int .i64 (m.c+k)));have hW1':(wr.alloc (.cells #[.int .i64 cs[k].lv,.bool cs[k].neg,.slice B0 m0 e0,.slice B1 m1 e1] 30)).setCell ⟨w.heap.size+1,((Pl.mk 3 ng ds cs).lv - 1).toNat,none⟩ (.int .i64 (m.get (Pl.mk 3 ng ds cs).lv+k))=W1:=hW1;rw [hW1'] at s2 s4 S5 HC;have t0:W1.cell? ⟨wr.heap.size,0,none⟩=some (.int .i64 cs[k].lv):=by rw [s4]; simp [go_sem]
    have t1:W1.cell? ⟨wr.heap.size,1,none⟩=some (.bool cs[k].neg):=by rw [s4]; simp [go_sem]
    have t2:W1.cell? ⟨wr.heap.size,2,none⟩=some (.slice B0 m0 e0):=by rw [s4]; simp [go_sem]
    have t3:W1.cell? ⟨wr.heap.size,3,none⟩=some (.slice B1 m1 e1):=by rw [s4]; simp [go_sem]
    obtain ⟨x0,x1,x2,x3⟩:=s2;have HS1:=Lib.hid hW1;clear hnd hkt hadb q1 q2 q3 q4 q5 q6 s1 s3 s4 s5 hx hW1'
    change W1.cell? ⟨w.heap.size+1,0,none⟩=some (.int .i64 m.a) at x0
    change W1.cell? ⟨w.heap.size+1,1,none⟩=some (.int .i64 m.b) at x1
    change W1.cell? ⟨w.heap.size+1,2,none⟩=some (.int .i64 (m.c+k)) at x2
    change W1.cell? ⟨w.heap.size+1,3,none⟩=some (.int .i64 m.d) at x3
    simp only [Pl.lv,Pl.cs] at HC S5;have hws:w.heap.size < wr.heap.size:=by omega
    have hws1:w.heap.size+1 < wr.heap.size:=by omega
    have hwr:IntKind.i64.wrap (m.c+k)=m.c+k:=by rw [IntKind.wrap_i64]; omega
    generalize cs[k]=ckk at *;go_wp2_with fail;refine HC.out.mono ?_;rintro e w2 hret;obtain ⟨tv2,A2,c2,rfl,e2,hinv⟩:=S5.out _ _ hret;rw [List.length_append] at e2;subst e2;have HN:=Lib.hid hinv;clear hret hinv HC S5 HS1 hW1 t0 t1 t2 t3 x0 x1 x2 x3 a0 a1 a2 a3 d0 d1 d2 d3 b0 b1 b2 b3 hfr;go_wp2_with fail
    go_roundw
    case rel=>exact ⟨k+1,by omega,by go_num,⟨A2,c2,rfl⟩,HN⟩
    case measure=>simp [intOf]; omega
  · have hke:k=cs.length:=by omega
    have htk:cs.take k=cs:=by rw [hke,List.take_length]
    rw [htk] at HI;rw [htk];have HF:Hid (vgr (some L) w0.heap.size (.slice At l.length ct) (l ++ gc2 m 3 (m.get 3) cs) w (.returned (.slice Ak (l.length+(gc2 m 3 (m.get 3) cs).length) ck)) wr):=by
     obtain ⟨h1,-,-,-,h5,h6,h7,-⟩:=HI.out;simp only [Pl.cs,Pl.lv,htk] at h1;exact ⟨_,rfl,h1,h5,h6,h7.imp id (fun h R hR=>by have:=h R hR; omega)⟩
    clear hx hfr HI htk hke;go_wp2_with fail;go_ret;exact HF.out
theorem zh4 {w0 w:World} {q:Nat->Prop} {L n:Nat} (ih:uhl w0 q L n) (p:Pl) (v:Value) (m:Mo) (E:Int) (l:Sp) (tv:Value) (hn:p.sz < n+1) (hdm:p.dm<=L) (h:PlV w0 q p v) (hx0:Ext w0 w) (ht:TsV (some L) w0.heap.size w tv l) (hm:m.nonneg) (hE:m.le E) (hES:E+p.sz<=4611686018427387904) (hlen:l.length+p.sz<=1099511627776) (hl:p.lv=4):Calls Tryz.prog 55 #[tv,v,moV m] w (vgr (some L) w0.heap.size tv (l ++ p.terms m) w):=by
 have HTV:=Lib.hid ht;have HX0:=Lib.hid hx0;have IH:=Lib.hid ih;obtain ⟨A0,n0,c0,A,c,rfl,hnat,hl1,hl2,h4⟩:=h.open_;obtain ⟨lv,ng,ds,cs⟩:=p
 change lv=4 at hl
 subst hl;simp only [Pl.cs,Pl.ds,Pl.lv,Pl.neg,plV] at *;have hte:(Pl.mk 4 ng ds cs).terms m=gc2 m 4 (m.get 4) cs:=by rw [Pl.terms,if_neg (by omega),if_neg (by omega)]
 rw [hte];have hszp:(Pl.mk 4 ng ds cs).sz=kc5 cs+1:=by rw [Pl.sz]
 have hdmp:xdb cs<=(Pl.mk 4 ng ds cs).dm:=by rw [Pl.dm]; exact Nat.le_max_right _ _
 have H4:=Lib.hid h4;have hgm:0<=m.d/\m.d<=E:=⟨by unfold Mo.nonneg at hm; omega,by unfold Mo.le at hE; omega⟩;have hlb:=ude cs;have HARG:Hid (∀ k (hk:k < cs.length),cs[k].sz < n/\cs[k].dm<=L/\(m.put 4 (m.get 4+k)).nonneg/\(m.put 4 (m.get 4+k)).le (E+k)/\E+k+cs[k].sz<=4611686018427387904/\(l ++ gc2 m 4 (m.get 4) (cs.take k)).length+cs[k].sz<=1099511627776):=by
  have:∀ k (hk:k < cs.length),cs[k].sz < n/\cs[k].dm<=L/\(m.put 4 (m.get 4+k)).nonneg/\(m.put 4 (m.get 4+k)).le (E+k)/\E+k+cs[k].sz<=4611686018427387904/\(l ++ gc2 m 4 (m.get 4) (cs.take k)).length+cs[k].sz<=1099511627776:=fun k hk=>by
   have h1:=ygs (List.getElem_mem hk);have h2:=jg2 (List.getElem_mem hk);have h3:=xdj (cs.take k) m 4 (m.get 4);have h5:=kg3 cs k hk;have h6:=ude (cs.take k);rw [List.length_take] at h6;have hg:m.get 4=m.d:=rfl;exact ⟨by omega,by omega,Mo.put_nonneg hm (by omega),(hE.mono (by omega)).put _ _ (by omega),by omega,by rw [List.length_append]; omega⟩
  exact this
 obtain ⟨W,hW⟩:=n_m ((w.alloc (.cells #[.int .i64 4,.bool ng,.slice A0 n0 c0,.slice A cs.length c] 30)).alloc (.cells #[.int .i64 m.a,.int .i64 m.b,.int .i64 m.c,.int .i64 m.d] 114));have hWx:Ext w W:=by rw [<- hW]; exact ((Ext.refl w).alloc _).alloc _
 have hWs:W.heap.size=w.heap.size+1+1:=by rw [<- hW]; simp
 have hbx:yc3 W w.heap.size (.mk 4 ng ds cs) (.slice A0 n0 c0) (.slice A cs.length c):=by rw [<- hW]; exact (yc3.new w (.mk 4 ng ds cs) _ _ _).ext ((Ext.refl _).alloc _) (by simp)
 have hmx:vc9 W (w.heap.size+1) m:=by
  have:=vc9.new (w.alloc (.cells #[.int .i64 4,.bool ng,.slice A0 n0 c0,.slice A cs.length c] 30)) m 114;rw [hW] at this;simpa using this
 have hmf:∀ i,W.frozen? ⟨w.heap.size+1,i,none⟩=false:=fun i=>by rw [<- hW]; simp [go_sem]
 have HI0:Hid (udh w0 w L (.mk 4 ng ds cs) (.slice A0 n0 c0) (.slice A cs.length c) m tv l 0 tv W):=by
  refine ⟨?_,⟨m.get 4,?_⟩,hmf,hbx,⟨hWx.below.os,hWx.below.tape,hWx.below.output,hWx.size,fun i hi _=>hWx.below.block i hi⟩,fun v ds hv=>hv.ext hWx,.inl rfl,by omega⟩
  · simp only [Pl.cs,List.take_zero,gc2,List.append_nil]; exact ht.ext hWx
  · rw [show (Pl.mk 4 ng ds cs).lv=4 from rfl,Mo.put_get]; exact hmx
 obtain ⟨b0,b1,b2,b3⟩:=hbx;obtain ⟨d0,d1,d2,d3⟩:=hmx;simp only [Pl.lv,Pl.neg] at b0 b1;obtain ⟨At,ct,rfl,-,-⟩:=ht.len;have hcb:cs.length<=1099511627776:=by omega
 have HE:=Lib.hid hES;clear ht h hnat h4 hWx ih hx0 hm hE hte hdmp hlb hmf hdm;unfold moV;go_enter Tryz.func55,Tryz.ntmps55;go_wp2_with fail;clear hW b0 b1 b2 b3 d0 d1 d2 d3
 go_loopw [0,34] (fun tvk iv wr=>∃ k:Nat,k<=cs.length/\iv=.int .i64 k/\(∃ Ak ck,tvk=.slice Ak (l.length+(gc2 m 4 (m.get 4) (cs.take k)).length) ck)/\Hid (udh w0 w L (.mk 4 ng ds cs) (.slice A0 n0 c0) (.slice A cs.length c) m (.slice At l.length ct) l k tvk wr)) (fun _ iv _=>cs.length - (intOf iv).toNat)
 case atStart=>exact ⟨0,Nat.zero_le _,rfl,⟨At,ct,by rw [List.take_zero,gc2,List.length_nil,Nat.add_zero]⟩,HI0⟩
 case round =>
  obtain ⟨k,hk,rfl,⟨Ak,ck,rfl⟩,HI⟩:=hrel;have hx:=HI.out.ext0 HX0.out HTV.out;obtain ⟨-,⟨e,d0,d1,d2,d3⟩,hfr,⟨b0,b1,b2,b3⟩,-,-,-,hwz⟩:=id HI.out;simp only [Pl.lv,Pl.neg] at b0 b1 d0 d1 d2 d3
  by_cases hlt:k < cs.length
  · obtain ⟨ad,B0,m0,e0,B1,m1,e1,rfl,hadb,hnd,hkt⟩:=kc3.kid H4.out k hlt;obtain ⟨a0,a1,a2,a3⟩:=hnd.ext hx (by rw [uc2]; exact hadb);obtain ⟨q1,q2,q3,q4,q5,q6⟩:=HARG.out k hlt;have hstep:=HI.out.step HX0.out HTV.out (by simp [Pl.lv]) hlt (.cells #[.int .i64 cs[k].lv,.bool cs[k].neg,.slice B0 m0 e0,.slice B1 m1 e1] 30) _ rfl;obtain ⟨s1,s2,s3,s4,s5⟩:=hstep;have HC:=Lib.hid (IH.out cs[k] _ _ _ _ _ _ q1 q2 (hkt) s3 s1 q3 q4 q5 q6);have S5:=Lib.hid s5;obtain ⟨W1,hW1⟩:=n_m ((wr.alloc (.cells #[.int .i64 cs[k].lv,.bool cs[k].neg,.slice B0 m0 e0,.slice B1 m1 e1] 30)).setCell ⟨w.heap.size+1,3,none⟩ (.int .i64 (m.d+k)));have hW1':(wr.alloc (.cells #[.int .i64 cs[k].lv,.bool cs[k].neg,.slice B0 m0 e0,.slice B1 m1 e1] 30)).setCell ⟨w.heap.size+1,((Pl.mk 4 ng ds cs).lv - 1).toNat,none⟩ (.int .i64 (m.get (Pl.mk 4 ng ds cs).lv+k))=W1:=hW1;rw [hW1'] at s2 s4 S5 HC;have t0:W1.cell? ⟨wr.heap.size,0,none⟩=some (.int .i64 cs[k].lv):=by rw [s4]; simp [go_sem]
    have t1:W1.cell? ⟨wr.heap.size,1,none⟩=some (.bool cs[k].neg):=by rw [s4]; simp [go_sem]
    have t2:W1.cell? ⟨wr.heap.size,2,none⟩=some (.slice B0 m0 e0):=by rw [s4]; simp [go_sem]
    have t3:W1.cell? ⟨wr.heap.size,3,none⟩=some (.slice B1 m1 e1):=by rw [s4]; simp [go_sem]
    obtain ⟨x0,x1,x2,x3⟩:=s2;have HS1:=Lib.hid hW1;clear hnd hkt hadb q1 q2 q3 q4 q5 q6 s1 s3 s4 s5 hx hW1'
    change W1.cell? ⟨w.heap.size+1,0,none⟩=some (.int .i64 m.a) at x0
    change W1.cell? ⟨w.heap.size+1,1,none⟩=some (.int .i64 m.b) at x1
    change W1.cell? ⟨w.heap.size+1,2,none⟩=some (.int .i64 m.c) at x2
    change W1.cell? ⟨w.heap.size+1,3,none⟩=some (.int .i64 (m.d+k)) at x3
    simp only [Pl.lv,Pl.cs] at HC S5;have hws:w.heap.size < wr.heap.size:=by omega
    have hws1:w.heap.size+1 < wr.heap.size:=by omega
    have hwr:IntKind.i64.wrap (m.d+k)=m.d+k:=by rw [IntKind.wrap_i64]; omega
    generalize cs[k]=ckk at *;go_wp2_with fail;refine HC.out.mono ?_;rintro e w2 hret;obtain ⟨tv2,A2,c2,rfl,e2,hinv⟩:=S5.out _ _ hret;rw [List.length_append] at e2;subst e2;have HN:=Lib.hid hinv;clear hret hinv HC S5 HS1 hW1 t0 t1 t2 t3 x0 x1 x2 x3 a0 a1 a2 a3 d0 d1 d2 d3 b0 b1 b2 b3 hfr;go_wp2_with fail
    go_roundw
    case rel=>exact ⟨k+1,by omega,by go_num,⟨A2,c2,rfl⟩,HN⟩
    case measure=>simp [intOf]; omega
  · have hke:k=cs.length:=by omega
    have htk:cs.take k=cs:=by rw [hke,List.take_length]
    rw [htk] at HI;rw [htk];have HF:Hid (vgr (some L) w0.heap.size (.slice At l.length ct) (l ++ gc2 m 4 (m.get 4) cs) w (.returned (.slice Ak (l.length+(gc2 m 4 (m.get 4) cs).length) ck)) wr):=by
     obtain ⟨h1,-,-,-,h5,h6,h7,-⟩:=HI.out;simp only [Pl.cs,Pl.lv,htk] at h1;exact ⟨_,rfl,h1,h5,h6,h7.imp id (fun h R hR=>by have:=h R hR; omega)⟩
    clear hx hfr HI htk hke;go_wp2_with fail;go_ret;exact HF.out
theorem jic (w0:World) (q:Nat->Prop) (L n:Nat):uhl w0 q L n:=by
 induction n with
 | zero=>intro p v m E l tv w h; omega
 | succ n ih =>
   intro p v m E l tv w hn hdm h hx0 ht hm hE hES hlen
   by_cases h0:p.lv<=0
   · exact yhz p v m l tv hdm h hx0 ht hlen h0
   · by_cases h4:4 < p.lv
     · exact xhz p v m l tv h hx0 ht h4
     · rcases (show p.lv=1\/p.lv=2\/p.lv=3\/p.lv=4 by omega) with h1 | h1 | h1 | h1
       · exact qh4 ih p v m E l tv hn hdm h hx0 ht hm hE hES hlen h1
       · exact xh4 ih p v m E l tv hn hdm h hx0 ht hm hE hES hlen h1
       · exact yh4 ih p v m E l tv hn hdm h hx0 ht hm hE hES hlen h1
       · exact zh4 ih p v m E l tv hn hdm h hx0 ht hm hE hES hlen h1
theorem jh4 {w:World} {q:Nat->Prop} (p:Pl) (v:Value) (L:Nat) (hdm:p.dm<=L) (hsz:p.sz<=1099511627776) (h:PlV w q p v):Calls Tryz.prog 55 #[.slice none 0 0,v,moV Mo.one] w fun e w'=>∃ tv,e=.returned tv/\TsV (some L) w.heap.size w' tv (p.terms Mo.one)/\Ext w w':=
 (jic w q L (p.sz+1) p v Mo.one 0 [] (.slice none 0 0) w (Nat.lt_succ_self _) hdm h (Ext.refl w) (TsV.nil _ _ _) Mo.one_nonneg Mo.one_le (by omega) (by simpa using hsz)).mono fun e w' ⟨tv,he,h1,h2,_,_⟩=>⟨tv,he,by simpa using h1,⟨h2.os,h2.tape,h2.output,h2.size,fun i hi=>h2.block i hi (by simp [Value.ownBlock])⟩⟩
/- Layer 22: recpoly.canonical, Normal. -/
set_option maxRecDepth 100000
set_option maxHeartbeats 8000000
mutual
theorem PlV.dig {w : World} {q : Nat -> Prop} : ∀ (p : Pl) (v : Value), PlV w q p v -> p.dig
 | .mk l n d cs,v,h=>by
   unfold PlV at h;obtain ⟨s,A,c,e,h1,h2,h3,h4⟩:=h;unfold Pl.dig;exact ⟨h1.digs,kc3.dig cs A 0 h4⟩
theorem kc3.dig {w : World} {q : Nat -> Prop} : ∀ (cs : List Pl) (A : Option Addr) (j : Nat), kc3 w q cs A j -> wde cs
 | [],A,j,h=>by unfold wde; trivial
 | c :: r,A,j,h=>by
   unfold kc3 at h;obtain ⟨⟨ad,s,K,e,hb,hq,h1,h2⟩,h3⟩:=h;unfold wde;exact ⟨PlV.dig c _ h2,kc3.dig r A (j+1) h3⟩
end
theorem xhs (p:Pl) (hd:p.dig) (hsz:p.sz<=1073741824):(dg (yc4 (p.terms Mo.one))).length<=p.dm+1:=by
 have h1:=Pl.terms_nrm p Mo.one p.dm (Nat.le_refl _) hd;refine zc4 (Nat.lt_of_le_of_lt h1 ?_);rw [Nat.pow_succ,Nat.mul_comm];exact Nat.mul_lt_mul_of_pos_left (by rw [gc3]; omega) (Nat.pow_pos zc5)
theorem Pl.nf_dm (p:Pl) (hd:p.dig) (hsz:p.sz<=1073741824):p.nf.dm<=p.dm+1:=by
 unfold Pl.nf Pl.ofS;refine qi9 (p.dm+1) 4 _ fun x hx=>?_
 have h1:=ght hx;have h2:=qho (p.terms Mo.one);exact Nat.le_trans (xc6 (Nat.le_trans h1 h2)) (xhs p hd hsz)
theorem Pl.nf_sz (p:Pl):p.nf.sz<=(p.sz+2) ^ 4:=by
 unfold Pl.nf Pl.ofS;refine zi9 p.sz 4 _ fun x hx=>?_
 obtain ⟨-,y,hy,e⟩:=kdc hx;rw [<- e];exact (Pl.terms_le p Mo.one 0 Mo.one_le y hy).mono (by omega)
theorem xg0 {w:World} {q:Nat->Prop} {p:Pl} (v:Value) (h:PlV w q p v) (hp:p.Can):Calls Tryz.prog 24 #[v] w (vc4 (fun b=>q b\/w.heap.size<=b) p w):=by
 have hdig:=h.dig;obtain ⟨A0,n0,c0,A,c,rfl,hnat,hl1,hl2,h4⟩:=h.open_;obtain ⟨W,hW⟩:=n_m ((w.alloc (.cells #[.int .i64 p.lv,.bool p.neg,.slice A0 n0 c0,.slice A p.cs.length c] 30)).alloc (.cells #[.int .i64 0,.bool false,.slice none 0 0,.slice none 0 0] 30));have hWx:Ext w W:=by rw [<- hW]; exact ((Ext.refl w).alloc _).alloc _
 have hWs:W.heap.size=w.heap.size+1+1:=by rw [<- hW]; simp
 have hbx:yc3 W w.heap.size p (.slice A0 n0 c0) (.slice A p.cs.length c):=by rw [<- hW]; exact (yc3.new w p _ _ _).ext ((Ext.refl _).alloc _) (by simp)
 have hz:yc5 W (w.heap.size+1):=by
  have:=yc5.new (w.alloc (.cells #[.int .i64 p.lv,.bool p.neg,.slice A0 n0 c0,.slice A p.cs.length c] 30)) 30;rw [hW] at this;simpa using this
 obtain ⟨b0,b1,b2,b3⟩:=id hbx;have hpl0:PlV w (fun b=>q b/\b < w.heap.size) p (plV p (.slice A0 n0 c0) (.slice A p.cs.length c)):=PlV.turn_ (Nat.le_refl _) (fun _ _ h=>h) (fun b hb hq=>⟨⟨hq,hb⟩,rfl⟩) h;have HPL:=Lib.hid hpl0;have HWX:=Lib.hid hWx;have HBX:=Lib.hid hbx;have HZ:=Lib.hid hz;have HCN:=Lib.hid ((Pl.isCan_iff p hdig).2 hp);clear h hnat h4 hWx hbx hz hpl0 hdig hp;unfold plV;go_enter Tryz.func24,Tryz.ntmps24;go_wp2_with fail;clear hW b0 b1 b2 b3;refine (jhp p _ (HPL.out.ext HWX.out)).mono ?_;rw [HCN.out];rintro e w1 ⟨rfl,x1⟩;obtain ⟨b0,b1,b2,b3⟩:=HBX.out.ext x1 (by omega);have hs1:=x1.size;have X1:=Lib.hid (HWX.out.trans x1);have HZ1:=Lib.hid (HZ.out.ext x1 (by omega));clear x1;have HF:=Lib.hid (gc5 (q':=fun b=>q b\/w.heap.size<=b) X1.out (Nat.le_succ _) HZ1.out (HPL.out.ext X1.out) (fun b _ hb=>⟨by omega,.inl hb.1⟩));obtain ⟨⟨z0,z1,z2,z3⟩,zf⟩:=HZ1.out;clear HZ1 HPL HCN;go_wp2_with fail;exact bodyPost_ret (v:=plV p (.slice A0 n0 c0) (.slice A p.cs.length c)) (by simp [results,Tryz.results24,go_sem,z0,z1,z2,z3,plV]) rfl HF.out
theorem khz {w:World} {q:Nat->Prop} (p:Pl) (v:Value) (h:PlV w q p v) (hs0:p.isCan=false->p.sz<=1073741824/\p.dm<=1099511627776):Calls Tryz.prog 24 #[v] w (vc4 (fun b=>q b\/w.heap.size<=b) p.nf w):=by
 have hdig:=h.dig;obtain ⟨A0,n0,c0,A,c,rfl,hnat,hl1,hl2,h4⟩:=h.open_;obtain ⟨W,hW⟩:=n_m ((w.alloc (.cells #[.int .i64 p.lv,.bool p.neg,.slice A0 n0 c0,.slice A p.cs.length c] 30)).alloc (.cells #[.int .i64 0,.bool false,.slice none 0 0,.slice none 0 0] 30));have hWx:Ext w W:=by rw [<- hW]; exact ((Ext.refl w).alloc _).alloc _
 have hWs:W.heap.size=w.heap.size+1+1:=by rw [<- hW]; simp
 have hbx:yc3 W w.heap.size p (.slice A0 n0 c0) (.slice A p.cs.length c):=by rw [<- hW]; exact (yc3.new w p _ _ _).ext ((Ext.refl _).alloc _) (by simp)
 have hz:yc5 W (w.heap.size+1):=by
  have:=yc5.new (w.alloc (.cells #[.int .i64 p.lv,.bool p.neg,.slice A0 n0 c0,.slice A p.cs.length c] 30)) 30;rw [hW] at this;simpa using this
 obtain ⟨b0,b1,b2,b3⟩:=id hbx;have hpl0:PlV w (fun b=>q b/\b < w.heap.size) p (plV p (.slice A0 n0 c0) (.slice A p.cs.length c)):=PlV.turn_ (Nat.le_refl _) (fun _ _ h=>h) (fun b hb hq=>⟨⟨hq,hb⟩,rfl⟩) h;have HPL:=Lib.hid hpl0;have HWX:=Lib.hid hWx;have HBX:=Lib.hid hbx;have HZ:=Lib.hid hz;have HDIG:=Lib.hid hdig;clear h hnat h4 hWx hbx hz hpl0 hdig;unfold plV;go_enter Tryz.func24,Tryz.ntmps24;go_wp2_with fail;clear hW b0 b1 b2 b3;refine (jhp p _ (HPL.out.ext HWX.out)).mono ?_;rintro e w1 ⟨rfl,x1⟩;obtain ⟨b0,b1,b2,b3⟩:=HBX.out.ext x1 (by omega);have hs1:=x1.size;have X1:=Lib.hid (HWX.out.trans x1);have HZ1:=Lib.hid (HZ.out.ext x1 (by omega));clear x1;cases hc:p.isCan
 · obtain ⟨hsz,hdm⟩:=hs0 hc;clear hs0;have HCO:Hid (∀ W',Ext w W'->Calls Tryz.prog 55 #[.slice none 0 0,plV p (.slice A0 n0 c0) (.slice A p.cs.length c),moV Mo.one] W' fun e w'=>∃ tv,e=.returned tv/\TsV (some p.dm) W'.heap.size w' tv (p.terms Mo.one)/\Ext W' w'):=fun W' hW'=>jh4 p _ p.dm (Nat.le_refl _) (by omega) (HPL.out.ext hW')
   unfold moV Mo.one plV at HCO;go_wp2_with fail;refine (HCO.out _ X1.out).mono ?_;rintro e w2 ⟨tv,rfl,t2,x2⟩;have hsp:=t2.sp;have hln:=Pl.terms_len p Mo.one;have hdg:=xhs p HDIG.out hsz;have hcall:=qh1 (ko:=some p.dm) p.dm hsp (fun z _=>Nat.le_refl _) (by simp only [Mo.one] at *; omega) (by simp only [Mo.one] at *; omega);have HCALL:=Lib.hid hcall;have X2:=Lib.hid (X1.out.trans x2);have HZ2:=Lib.hid (HZ1.out.ext x2 (by omega));have hs2:=x2.size;clear hcall hsp t2 x2 hln hdg HCO HZ1 b0 b1 b2 b3;go_wp2_with fail;refine HCALL.out.mono ?_;rintro e w3 ⟨v3,rfl,⟨A3,c3,rfl,hl3,hc3,hat3⟩,x3⟩;have hok:kdi 4 (yc6 (p.terms Mo.one)):=⟨udc _,fun x hx=>(kdc hx).1,⟨Mo.one,fun x _ i h1 h2=>by omega⟩,fun x hx=>by
    obtain ⟨-,y,hy,e⟩:=kdc hx;rw [<- e]
    exact (Pl.terms_le p Mo.one 0 Mo.one_le y hy).mono (by omega)⟩
   have HB:=Lib.hid (ziw w3 4 (Nat.le_refl _) (yc6 (p.terms Mo.one)) A3 c3 w3 hat3 hl3 hc3 hok (Ext.refl w3));have X3:=Lib.hid (X2.out.trans x3);have HZ3:=Lib.hid (HZ2.out.ext x3 (by omega));have hs3:=x3.size;clear x3 hat3 hok HCALL HZ2;simp only [Mo.one] at HB;go_wp2_with fail;refine HB.out.mono ?_;rintro e w4 ⟨v4,rfl,p4,x4⟩;obtain ⟨C0,j0,f0,C1,f1,rfl,-⟩:=id p4.open_;obtain ⟨⟨z0,z1,z2,z3⟩,zf⟩:=HZ3.out.ext x4 (by omega);have hs4:=x4.size;have hf:=gc5 (q':=fun b=>q b\/w.heap.size<=b) (X3.out.trans x4) (Nat.le_succ _) (HZ3.out.ext x4 (by omega)) p4 (fun b _ hb=>⟨by omega,.inr (by omega)⟩);have hnf:p.nf=bld 4 (yc6 (p.terms ⟨0,0,0,0⟩)):=rfl;have hf2:=vc4.congr hnf hf;have HF:=Lib.hid hf2;clear hf hf2 hnf p4 x4 HB HZ3;generalize bld 4 (yc6 (p.terms ⟨0,0,0,0⟩))=P at *;unfold plV;go_wp2_with fail;exact bodyPost_ret (v:=plV P (.slice C0 j0 f0) (.slice C1 P.cs.length f1)) (by simp [results,Tryz.results24,go_sem,z0,z1,z2,z3,plV]) rfl HF.out
 · clear hs0;have hnf:p.nf=p:=Pl.nf_of_can ((Pl.isCan_iff p HDIG.out).1 hc);have hf:=gc5 (q':=fun b=>q b\/w.heap.size<=b) X1.out (Nat.le_succ _) HZ1.out (HPL.out.ext X1.out) (fun b _ hb=>⟨by omega,.inl hb.1⟩);have hf2:=vc4.congr hnf hf;have HF:=Lib.hid hf2;obtain ⟨⟨z0,z1,z2,z3⟩,zf⟩:=HZ1.out;clear hf hf2 hnf HZ1 HPL HDIG hc;go_wp2_with fail;exact bodyPost_ret (v:=plV p (.slice A0 n0 c0) (.slice A p.cs.length c)) (by simp [results,Tryz.results24,go_sem,z0,z1,z2,z3,plV]) rfl HF.out
theorem zha {w:World} {q:Nat->Prop} (p:Pl) (v:Value) (h:PlV w q p v) (hsz:p.sz<=1073741824) (hdm:p.dm<=1099511627776):Calls Tryz.prog 24 #[v] w (vc4 (fun b=>q b\/w.heap.size<=b) p.nf w):=
 khz p v h fun _=>⟨hsz,hdm⟩
theorem uh1 {w:World} {q:Nat->Prop} (p:Pl) (v:Value) (h:PlV w q p v) (hsz:p.sz<=1073741824) (hnf:p.nf.sz<=1099511627776) (hdm:p.dm<=1099511627776):Calls Tryz.prog 36 #[v] w (vc4 (fun b=>w.heap.size<=b) p.nf w):=by
 have hdm2:=p.nf_dm h.dig hsz;have HH:=Lib.hid h;obtain ⟨A0,n0,c0,A,c,rfl,hnat,hl1,hl2,h4⟩:=h.open_;obtain ⟨W,hW⟩:=n_m ((w.alloc (.cells #[.int .i64 p.lv,.bool p.neg,.slice A0 n0 c0,.slice A p.cs.length c] 30)).alloc (.cells #[.int .i64 0,.bool false,.slice none 0 0,.slice none 0 0] 30));have hWx:Ext w W:=by rw [<- hW]; exact ((Ext.refl w).alloc _).alloc _
 have hWs:W.heap.size=w.heap.size+1+1:=by rw [<- hW]; simp
 obtain ⟨b0,b1,b2,b3⟩:yc3 W w.heap.size p (.slice A0 n0 c0) (.slice A p.cs.length c):=by rw [<- hW]; exact (yc3.new w p _ _ _).ext ((Ext.refl _).alloc _) (by simp)
 have hz:yc5 W (w.heap.size+1):=by
  have:=yc5.new (w.alloc (.cells #[.int .i64 p.lv,.bool p.neg,.slice A0 n0 c0,.slice A p.cs.length c] 30)) 30;rw [hW] at this;simpa using this
 have HWX:=Lib.hid hWx;have HZ:=Lib.hid hz;have HCA:=Lib.hid (fun W (hW:Ext w W)=>zha p _ (HH.out.ext hW) hsz hdm);have hcan:=p.nf_can;clear h hnat h4 hWx hz;generalize p.nf=P at *;have HCAN:=Lib.hid hcan;clear hcan;unfold plV at *;go_enter Tryz.func36,Tryz.ntmps36;go_wp2_with fail;clear hW b0 b1 b2 b3;refine (HCA.out _ HWX.out).mono ?_;rintro e w1 ⟨v1,rfl,p1,x1⟩;have HC:=Lib.hid (ug8 P v1 HCAN.out hnf (by omega) p1);obtain ⟨C0,j0,f0,C1,f1,rfl,-⟩:=id p1.open_;have X1:=Lib.hid (HWX.out.trans x1);have HZ1:=Lib.hid (HZ.out.ext x1 (by omega));have hs1:=x1.size;clear p1 x1;unfold plV at *;go_wp2_with fail;refine HC.out.mono ?_;rintro e w2 ⟨v2,rfl,p2,x2⟩;obtain ⟨D0,j1,g0,D1,g1,rfl,-⟩:=id p2.open_;obtain ⟨⟨z0,z1,z2,z3⟩,zf⟩:=HZ1.out.ext x2 (by omega);have HF:=Lib.hid (gc5 (q':=fun b=>w.heap.size<=b) (X1.out.trans x2) (Nat.le_succ _) (HZ1.out.ext x2 (by omega)) p2 (fun b _ hb=>⟨by omega,by omega⟩));clear p2 x2 HC HZ1;unfold plV;go_wp2_with fail;exact bodyPost_ret (v:=plV P (.slice D0 j1 g0) (.slice D1 P.cs.length g1)) (by simp [results,Tryz.results36,go_sem,z0,z1,z2,z3,plV]) rfl HF.out
theorem yij {w:World} {q:Nat->Prop} (p P:Pl) (v:Value) (h:PlV w q p v) (hca:∀ W,Ext w W->Calls Tryz.prog 36 #[v] W (vc4 (fun b=>W.heap.size<=b) P W)):Calls Tryz.prog 62 #[v] w fun e w'=>e=.returned (.int .i64 P.lv)/\Ext w w':=by
 have HH:=Lib.hid h;obtain ⟨A0,n0,c0,A,c,rfl,hnat,hl1,hl2,h4⟩:=h.open_;obtain ⟨W,hW⟩:=n_m (w.alloc (.cells #[.int .i64 p.lv,.bool p.neg,.slice A0 n0 c0,.slice A p.cs.length c] 30));have hWx:Ext w W:=by rw [<- hW]; exact (Ext.refl w).alloc _
 obtain ⟨b0,b1,b2,b3⟩:yc3 W w.heap.size p (.slice A0 n0 c0) (.slice A p.cs.length c):=by rw [<- hW]; exact yc3.new w p _ _ _
 have HWX:=Lib.hid hWx;have HCA:=Lib.hid hca;clear h hnat h4 hWx hca;unfold plV at *;go_enter Tryz.func62,Tryz.ntmps62;go_wp2_with fail;clear hW b0 b1 b2 b3;refine (HCA.out _ HWX.out).mono ?_;rintro e w1 ⟨v1,rfl,p1,x1⟩;obtain ⟨C0,j0,f0,C1,f1,rfl,-⟩:=id p1.open_;have X1:=Lib.hid (HWX.out.trans x1);clear p1 x1;have hfl:∀ W,(Instr.field 30 (.agg #[.int .i64 P.lv,.bool P.neg,.slice C0 j0 f0,.slice C1 P.cs.length f1]) 0).run Tryz.prog W=.ok (.int .i64 P.lv) W:=fun W=>by kernel_rfl
 unfold plV at *;go_wp2_with fail;go_ret;exact ⟨rfl,X1.out⟩
end Go.Proofs.YtopddaabiinboaaGreat
