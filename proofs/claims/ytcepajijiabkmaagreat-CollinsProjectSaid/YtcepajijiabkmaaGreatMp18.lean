/- Layer 22: recpoly.collect: the loop, once for each level; the whole. -/
import Derived.Test.YtcepajijiabkmaaGreatMp17
set_option linter.unusedSimpArgs false
set_option linter.unusedVariables false

set_option maxRecDepth 100000
set_option maxHeartbeats 8000000
namespace Go.Proofs.YtcepajijiabkmaaGreat
open Lib (hid)
open Go.RowKit
theorem gb7 {w0 w:World} {q:Nat->Prop} {L n:Nat} (ih:kbk w0 q L n) (p:Pl) (v:Value) (m:Mo) (E:Int) (l:Sp) (tv:Value) (hn:p.sz < n+1) (gY:p.dm<=L) (h:PlV w0 q p v) (aC:Ext w0 w) (ht:TsV (some L) w0.heap.size w tv l) (hm:m.qe) (hE:m.le E) (Ba:E+p.sz<=4611686018427387904) (hlen:l.length+p.sz<=1099511627776) (hl:p.lv=1):Calls Tryz.prog 65 #[tv,v,moV m] w (jai (some L) w0.heap.size tv (l ++ p.qt m) w):=by
 have zX:=hid ht;have ay:=hid aC;have IH:=hid ih;obtain ⟨A0,n0,c0,A,c,rfl,au,dP,dC,h4⟩:=h.open_;obtain ⟨lv,ng,ds,cs⟩:=p
 change lv=1 at hl
 subst hl;simp only [Pl.cs,Pl.ds,Pl.lv,Pl.neg,plV] at *;have qJ:(Pl.mk 1 ng ds cs).qt m=xe m 1 (m.get 1) cs:=by rw [Pl.qt,if_neg (by omega),if_neg (by omega)]
 rw [qJ];have EO:(Pl.mk 1 ng ds cs).sz=vk cs+1:=by rw [Pl.sz]
 have qU:ww cs<=(Pl.mk 1 ng ds cs).dm:=by rw [Pl.dm]; exact Sb _ _
 have H4:=hid h4;have KE:0<=m.a/\m.a<=E:=⟨by unfold Mo.qe at hm; omega,by unfold Mo.le at hE; omega⟩;have rC:=xad cs;have ru:Hid (∀ k (hk:k < cs.length),cs[k].sz < n/\cs[k].dm<=L/\(m.put 1 (m.get 1+k)).qe/\(m.put 1 (m.get 1+k)).le (E+k)/\E+k+cs[k].sz<=4611686018427387904/\(l ++ xe m 1 (m.get 1) (cs.take k)).length+cs[k].sz<=1099511627776):=by
  have:∀ k (hk:k < cs.length),cs[k].sz < n/\cs[k].dm<=L/\(m.put 1 (m.get 1+k)).qe/\(m.put 1 (m.get 1+k)).le (E+k)/\E+k+cs[k].sz<=4611686018427387904/\(l ++ xe m 1 (m.get 1) (cs.take k)).length+cs[k].sz<=1099511627776:=fun k hk=>by
   have h1:=yal (pt hk);have h2:=xap (pt hk);have h3:=zai (cs.take k) m 1 (m.get 1);have h5:=zax cs k hk;have h6:=xad (cs.take k);rw [pA] at h6;have hg:m.get 1=m.a:=rfl;exact ⟨by omega,by omega,Mo.yv hm (by omega),(hE.mono (by omega)).put _ _ (by omega),by omega,by rw [ra]; omega⟩
  exact this
 obtain ⟨W,hW⟩:=n_m ((w.alloc (.cells #[.int .i64 1,.bool ng,.slice A0 n0 c0,.slice A cs.length c] 33)).alloc (.cells #[.int .i64 m.a,.int .i64 m.b,.int .i64 m.c,.int .i64 m.d] 61));have ai:Ext w W:=by rw [<- hW]; exact ((Ext.refl w).alloc _).alloc _
 have dG:W.heap.size=w.heap.size+1+1:=by rw [<- hW]; simp
 have bV:jb W w.heap.size (.mk 1 ng ds cs) (.slice A0 n0 c0) (.slice A cs.length c):=by rw [<- hW]; exact (jb.new w (.mk 1 ng ds cs) _ _ _).ext ((Ext.refl _).alloc _) (by simp)
 have iK:vw W (w.heap.size+1) m:=by
  have:=vw.new (w.alloc (.cells #[.int .i64 1,.bool ng,.slice A0 n0 c0,.slice A cs.length c] 33)) m 61;rw [hW] at this;simpa using this
 have uB:∀ i,W.frozen? ⟨w.heap.size+1,i,none⟩=false:=fun i=>by rw [<- hW]; simp [go_sem]
 have kK:Hid (xag w0 w L (.mk 1 ng ds cs) (.slice A0 n0 c0) (.slice A cs.length c) m tv l 0 tv W):=by
  refine ⟨?_,⟨m.get 1,?_⟩,uB,bV,⟨ai.below.os,ai.below.tape,ai.below.output,ai.size,fun i hi _=>ai.below.block i hi⟩,fun v ds hv=>hv.ext ai,.inl rfl,by omega⟩
  · simp only [Pl.cs,s9,xe,si]; exact ht.ext ai
  · rw [show (Pl.mk 1 ng ds cs).lv=1 from rfl,Mo.vn]; exact iK
 obtain ⟨b0,b1,b2,b3⟩:=bV;obtain ⟨d0,d1,d2,d3⟩:=iK;simp only [Pl.lv,Pl.neg] at b0 b1;obtain ⟨At,ct,rfl,-,-⟩:=ht.len;have OJ:cs.length<=1099511627776:=by omega
 have HE:=hid Ba;clear ht h au h4 ai ih aC hm hE qJ qU rC uB gY;unfold moV;go_enter Tryz.func65,Tryz.ntmps65;go_wp2_with fail;clear hW b0 b1 b2 b3 d0 d1 d2 d3
 go_loopw [0,34] (fun mZ iv wr=>∃ k:Nat,k<=cs.length/\iv=.int .i64 k/\(∃ Ak ck,mZ=.slice Ak (l.length+(xe m 1 (m.get 1) (cs.take k)).length) ck)/\Hid (xag w0 w L (.mk 1 ng ds cs) (.slice A0 n0 c0) (.slice A cs.length c) m (.slice At l.length ct) l k mZ wr)) (fun _ iv _=>cs.length - (intOf iv).toNat)
 case atStart=>exact ⟨0,pS _,rfl,⟨At,ct,by rw [s9,xe,r8,s8]⟩,kK⟩
 case round =>
  obtain ⟨k,hk,rfl,⟨Ak,ck,rfl⟩,HI⟩:=hrel;have hx:=HI.out.qaD ay.out zX.out;obtain ⟨-,⟨e,d0,d1,d2,d3⟩,bG,⟨b0,b1,b2,b3⟩,-,-,-,Zz⟩:=id HI.out;simp only [Pl.lv,Pl.neg] at b0 b1 d0 d1 d2 d3
  by_cases af:k < cs.length
  · obtain ⟨ad,B0,m0,e0,B1,m1,e1,rfl,ah,bP,bC⟩:=jd.ym H4.out k af;obtain ⟨a0,a1,a2,a3⟩:=bP.ext hx (by rw [ja]; exact ah);obtain ⟨q1,q2,q3,q4,q5,q6⟩:=ru.out k af;have gJ:=HI.out.step ay.out zX.out (by simp [Pl.lv]) af (.cells #[.int .i64 cs[k].lv,.bool cs[k].neg,.slice B0 m0 e0,.slice B1 m1 e1] 33) _ rfl;obtain ⟨s1,s2,s3,s4,s5⟩:=gJ;have HC:=hid (IH.out cs[k] _ _ _ _ _ _ q1 q2 (bC) s3 s1 q3 q4 q5 q6);have S5:=hid s5;obtain ⟨W1,aV⟩:=n_m ((wr.alloc (.cells #[.int .i64 cs[k].lv,.bool cs[k].neg,.slice B0 m0 e0,.slice B1 m1 e1] 33)).setCell ⟨w.heap.size+1,0,none⟩ (.int .i64 (m.a+k)));have nX:(wr.alloc (.cells #[.int .i64 cs[k].lv,.bool cs[k].neg,.slice B0 m0 e0,.slice B1 m1 e1] 33)).setCell ⟨w.heap.size+1,((Pl.mk 1 ng ds cs).lv - 1).toNat,none⟩ (.int .i64 (m.get (Pl.mk 1 ng ds cs).lv+k))=W1:=aV;rw [nX] at s2 s4 S5 HC;have t0:W1.cell? ⟨wr.heap.size,0,none⟩=some (.int .i64 cs[k].lv):=by rw [s4]; simp [go_sem]
    have t1:W1.cell? ⟨wr.heap.size,1,none⟩=some (.bool cs[k].neg):=by rw [s4]; simp [go_sem]
    have t2:W1.cell? ⟨wr.heap.size,2,none⟩=some (.slice B0 m0 e0):=by rw [s4]; simp [go_sem]
    have t3:W1.cell? ⟨wr.heap.size,3,none⟩=some (.slice B1 m1 e1):=by rw [s4]; simp [go_sem]
    obtain ⟨x0,x1,x2,x3⟩:=s2;have Eo:=hid aV;clear bP bC ah q1 q2 q3 q4 q5 q6 s1 s3 s4 s5 hx nX
    change W1.cell? ⟨w.heap.size+1,0,none⟩=some (.int .i64 (m.a+k)) at x0
    change W1.cell? ⟨w.heap.size+1,1,none⟩=some (.int .i64 m.b) at x1
    change W1.cell? ⟨w.heap.size+1,2,none⟩=some (.int .i64 m.c) at x2
    change W1.cell? ⟨w.heap.size+1,3,none⟩=some (.int .i64 m.d) at x3
    simp only [Pl.lv,Pl.cs] at HC S5;have oz:w.heap.size < wr.heap.size:=by omega
    have JH:w.heap.size+1 < wr.heap.size:=by omega
    have jL:IntKind.i64.wrap (m.a+k)=m.a+k:=by rw [rk]; omega
    generalize cs[k]=ckk at *;go_wp2_with fail;refine HC.out.mono ?_;rintro e w2 nP;obtain ⟨EE,A2,c2,rfl,e2,hinv⟩:=S5.out _ _ nP;rw [ra] at e2;subst e2;have HN:=hid hinv;clear nP hinv HC S5 Eo aV t0 t1 t2 t3 x0 x1 x2 x3 a0 a1 a2 a3 d0 d1 d2 d3 b0 b1 b2 b3 bG;go_wp2_with fail
    go_roundw
    case rel=>exact ⟨k+1,by omega,by go_num,⟨A2,c2,rfl⟩,HN⟩
    case measure=>simp [intOf]; omega
  · have df:k=cs.length:=by omega
    have eu:cs.take k=cs:=by rw [df,pP]
    rw [eu] at HI;rw [eu];have HF:Hid (jai (some L) w0.heap.size (.slice At l.length ct) (l ++ xe m 1 (m.get 1) cs) w (.returned (.slice Ak (l.length+(xe m 1 (m.get 1) cs).length) ck)) wr):=by
     obtain ⟨h1,-,-,-,h5,h6,h7,-⟩:=HI.out;simp only [Pl.cs,Pl.lv,eu] at h1;exact ⟨_,rfl,h1,h5,h6,h7.imp id (fun h R hR=>by have:=h R hR; omega)⟩
    clear hx bG HI eu df;go_wp2_with fail;go_ret;exact HF.out
theorem ub7 {w0 w:World} {q:Nat->Prop} {L n:Nat} (ih:kbk w0 q L n) (p:Pl) (v:Value) (m:Mo) (E:Int) (l:Sp) (tv:Value) (hn:p.sz < n+1) (gY:p.dm<=L) (h:PlV w0 q p v) (aC:Ext w0 w) (ht:TsV (some L) w0.heap.size w tv l) (hm:m.qe) (hE:m.le E) (Ba:E+p.sz<=4611686018427387904) (hlen:l.length+p.sz<=1099511627776) (hl:p.lv=2):Calls Tryz.prog 65 #[tv,v,moV m] w (jai (some L) w0.heap.size tv (l ++ p.qt m) w):=by
 have zX:=hid ht;have ay:=hid aC;have IH:=hid ih;obtain ⟨A0,n0,c0,A,c,rfl,au,dP,dC,h4⟩:=h.open_;obtain ⟨lv,ng,ds,cs⟩:=p
 change lv=2 at hl
 subst hl;simp only [Pl.cs,Pl.ds,Pl.lv,Pl.neg,plV] at *;have qJ:(Pl.mk 2 ng ds cs).qt m=xe m 2 (m.get 2) cs:=by rw [Pl.qt,if_neg (by omega),if_neg (by omega)]
 rw [qJ];have EO:(Pl.mk 2 ng ds cs).sz=vk cs+1:=by rw [Pl.sz]
 have qU:ww cs<=(Pl.mk 2 ng ds cs).dm:=by rw [Pl.dm]; exact Sb _ _
 have H4:=hid h4;have KE:0<=m.b/\m.b<=E:=⟨by unfold Mo.qe at hm; omega,by unfold Mo.le at hE; omega⟩;have rC:=xad cs;have ru:Hid (∀ k (hk:k < cs.length),cs[k].sz < n/\cs[k].dm<=L/\(m.put 2 (m.get 2+k)).qe/\(m.put 2 (m.get 2+k)).le (E+k)/\E+k+cs[k].sz<=4611686018427387904/\(l ++ xe m 2 (m.get 2) (cs.take k)).length+cs[k].sz<=1099511627776):=by
  have:∀ k (hk:k < cs.length),cs[k].sz < n/\cs[k].dm<=L/\(m.put 2 (m.get 2+k)).qe/\(m.put 2 (m.get 2+k)).le (E+k)/\E+k+cs[k].sz<=4611686018427387904/\(l ++ xe m 2 (m.get 2) (cs.take k)).length+cs[k].sz<=1099511627776:=fun k hk=>by
   have h1:=yal (pt hk);have h2:=xap (pt hk);have h3:=zai (cs.take k) m 2 (m.get 2);have h5:=zax cs k hk;have h6:=xad (cs.take k);rw [pA] at h6;have hg:m.get 2=m.b:=rfl;exact ⟨by omega,by omega,Mo.yv hm (by omega),(hE.mono (by omega)).put _ _ (by omega),by omega,by rw [ra]; omega⟩
  exact this
 obtain ⟨W,hW⟩:=n_m ((w.alloc (.cells #[.int .i64 2,.bool ng,.slice A0 n0 c0,.slice A cs.length c] 33)).alloc (.cells #[.int .i64 m.a,.int .i64 m.b,.int .i64 m.c,.int .i64 m.d] 61));have ai:Ext w W:=by rw [<- hW]; exact ((Ext.refl w).alloc _).alloc _
 have dG:W.heap.size=w.heap.size+1+1:=by rw [<- hW]; simp
 have bV:jb W w.heap.size (.mk 2 ng ds cs) (.slice A0 n0 c0) (.slice A cs.length c):=by rw [<- hW]; exact (jb.new w (.mk 2 ng ds cs) _ _ _).ext ((Ext.refl _).alloc _) (by simp)
 have iK:vw W (w.heap.size+1) m:=by
  have:=vw.new (w.alloc (.cells #[.int .i64 2,.bool ng,.slice A0 n0 c0,.slice A cs.length c] 33)) m 61;rw [hW] at this;simpa using this
 have uB:∀ i,W.frozen? ⟨w.heap.size+1,i,none⟩=false:=fun i=>by rw [<- hW]; simp [go_sem]
 have kK:Hid (xag w0 w L (.mk 2 ng ds cs) (.slice A0 n0 c0) (.slice A cs.length c) m tv l 0 tv W):=by
  refine ⟨?_,⟨m.get 2,?_⟩,uB,bV,⟨ai.below.os,ai.below.tape,ai.below.output,ai.size,fun i hi _=>ai.below.block i hi⟩,fun v ds hv=>hv.ext ai,.inl rfl,by omega⟩
  · simp only [Pl.cs,s9,xe,si]; exact ht.ext ai
  · rw [show (Pl.mk 2 ng ds cs).lv=2 from rfl,Mo.vn]; exact iK
 obtain ⟨b0,b1,b2,b3⟩:=bV;obtain ⟨d0,d1,d2,d3⟩:=iK;simp only [Pl.lv,Pl.neg] at b0 b1;obtain ⟨At,ct,rfl,-,-⟩:=ht.len;have OJ:cs.length<=1099511627776:=by omega
 have HE:=hid Ba;clear ht h au h4 ai ih aC hm hE qJ qU rC uB gY;unfold moV;go_enter Tryz.func65,Tryz.ntmps65;go_wp2_with fail;clear hW b0 b1 b2 b3 d0 d1 d2 d3
 go_loopw [0,34] (fun mZ iv wr=>∃ k:Nat,k<=cs.length/\iv=.int .i64 k/\(∃ Ak ck,mZ=.slice Ak (l.length+(xe m 2 (m.get 2) (cs.take k)).length) ck)/\Hid (xag w0 w L (.mk 2 ng ds cs) (.slice A0 n0 c0) (.slice A cs.length c) m (.slice At l.length ct) l k mZ wr)) (fun _ iv _=>cs.length - (intOf iv).toNat)
 case atStart=>exact ⟨0,pS _,rfl,⟨At,ct,by rw [s9,xe,r8,s8]⟩,kK⟩
 case round =>
  obtain ⟨k,hk,rfl,⟨Ak,ck,rfl⟩,HI⟩:=hrel;have hx:=HI.out.qaD ay.out zX.out;obtain ⟨-,⟨e,d0,d1,d2,d3⟩,bG,⟨b0,b1,b2,b3⟩,-,-,-,Zz⟩:=id HI.out;simp only [Pl.lv,Pl.neg] at b0 b1 d0 d1 d2 d3
  by_cases af:k < cs.length
  · obtain ⟨ad,B0,m0,e0,B1,m1,e1,rfl,ah,bP,bC⟩:=jd.ym H4.out k af;obtain ⟨a0,a1,a2,a3⟩:=bP.ext hx (by rw [ja]; exact ah);obtain ⟨q1,q2,q3,q4,q5,q6⟩:=ru.out k af;have gJ:=HI.out.step ay.out zX.out (by simp [Pl.lv]) af (.cells #[.int .i64 cs[k].lv,.bool cs[k].neg,.slice B0 m0 e0,.slice B1 m1 e1] 33) _ rfl;obtain ⟨s1,s2,s3,s4,s5⟩:=gJ;have HC:=hid (IH.out cs[k] _ _ _ _ _ _ q1 q2 (bC) s3 s1 q3 q4 q5 q6);have S5:=hid s5;obtain ⟨W1,aV⟩:=n_m ((wr.alloc (.cells #[.int .i64 cs[k].lv,.bool cs[k].neg,.slice B0 m0 e0,.slice B1 m1 e1] 33)).setCell ⟨w.heap.size+1,1,none⟩ (.int .i64 (m.b+k)));have nX:(wr.alloc (.cells #[.int .i64 cs[k].lv,.bool cs[k].neg,.slice B0 m0 e0,.slice B1 m1 e1] 33)).setCell ⟨w.heap.size+1,((Pl.mk 2 ng ds cs).lv - 1).toNat,none⟩ (.int .i64 (m.get (Pl.mk 2 ng ds cs).lv+k))=W1:=aV;rw [nX] at s2 s4 S5 HC;have t0:W1.cell? ⟨wr.heap.size,0,none⟩=some (.int .i64 cs[k].lv):=by rw [s4]; simp [go_sem]
    have t1:W1.cell? ⟨wr.heap.size,1,none⟩=some (.bool cs[k].neg):=by rw [s4]; simp [go_sem]
    have t2:W1.cell? ⟨wr.heap.size,2,none⟩=some (.slice B0 m0 e0):=by rw [s4]; simp [go_sem]
    have t3:W1.cell? ⟨wr.heap.size,3,none⟩=some (.slice B1 m1 e1):=by rw [s4]; simp [go_sem]
    obtain ⟨x0,x1,x2,x3⟩:=s2;have Eo:=hid aV;clear bP bC ah q1 q2 q3 q4 q5 q6 s1 s3 s4 s5 hx nX
    change W1.cell? ⟨w.heap.size+1,0,none⟩=some (.int .i64 m.a) at x0
    change W1.cell? ⟨w.heap.size+1,1,none⟩=some (.int .i64 (m.b+k)) at x1
    change W1.cell? ⟨w.heap.size+1,2,none⟩=some (.int .i64 m.c) at x2
    change W1.cell? ⟨w.heap.size+1,3,none⟩=some (.int .i64 m.d) at x3
    simp only [Pl.lv,Pl.cs] at HC S5;have oz:w.heap.size < wr.heap.size:=by omega
    have JH:w.heap.size+1 < wr.heap.size:=by omega
    have jL:IntKind.i64.wrap (m.b+k)=m.b+k:=by rw [rk]; omega
    generalize cs[k]=ckk at *;go_wp2_with fail;refine HC.out.mono ?_;rintro e w2 nP;obtain ⟨EE,A2,c2,rfl,e2,hinv⟩:=S5.out _ _ nP;rw [ra] at e2;subst e2;have HN:=hid hinv;clear nP hinv HC S5 Eo aV t0 t1 t2 t3 x0 x1 x2 x3 a0 a1 a2 a3 d0 d1 d2 d3 b0 b1 b2 b3 bG;go_wp2_with fail
    go_roundw
    case rel=>exact ⟨k+1,by omega,by go_num,⟨A2,c2,rfl⟩,HN⟩
    case measure=>simp [intOf]; omega
  · have df:k=cs.length:=by omega
    have eu:cs.take k=cs:=by rw [df,pP]
    rw [eu] at HI;rw [eu];have HF:Hid (jai (some L) w0.heap.size (.slice At l.length ct) (l ++ xe m 2 (m.get 2) cs) w (.returned (.slice Ak (l.length+(xe m 2 (m.get 2) cs).length) ck)) wr):=by
     obtain ⟨h1,-,-,-,h5,h6,h7,-⟩:=HI.out;simp only [Pl.cs,Pl.lv,eu] at h1;exact ⟨_,rfl,h1,h5,h6,h7.imp id (fun h R hR=>by have:=h R hR; omega)⟩
    clear hx bG HI eu df;go_wp2_with fail;go_ret;exact HF.out
theorem vb7 {w0 w:World} {q:Nat->Prop} {L n:Nat} (ih:kbk w0 q L n) (p:Pl) (v:Value) (m:Mo) (E:Int) (l:Sp) (tv:Value) (hn:p.sz < n+1) (gY:p.dm<=L) (h:PlV w0 q p v) (aC:Ext w0 w) (ht:TsV (some L) w0.heap.size w tv l) (hm:m.qe) (hE:m.le E) (Ba:E+p.sz<=4611686018427387904) (hlen:l.length+p.sz<=1099511627776) (hl:p.lv=3):Calls Tryz.prog 65 #[tv,v,moV m] w (jai (some L) w0.heap.size tv (l ++ p.qt m) w):=by
 have zX:=hid ht;have ay:=hid aC;have IH:=hid ih;obtain ⟨A0,n0,c0,A,c,rfl,au,dP,dC,h4⟩:=h.open_;obtain ⟨lv,ng,ds,cs⟩:=p
 change lv=3 at hl
 subst hl;simp only [Pl.cs,Pl.ds,Pl.lv,Pl.neg,plV] at *;have qJ:(Pl.mk 3 ng ds cs).qt m=xe m 3 (m.get 3) cs:=by rw [Pl.qt,if_neg (by omega),if_neg (by omega)]
 rw [qJ];have EO:(Pl.mk 3 ng ds cs).sz=vk cs+1:=by rw [Pl.sz]
 have qU:ww cs<=(Pl.mk 3 ng ds cs).dm:=by rw [Pl.dm]; exact Sb _ _
 have H4:=hid h4;have KE:0<=m.c/\m.c<=E:=⟨by unfold Mo.qe at hm; omega,by unfold Mo.le at hE; omega⟩;have rC:=xad cs;have ru:Hid (∀ k (hk:k < cs.length),cs[k].sz < n/\cs[k].dm<=L/\(m.put 3 (m.get 3+k)).qe/\(m.put 3 (m.get 3+k)).le (E+k)/\E+k+cs[k].sz<=4611686018427387904/\(l ++ xe m 3 (m.get 3) (cs.take k)).length+cs[k].sz<=1099511627776):=by
  have:∀ k (hk:k < cs.length),cs[k].sz < n/\cs[k].dm<=L/\(m.put 3 (m.get 3+k)).qe/\(m.put 3 (m.get 3+k)).le (E+k)/\E+k+cs[k].sz<=4611686018427387904/\(l ++ xe m 3 (m.get 3) (cs.take k)).length+cs[k].sz<=1099511627776:=fun k hk=>by
   have h1:=yal (pt hk);have h2:=xap (pt hk);have h3:=zai (cs.take k) m 3 (m.get 3);have h5:=zax cs k hk;have h6:=xad (cs.take k);rw [pA] at h6;have hg:m.get 3=m.c:=rfl;exact ⟨by omega,by omega,Mo.yv hm (by omega),(hE.mono (by omega)).put _ _ (by omega),by omega,by rw [ra]; omega⟩
  exact this
 obtain ⟨W,hW⟩:=n_m ((w.alloc (.cells #[.int .i64 3,.bool ng,.slice A0 n0 c0,.slice A cs.length c] 33)).alloc (.cells #[.int .i64 m.a,.int .i64 m.b,.int .i64 m.c,.int .i64 m.d] 61));have ai:Ext w W:=by rw [<- hW]; exact ((Ext.refl w).alloc _).alloc _
 have dG:W.heap.size=w.heap.size+1+1:=by rw [<- hW]; simp
 have bV:jb W w.heap.size (.mk 3 ng ds cs) (.slice A0 n0 c0) (.slice A cs.length c):=by rw [<- hW]; exact (jb.new w (.mk 3 ng ds cs) _ _ _).ext ((Ext.refl _).alloc _) (by simp)
 have iK:vw W (w.heap.size+1) m:=by
  have:=vw.new (w.alloc (.cells #[.int .i64 3,.bool ng,.slice A0 n0 c0,.slice A cs.length c] 33)) m 61;rw [hW] at this;simpa using this
 have uB:∀ i,W.frozen? ⟨w.heap.size+1,i,none⟩=false:=fun i=>by rw [<- hW]; simp [go_sem]
 have kK:Hid (xag w0 w L (.mk 3 ng ds cs) (.slice A0 n0 c0) (.slice A cs.length c) m tv l 0 tv W):=by
  refine ⟨?_,⟨m.get 3,?_⟩,uB,bV,⟨ai.below.os,ai.below.tape,ai.below.output,ai.size,fun i hi _=>ai.below.block i hi⟩,fun v ds hv=>hv.ext ai,.inl rfl,by omega⟩
  · simp only [Pl.cs,s9,xe,si]; exact ht.ext ai
  · rw [show (Pl.mk 3 ng ds cs).lv=3 from rfl,Mo.vn]; exact iK
 obtain ⟨b0,b1,b2,b3⟩:=bV;obtain ⟨d0,d1,d2,d3⟩:=iK;simp only [Pl.lv,Pl.neg] at b0 b1;obtain ⟨At,ct,rfl,-,-⟩:=ht.len;have OJ:cs.length<=1099511627776:=by omega
 have HE:=hid Ba;clear ht h au h4 ai ih aC hm hE qJ qU rC uB gY;unfold moV;go_enter Tryz.func65,Tryz.ntmps65;go_wp2_with fail;clear hW b0 b1 b2 b3 d0 d1 d2 d3
 go_loopw [0,34] (fun mZ iv wr=>∃ k:Nat,k<=cs.length/\iv=.int .i64 k/\(∃ Ak ck,mZ=.slice Ak (l.length+(xe m 3 (m.get 3) (cs.take k)).length) ck)/\Hid (xag w0 w L (.mk 3 ng ds cs) (.slice A0 n0 c0) (.slice A cs.length c) m (.slice At l.length ct) l k mZ wr)) (fun _ iv _=>cs.length - (intOf iv).toNat)
 case atStart=>exact ⟨0,pS _,rfl,⟨At,ct,by rw [s9,xe,r8,s8]⟩,kK⟩
 case round =>
  obtain ⟨k,hk,rfl,⟨Ak,ck,rfl⟩,HI⟩:=hrel;have hx:=HI.out.qaD ay.out zX.out;obtain ⟨-,⟨e,d0,d1,d2,d3⟩,bG,⟨b0,b1,b2,b3⟩,-,-,-,Zz⟩:=id HI.out;simp only [Pl.lv,Pl.neg] at b0 b1 d0 d1 d2 d3
  by_cases af:k < cs.length
  · obtain ⟨ad,B0,m0,e0,B1,m1,e1,rfl,ah,bP,bC⟩:=jd.ym H4.out k af;obtain ⟨a0,a1,a2,a3⟩:=bP.ext hx (by rw [ja]; exact ah);obtain ⟨q1,q2,q3,q4,q5,q6⟩:=ru.out k af;have gJ:=HI.out.step ay.out zX.out (by simp [Pl.lv]) af (.cells #[.int .i64 cs[k].lv,.bool cs[k].neg,.slice B0 m0 e0,.slice B1 m1 e1] 33) _ rfl;obtain ⟨s1,s2,s3,s4,s5⟩:=gJ;have HC:=hid (IH.out cs[k] _ _ _ _ _ _ q1 q2 (bC) s3 s1 q3 q4 q5 q6);have S5:=hid s5;obtain ⟨W1,aV⟩:=n_m ((wr.alloc (.cells #[.int .i64 cs[k].lv,.bool cs[k].neg,.slice B0 m0 e0,.slice B1 m1 e1] 33)).setCell ⟨w.heap.size+1,2,none⟩ (.int .i64 (m.c+k)));have nX:(wr.alloc (.cells #[.int .i64 cs[k].lv,.bool cs[k].neg,.slice B0 m0 e0,.slice B1 m1 e1] 33)).setCell ⟨w.heap.size+1,((Pl.mk 3 ng ds cs).lv - 1).toNat,none⟩ (.int .i64 (m.get (Pl.mk 3 ng ds cs).lv+k))=W1:=aV;rw [nX] at s2 s4 S5 HC;have t0:W1.cell? ⟨wr.heap.size,0,none⟩=some (.int .i64 cs[k].lv):=by rw [s4]; simp [go_sem]
    have t1:W1.cell? ⟨wr.heap.size,1,none⟩=some (.bool cs[k].neg):=by rw [s4]; simp [go_sem]
    have t2:W1.cell? ⟨wr.heap.size,2,none⟩=some (.slice B0 m0 e0):=by rw [s4]; simp [go_sem]
    have t3:W1.cell? ⟨wr.heap.size,3,none⟩=some (.slice B1 m1 e1):=by rw [s4]; simp [go_sem]
    obtain ⟨x0,x1,x2,x3⟩:=s2;have Eo:=hid aV;clear bP bC ah q1 q2 q3 q4 q5 q6 s1 s3 s4 s5 hx nX
    change W1.cell? ⟨w.heap.size+1,0,none⟩=some (.int .i64 m.a) at x0
    change W1.cell? ⟨w.heap.size+1,1,none⟩=some (.int .i64 m.b) at x1
    change W1.cell? ⟨w.heap.size+1,2,none⟩=some (.int .i64 (m.c+k)) at x2
    change W1.cell? ⟨w.heap.size+1,3,none⟩=some (.int .i64 m.d) at x3
    simp only [Pl.lv,Pl.cs] at HC S5;have oz:w.heap.size < wr.heap.size:=by omega
    have JH:w.heap.size+1 < wr.heap.size:=by omega
    have jL:IntKind.i64.wrap (m.c+k)=m.c+k:=by rw [rk]; omega
    generalize cs[k]=ckk at *;go_wp2_with fail;refine HC.out.mono ?_;rintro e w2 nP;obtain ⟨EE,A2,c2,rfl,e2,hinv⟩:=S5.out _ _ nP;rw [ra] at e2;subst e2;have HN:=hid hinv;clear nP hinv HC S5 Eo aV t0 t1 t2 t3 x0 x1 x2 x3 a0 a1 a2 a3 d0 d1 d2 d3 b0 b1 b2 b3 bG;go_wp2_with fail
    go_roundw
    case rel=>exact ⟨k+1,by omega,by go_num,⟨A2,c2,rfl⟩,HN⟩
    case measure=>simp [intOf]; omega
  · have df:k=cs.length:=by omega
    have eu:cs.take k=cs:=by rw [df,pP]
    rw [eu] at HI;rw [eu];have HF:Hid (jai (some L) w0.heap.size (.slice At l.length ct) (l ++ xe m 3 (m.get 3) cs) w (.returned (.slice Ak (l.length+(xe m 3 (m.get 3) cs).length) ck)) wr):=by
     obtain ⟨h1,-,-,-,h5,h6,h7,-⟩:=HI.out;simp only [Pl.cs,Pl.lv,eu] at h1;exact ⟨_,rfl,h1,h5,h6,h7.imp id (fun h R hR=>by have:=h R hR; omega)⟩
    clear hx bG HI eu df;go_wp2_with fail;go_ret;exact HF.out
theorem kb7 {w0 w:World} {q:Nat->Prop} {L n:Nat} (ih:kbk w0 q L n) (p:Pl) (v:Value) (m:Mo) (E:Int) (l:Sp) (tv:Value) (hn:p.sz < n+1) (gY:p.dm<=L) (h:PlV w0 q p v) (aC:Ext w0 w) (ht:TsV (some L) w0.heap.size w tv l) (hm:m.qe) (hE:m.le E) (Ba:E+p.sz<=4611686018427387904) (hlen:l.length+p.sz<=1099511627776) (hl:p.lv=4):Calls Tryz.prog 65 #[tv,v,moV m] w (jai (some L) w0.heap.size tv (l ++ p.qt m) w):=by
 have zX:=hid ht;have ay:=hid aC;have IH:=hid ih;obtain ⟨A0,n0,c0,A,c,rfl,au,dP,dC,h4⟩:=h.open_;obtain ⟨lv,ng,ds,cs⟩:=p
 change lv=4 at hl
 subst hl;simp only [Pl.cs,Pl.ds,Pl.lv,Pl.neg,plV] at *;have qJ:(Pl.mk 4 ng ds cs).qt m=xe m 4 (m.get 4) cs:=by rw [Pl.qt,if_neg (by omega),if_neg (by omega)]
 rw [qJ];have EO:(Pl.mk 4 ng ds cs).sz=vk cs+1:=by rw [Pl.sz]
 have qU:ww cs<=(Pl.mk 4 ng ds cs).dm:=by rw [Pl.dm]; exact Sb _ _
 have H4:=hid h4;have KE:0<=m.d/\m.d<=E:=⟨by unfold Mo.qe at hm; omega,by unfold Mo.le at hE; omega⟩;have rC:=xad cs;have ru:Hid (∀ k (hk:k < cs.length),cs[k].sz < n/\cs[k].dm<=L/\(m.put 4 (m.get 4+k)).qe/\(m.put 4 (m.get 4+k)).le (E+k)/\E+k+cs[k].sz<=4611686018427387904/\(l ++ xe m 4 (m.get 4) (cs.take k)).length+cs[k].sz<=1099511627776):=by
  have:∀ k (hk:k < cs.length),cs[k].sz < n/\cs[k].dm<=L/\(m.put 4 (m.get 4+k)).qe/\(m.put 4 (m.get 4+k)).le (E+k)/\E+k+cs[k].sz<=4611686018427387904/\(l ++ xe m 4 (m.get 4) (cs.take k)).length+cs[k].sz<=1099511627776:=fun k hk=>by
   have h1:=yal (pt hk);have h2:=xap (pt hk);have h3:=zai (cs.take k) m 4 (m.get 4);have h5:=zax cs k hk;have h6:=xad (cs.take k);rw [pA] at h6;have hg:m.get 4=m.d:=rfl;exact ⟨by omega,by omega,Mo.yv hm (by omega),(hE.mono (by omega)).put _ _ (by omega),by omega,by rw [ra]; omega⟩
  exact this
 obtain ⟨W,hW⟩:=n_m ((w.alloc (.cells #[.int .i64 4,.bool ng,.slice A0 n0 c0,.slice A cs.length c] 33)).alloc (.cells #[.int .i64 m.a,.int .i64 m.b,.int .i64 m.c,.int .i64 m.d] 61));have ai:Ext w W:=by rw [<- hW]; exact ((Ext.refl w).alloc _).alloc _
 have dG:W.heap.size=w.heap.size+1+1:=by rw [<- hW]; simp
 have bV:jb W w.heap.size (.mk 4 ng ds cs) (.slice A0 n0 c0) (.slice A cs.length c):=by rw [<- hW]; exact (jb.new w (.mk 4 ng ds cs) _ _ _).ext ((Ext.refl _).alloc _) (by simp)
 have iK:vw W (w.heap.size+1) m:=by
  have:=vw.new (w.alloc (.cells #[.int .i64 4,.bool ng,.slice A0 n0 c0,.slice A cs.length c] 33)) m 61;rw [hW] at this;simpa using this
 have uB:∀ i,W.frozen? ⟨w.heap.size+1,i,none⟩=false:=fun i=>by rw [<- hW]; simp [go_sem]
 have kK:Hid (xag w0 w L (.mk 4 ng ds cs) (.slice A0 n0 c0) (.slice A cs.length c) m tv l 0 tv W):=by
  refine ⟨?_,⟨m.get 4,?_⟩,uB,bV,⟨ai.below.os,ai.below.tape,ai.below.output,ai.size,fun i hi _=>ai.below.block i hi⟩,fun v ds hv=>hv.ext ai,.inl rfl,by omega⟩
  · simp only [Pl.cs,s9,xe,si]; exact ht.ext ai
  · rw [show (Pl.mk 4 ng ds cs).lv=4 from rfl,Mo.vn]; exact iK
 obtain ⟨b0,b1,b2,b3⟩:=bV;obtain ⟨d0,d1,d2,d3⟩:=iK;simp only [Pl.lv,Pl.neg] at b0 b1;obtain ⟨At,ct,rfl,-,-⟩:=ht.len;have OJ:cs.length<=1099511627776:=by omega
 have HE:=hid Ba;clear ht h au h4 ai ih aC hm hE qJ qU rC uB gY;unfold moV;go_enter Tryz.func65,Tryz.ntmps65;go_wp2_with fail;clear hW b0 b1 b2 b3 d0 d1 d2 d3
 go_loopw [0,34] (fun mZ iv wr=>∃ k:Nat,k<=cs.length/\iv=.int .i64 k/\(∃ Ak ck,mZ=.slice Ak (l.length+(xe m 4 (m.get 4) (cs.take k)).length) ck)/\Hid (xag w0 w L (.mk 4 ng ds cs) (.slice A0 n0 c0) (.slice A cs.length c) m (.slice At l.length ct) l k mZ wr)) (fun _ iv _=>cs.length - (intOf iv).toNat)
 case atStart=>exact ⟨0,pS _,rfl,⟨At,ct,by rw [s9,xe,r8,s8]⟩,kK⟩
 case round =>
  obtain ⟨k,hk,rfl,⟨Ak,ck,rfl⟩,HI⟩:=hrel;have hx:=HI.out.qaD ay.out zX.out;obtain ⟨-,⟨e,d0,d1,d2,d3⟩,bG,⟨b0,b1,b2,b3⟩,-,-,-,Zz⟩:=id HI.out;simp only [Pl.lv,Pl.neg] at b0 b1 d0 d1 d2 d3
  by_cases af:k < cs.length
  · obtain ⟨ad,B0,m0,e0,B1,m1,e1,rfl,ah,bP,bC⟩:=jd.ym H4.out k af;obtain ⟨a0,a1,a2,a3⟩:=bP.ext hx (by rw [ja]; exact ah);obtain ⟨q1,q2,q3,q4,q5,q6⟩:=ru.out k af;have gJ:=HI.out.step ay.out zX.out (by simp [Pl.lv]) af (.cells #[.int .i64 cs[k].lv,.bool cs[k].neg,.slice B0 m0 e0,.slice B1 m1 e1] 33) _ rfl;obtain ⟨s1,s2,s3,s4,s5⟩:=gJ;have HC:=hid (IH.out cs[k] _ _ _ _ _ _ q1 q2 (bC) s3 s1 q3 q4 q5 q6);have S5:=hid s5;obtain ⟨W1,aV⟩:=n_m ((wr.alloc (.cells #[.int .i64 cs[k].lv,.bool cs[k].neg,.slice B0 m0 e0,.slice B1 m1 e1] 33)).setCell ⟨w.heap.size+1,3,none⟩ (.int .i64 (m.d+k)));have nX:(wr.alloc (.cells #[.int .i64 cs[k].lv,.bool cs[k].neg,.slice B0 m0 e0,.slice B1 m1 e1] 33)).setCell ⟨w.heap.size+1,((Pl.mk 4 ng ds cs).lv - 1).toNat,none⟩ (.int .i64 (m.get (Pl.mk 4 ng ds cs).lv+k))=W1:=aV;rw [nX] at s2 s4 S5 HC;have t0:W1.cell? ⟨wr.heap.size,0,none⟩=some (.int .i64 cs[k].lv):=by rw [s4]; simp [go_sem]
    have t1:W1.cell? ⟨wr.heap.size,1,none⟩=some (.bool cs[k].neg):=by rw [s4]; simp [go_sem]
    have t2:W1.cell? ⟨wr.heap.size,2,none⟩=some (.slice B0 m0 e0):=by rw [s4]; simp [go_sem]
    have t3:W1.cell? ⟨wr.heap.size,3,none⟩=some (.slice B1 m1 e1):=by rw [s4]; simp [go_sem]
    obtain ⟨x0,x1,x2,x3⟩:=s2;have Eo:=hid aV;clear bP bC ah q1 q2 q3 q4 q5 q6 s1 s3 s4 s5 hx nX
    change W1.cell? ⟨w.heap.size+1,0,none⟩=some (.int .i64 m.a) at x0
    change W1.cell? ⟨w.heap.size+1,1,none⟩=some (.int .i64 m.b) at x1
    change W1.cell? ⟨w.heap.size+1,2,none⟩=some (.int .i64 m.c) at x2
    change W1.cell? ⟨w.heap.size+1,3,none⟩=some (.int .i64 (m.d+k)) at x3
    simp only [Pl.lv,Pl.cs] at HC S5;have oz:w.heap.size < wr.heap.size:=by omega
    have JH:w.heap.size+1 < wr.heap.size:=by omega
    have jL:IntKind.i64.wrap (m.d+k)=m.d+k:=by rw [rk]; omega
    generalize cs[k]=ckk at *;go_wp2_with fail;refine HC.out.mono ?_;rintro e w2 nP;obtain ⟨EE,A2,c2,rfl,e2,hinv⟩:=S5.out _ _ nP;rw [ra] at e2;subst e2;have HN:=hid hinv;clear nP hinv HC S5 Eo aV t0 t1 t2 t3 x0 x1 x2 x3 a0 a1 a2 a3 d0 d1 d2 d3 b0 b1 b2 b3 bG;go_wp2_with fail
    go_roundw
    case rel=>exact ⟨k+1,by omega,by go_num,⟨A2,c2,rfl⟩,HN⟩
    case measure=>simp [intOf]; omega
  · have df:k=cs.length:=by omega
    have eu:cs.take k=cs:=by rw [df,pP]
    rw [eu] at HI;rw [eu];have HF:Hid (jai (some L) w0.heap.size (.slice At l.length ct) (l ++ xe m 4 (m.get 4) cs) w (.returned (.slice Ak (l.length+(xe m 4 (m.get 4) cs).length) ck)) wr):=by
     obtain ⟨h1,-,-,-,h5,h6,h7,-⟩:=HI.out;simp only [Pl.cs,Pl.lv,eu] at h1;exact ⟨_,rfl,h1,h5,h6,h7.imp id (fun h R hR=>by have:=h R hR; omega)⟩
    clear hx bG HI eu df;go_wp2_with fail;go_ret;exact HF.out
theorem zch (w0:World) (q:Nat->Prop) (L n:Nat):kbk w0 q L n:=by
 induction n with
 | zero=>intro p v m E l tv w h; omega
 | succ n ih =>
   intro p v m E l tv w hn gY h aC ht hm hE Ba hlen
   by_cases h0:p.lv<=0
   · exact yb1 p v m l tv gY h aC ht hlen h0
   · by_cases h4:4 < p.lv
     · exact xb1 p v m l tv h aC ht h4
     · rcases (show p.lv=1\/p.lv=2\/p.lv=3\/p.lv=4 by omega) with h1 | h1 | h1 | h1
       · exact gb7 ih p v m E l tv hn gY h aC ht hm hE Ba hlen h1
       · exact ub7 ih p v m E l tv hn gY h aC ht hm hE Ba hlen h1
       · exact vb7 ih p v m E l tv hn gY h aC ht hm hE Ba hlen h1
       · exact kb7 ih p v m E l tv hn gY h aC ht hm hE Ba hlen h1
theorem ybc {w:World} {q:Nat->Prop} (p:Pl) (v:Value) (L:Nat) (gY:p.dm<=L) (hsz:p.sz<=1099511627776) (h:PlV w q p v):Calls Tryz.prog 65 #[.slice none 0 0,v,moV Mo.one] w fun e w'=>∃ tv,e=.returned tv/\TsV (some L) w.heap.size w' tv (p.qt Mo.one)/\Ext w w':=
 (zch w q L (p.sz+1) p v Mo.one 0 [] (.slice none 0 0) w (tx _) gY h (Ext.refl w) (TsV.nil _ _ _) Mo.one_nonneg Mo.one_le (by omega) (by simpa using hsz)).mono fun e w' ⟨tv,he,h1,h2,_,_⟩=>⟨tv,he,by simpa using h1,⟨h2.os,h2.tape,h2.output,h2.size,fun i hi=>h2.block i hi (by simp [Value.ownBlock])⟩⟩
end Go.Proofs.YtcepajijiabkmaaGreat
