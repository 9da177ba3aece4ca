/- Layer 22: recpoly.collect: the loop, once for each level; the whole. -/
import Derived.Test.YtcepajijiabkmaaGreatMq17
set_option linter.unusedSimpArgs false
set_option linter.unusedVariables false

set_option maxRecDepth 100000
set_option maxHeartbeats 8000000
namespace Go.Proofs.YtcepajijiabkmaaGreat
open Lib (hid)
open Go.RowKit
theorem ub4 {w0 w:World} {q:Nat->Prop} {L n:Nat} (ih:qbi w0 q L n) (p:Pl) (v:Value) (m:Mo) (E:Int) (l:Sp) (tv:Value) (hn:p.sz < n+1) (fG:p.dm<=L) (h:PlV w0 q p v) (aF:Ext w0 w) (ht:TsV (some L) w0.heap.size w tv l) (hm:m.nonneg) (hE:m.le E) (yQ:E+p.sz<=4611686018427387904) (hlen:l.length+p.sz<=1099511627776) (hl:p.lv=1):Calls Tryz.prog 65 #[tv,v,moV m] w (zah (some L) w0.heap.size tv (l ++ p.terms m) w):=by
 have xU:=hid ht;have ay:=hid aF;have IH:=hid ih;obtain ⟨A0,n0,c0,A,c,rfl,ak,dY,dK,h4⟩:=h.open_;obtain ⟨lv,ng,ds,cs⟩:=p
 change lv=1 at hl
 subst hl;simp only [Pl.cs,Pl.ds,Pl.lv,Pl.neg,plV] at *;have oh:(Pl.mk 1 ng ds cs).terms m=xe m 1 (m.get 1) cs:=by rw [Pl.terms,if_neg (by omega),if_neg (by omega)]
 rw [oh];have Dh:(Pl.mk 1 ng ds cs).sz=xk cs+1:=by rw [Pl.sz]
 have oM:qx cs<=(Pl.mk 1 ng ds cs).dm:=by rw [Pl.dm]; exact Nat.le_max_right _ _
 have H4:=hid h4;have XB:0<=m.a/\m.a<=E:=⟨by unfold Mo.nonneg at hm; omega,by unfold Mo.le at hE; omega⟩;have oV:=vac cs;have oQ:Hid (∀ k (hk:k < cs.length),cs[k].sz < n/\cs[k].dm<=L/\(m.put 1 (m.get 1+k)).nonneg/\(m.put 1 (m.get 1+k)).le (E+k)/\E+k+cs[k].sz<=4611686018427387904/\(l ++ xe m 1 (m.get 1) (cs.take k)).length+cs[k].sz<=1099511627776):=by
  have:∀ k (hk:k < cs.length),cs[k].sz < n/\cs[k].dm<=L/\(m.put 1 (m.get 1+k)).nonneg/\(m.put 1 (m.get 1+k)).le (E+k)/\E+k+cs[k].sz<=4611686018427387904/\(l ++ xe m 1 (m.get 1) (cs.take k)).length+cs[k].sz<=1099511627776:=fun k hk=>by
   have h1:=xak (List.getElem_mem hk);have h2:=kan (List.getElem_mem hk);have h3:=jag (cs.take k) m 1 (m.get 1);have h5:=xav cs k hk;have h6:=vac (cs.take k);rw [List.length_take] at h6;have hg:m.get 1=m.a:=rfl;exact ⟨by omega,by omega,Mo.put_nonneg hm (by omega),(hE.mono (by omega)).put _ _ (by omega),by omega,by rw [List.length_append]; omega⟩
  exact this
 obtain ⟨W,hW⟩:=n_m ((w.alloc (.cells #[.int .i64 1,.bool ng,.slice A0 n0 c0,.slice A cs.length c] 33)).alloc (.cells #[.int .i64 m.a,.int .i64 m.b,.int .i64 m.c,.int .i64 m.d] 61));have ag:Ext w W:=by rw [<- hW]; exact ((Ext.refl w).alloc _).alloc _
 have bY:W.heap.size=w.heap.size+1+1:=by rw [<- hW]; simp
 have bJ:jc W w.heap.size (.mk 1 ng ds cs) (.slice A0 n0 c0) (.slice A cs.length c):=by rw [<- hW]; exact (jc.new w (.mk 1 ng ds cs) _ _ _).ext ((Ext.refl _).alloc _) (by simp)
 have iw:vw W (w.heap.size+1) m:=by
  have:=vw.new (w.alloc (.cells #[.int .i64 1,.bool ng,.slice A0 n0 c0,.slice A cs.length c] 33)) m 61;rw [hW] at this;simpa using this
 have rD:∀ i,W.frozen? ⟨w.heap.size+1,i,none⟩=false:=fun i=>by rw [<- hW]; simp [go_sem]
 have kE:Hid (gae w0 w L (.mk 1 ng ds cs) (.slice A0 n0 c0) (.slice A cs.length c) m tv l 0 tv W):=by
  refine ⟨?_,⟨m.get 1,?_⟩,rD,bJ,⟨ag.below.os,ag.below.tape,ag.below.output,ag.size,fun i hi _=>ag.below.block i hi⟩,fun v ds hv=>hv.ext ag,.inl rfl,by omega⟩
  · simp only [Pl.cs,List.take_zero,xe,List.append_nil]; exact ht.ext ag
  · rw [show (Pl.mk 1 ng ds cs).lv=1 from rfl,Mo.put_get]; exact iw
 obtain ⟨b0,b1,b2,b3⟩:=bJ;obtain ⟨d0,d1,d2,d3⟩:=iw;simp only [Pl.lv,Pl.neg] at b0 b1;obtain ⟨At,ct,rfl,-,-⟩:=ht.len;have LC:cs.length<=1099511627776:=by omega
 have HE:=hid yQ;clear ht h ak h4 ag ih aF hm hE oh oM oV rD fG;unfold moV;go_enter Tryz.func65,Tryz.ntmps65;go_wp2_with fail;clear hW b0 b1 b2 b3 d0 d1 d2 d3
 go_loopw [0,34] (fun kT iv wr=>∃ k:Nat,k<=cs.length/\iv=.int .i64 k/\(∃ Ak ck,kT=.slice Ak (l.length+(xe m 1 (m.get 1) (cs.take k)).length) ck)/\Hid (gae w0 w L (.mk 1 ng ds cs) (.slice A0 n0 c0) (.slice A cs.length c) m (.slice At l.length ct) l k kT wr)) (fun _ iv _=>cs.length - (intOf iv).toNat)
 case atStart=>exact ⟨0,Nat.zero_le _,rfl,⟨At,ct,by rw [List.take_zero,xe,List.length_nil,Nat.add_zero]⟩,kE⟩
 case round =>
  obtain ⟨k,hk,rfl,⟨Ak,ck,rfl⟩,HI⟩:=hrel;have hx:=HI.out.ext0 ay.out xU.out;obtain ⟨-,⟨e,d0,d1,d2,d3⟩,bu,⟨b0,b1,b2,b3⟩,-,-,-,VS⟩:=id HI.out;simp only [Pl.lv,Pl.neg] at b0 b1 d0 d1 d2 d3
  by_cases af:k < cs.length
  · obtain ⟨ad,B0,m0,e0,B1,m1,e1,rfl,ah,bF,aV⟩:=jd.kid H4.out k af;obtain ⟨a0,a1,a2,a3⟩:=bF.ext hx (by rw [ja]; exact ah);obtain ⟨q1,q2,q3,q4,q5,q6⟩:=oQ.out k af;have eu:=HI.out.step ay.out xU.out (by simp [Pl.lv]) af (.cells #[.int .i64 cs[k].lv,.bool cs[k].neg,.slice B0 m0 e0,.slice B1 m1 e1] 33) _ rfl;obtain ⟨s1,s2,s3,s4,s5⟩:=eu;have HC:=hid (IH.out cs[k] _ _ _ _ _ _ q1 q2 (aV) s3 s1 q3 q4 q5 q6);have S5:=hid s5;obtain ⟨W1,aP⟩:=n_m ((wr.alloc (.cells #[.int .i64 cs[k].lv,.bool cs[k].neg,.slice B0 m0 e0,.slice B1 m1 e1] 33)).setCell ⟨w.heap.size+1,0,none⟩ (.int .i64 (m.a+k)));have lD:(wr.alloc (.cells #[.int .i64 cs[k].lv,.bool cs[k].neg,.slice B0 m0 e0,.slice B1 m1 e1] 33)).setCell ⟨w.heap.size+1,((Pl.mk 1 ng ds cs).lv - 1).toNat,none⟩ (.int .i64 (m.get (Pl.mk 1 ng ds cs).lv+k))=W1:=aP;rw [lD] at s2 s4 S5 HC;have t0:W1.cell? ⟨wr.heap.size,0,none⟩=some (.int .i64 cs[k].lv):=by rw [s4]; simp [go_sem]
    have t1:W1.cell? ⟨wr.heap.size,1,none⟩=some (.bool cs[k].neg):=by rw [s4]; simp [go_sem]
    have t2:W1.cell? ⟨wr.heap.size,2,none⟩=some (.slice B0 m0 e0):=by rw [s4]; simp [go_sem]
    have t3:W1.cell? ⟨wr.heap.size,3,none⟩=some (.slice B1 m1 e1):=by rw [s4]; simp [go_sem]
    obtain ⟨x0,x1,x2,x3⟩:=s2;have JJ:=hid aP;clear bF aV ah q1 q2 q3 q4 q5 q6 s1 s3 s4 s5 hx lD
    change W1.cell? ⟨w.heap.size+1,0,none⟩=some (.int .i64 (m.a+k)) at x0
    change W1.cell? ⟨w.heap.size+1,1,none⟩=some (.int .i64 m.b) at x1
    change W1.cell? ⟨w.heap.size+1,2,none⟩=some (.int .i64 m.c) at x2
    change W1.cell? ⟨w.heap.size+1,3,none⟩=some (.int .i64 m.d) at x3
    simp only [Pl.lv,Pl.cs] at HC S5;have lK:w.heap.size < wr.heap.size:=by omega
    have Hu:w.heap.size+1 < wr.heap.size:=by omega
    have og:IntKind.i64.wrap (m.a+k)=m.a+k:=by rw [IntKind.wrap_i64]; omega
    generalize cs[k]=ckk at *;go_wp2_with fail;refine HC.out.mono ?_;rintro e w2 lu;obtain ⟨CX,A2,c2,rfl,e2,hinv⟩:=S5.out _ _ lu;rw [List.length_append] at e2;subst e2;have HN:=hid hinv;clear lu hinv HC S5 JJ aP t0 t1 t2 t3 x0 x1 x2 x3 a0 a1 a2 a3 d0 d1 d2 d3 b0 b1 b2 b3 bu;go_wp2_with fail
    go_roundw
    case rel=>exact ⟨k+1,by omega,by go_num,⟨A2,c2,rfl⟩,HN⟩
    case measure=>simp [intOf]; omega
  · have bV:k=cs.length:=by omega
    have dD:cs.take k=cs:=by rw [bV,List.take_length]
    rw [dD] at HI;rw [dD];have HF:Hid (zah (some L) w0.heap.size (.slice At l.length ct) (l ++ xe m 1 (m.get 1) cs) w (.returned (.slice Ak (l.length+(xe m 1 (m.get 1) cs).length) ck)) wr):=by
     obtain ⟨h1,-,-,-,h5,h6,h7,-⟩:=HI.out;simp only [Pl.cs,Pl.lv,dD] at h1;exact ⟨_,rfl,h1,h5,h6,h7.imp id (fun h R hR=>by have:=h R hR; omega)⟩
    clear hx bu HI dD bV;go_wp2_with fail;go_ret;exact HF.out
theorem vb4 {w0 w:World} {q:Nat->Prop} {L n:Nat} (ih:qbi w0 q L n) (p:Pl) (v:Value) (m:Mo) (E:Int) (l:Sp) (tv:Value) (hn:p.sz < n+1) (fG:p.dm<=L) (h:PlV w0 q p v) (aF:Ext w0 w) (ht:TsV (some L) w0.heap.size w tv l) (hm:m.nonneg) (hE:m.le E) (yQ:E+p.sz<=4611686018427387904) (hlen:l.length+p.sz<=1099511627776) (hl:p.lv=2):Calls Tryz.prog 65 #[tv,v,moV m] w (zah (some L) w0.heap.size tv (l ++ p.terms m) w):=by
 have xU:=hid ht;have ay:=hid aF;have IH:=hid ih;obtain ⟨A0,n0,c0,A,c,rfl,ak,dY,dK,h4⟩:=h.open_;obtain ⟨lv,ng,ds,cs⟩:=p
 change lv=2 at hl
 subst hl;simp only [Pl.cs,Pl.ds,Pl.lv,Pl.neg,plV] at *;have oh:(Pl.mk 2 ng ds cs).terms m=xe m 2 (m.get 2) cs:=by rw [Pl.terms,if_neg (by omega),if_neg (by omega)]
 rw [oh];have Dh:(Pl.mk 2 ng ds cs).sz=xk cs+1:=by rw [Pl.sz]
 have oM:qx cs<=(Pl.mk 2 ng ds cs).dm:=by rw [Pl.dm]; exact Nat.le_max_right _ _
 have H4:=hid h4;have XB:0<=m.b/\m.b<=E:=⟨by unfold Mo.nonneg at hm; omega,by unfold Mo.le at hE; omega⟩;have oV:=vac cs;have oQ:Hid (∀ k (hk:k < cs.length),cs[k].sz < n/\cs[k].dm<=L/\(m.put 2 (m.get 2+k)).nonneg/\(m.put 2 (m.get 2+k)).le (E+k)/\E+k+cs[k].sz<=4611686018427387904/\(l ++ xe m 2 (m.get 2) (cs.take k)).length+cs[k].sz<=1099511627776):=by
  have:∀ k (hk:k < cs.length),cs[k].sz < n/\cs[k].dm<=L/\(m.put 2 (m.get 2+k)).nonneg/\(m.put 2 (m.get 2+k)).le (E+k)/\E+k+cs[k].sz<=4611686018427387904/\(l ++ xe m 2 (m.get 2) (cs.take k)).length+cs[k].sz<=1099511627776:=fun k hk=>by
   have h1:=xak (List.getElem_mem hk);have h2:=kan (List.getElem_mem hk);have h3:=jag (cs.take k) m 2 (m.get 2);have h5:=xav cs k hk;have h6:=vac (cs.take k);rw [List.length_take] at h6;have hg:m.get 2=m.b:=rfl;exact ⟨by omega,by omega,Mo.put_nonneg hm (by omega),(hE.mono (by omega)).put _ _ (by omega),by omega,by rw [List.length_append]; omega⟩
  exact this
 obtain ⟨W,hW⟩:=n_m ((w.alloc (.cells #[.int .i64 2,.bool ng,.slice A0 n0 c0,.slice A cs.length c] 33)).alloc (.cells #[.int .i64 m.a,.int .i64 m.b,.int .i64 m.c,.int .i64 m.d] 61));have ag:Ext w W:=by rw [<- hW]; exact ((Ext.refl w).alloc _).alloc _
 have bY:W.heap.size=w.heap.size+1+1:=by rw [<- hW]; simp
 have bJ:jc W w.heap.size (.mk 2 ng ds cs) (.slice A0 n0 c0) (.slice A cs.length c):=by rw [<- hW]; exact (jc.new w (.mk 2 ng ds cs) _ _ _).ext ((Ext.refl _).alloc _) (by simp)
 have iw:vw W (w.heap.size+1) m:=by
  have:=vw.new (w.alloc (.cells #[.int .i64 2,.bool ng,.slice A0 n0 c0,.slice A cs.length c] 33)) m 61;rw [hW] at this;simpa using this
 have rD:∀ i,W.frozen? ⟨w.heap.size+1,i,none⟩=false:=fun i=>by rw [<- hW]; simp [go_sem]
 have kE:Hid (gae w0 w L (.mk 2 ng ds cs) (.slice A0 n0 c0) (.slice A cs.length c) m tv l 0 tv W):=by
  refine ⟨?_,⟨m.get 2,?_⟩,rD,bJ,⟨ag.below.os,ag.below.tape,ag.below.output,ag.size,fun i hi _=>ag.below.block i hi⟩,fun v ds hv=>hv.ext ag,.inl rfl,by omega⟩
  · simp only [Pl.cs,List.take_zero,xe,List.append_nil]; exact ht.ext ag
  · rw [show (Pl.mk 2 ng ds cs).lv=2 from rfl,Mo.put_get]; exact iw
 obtain ⟨b0,b1,b2,b3⟩:=bJ;obtain ⟨d0,d1,d2,d3⟩:=iw;simp only [Pl.lv,Pl.neg] at b0 b1;obtain ⟨At,ct,rfl,-,-⟩:=ht.len;have LC:cs.length<=1099511627776:=by omega
 have HE:=hid yQ;clear ht h ak h4 ag ih aF hm hE oh oM oV rD fG;unfold moV;go_enter Tryz.func65,Tryz.ntmps65;go_wp2_with fail;clear hW b0 b1 b2 b3 d0 d1 d2 d3
 go_loopw [0,34] (fun kT iv wr=>∃ k:Nat,k<=cs.length/\iv=.int .i64 k/\(∃ Ak ck,kT=.slice Ak (l.length+(xe m 2 (m.get 2) (cs.take k)).length) ck)/\Hid (gae w0 w L (.mk 2 ng ds cs) (.slice A0 n0 c0) (.slice A cs.length c) m (.slice At l.length ct) l k kT wr)) (fun _ iv _=>cs.length - (intOf iv).toNat)
 case atStart=>exact ⟨0,Nat.zero_le _,rfl,⟨At,ct,by rw [List.take_zero,xe,List.length_nil,Nat.add_zero]⟩,kE⟩
 case round =>
  obtain ⟨k,hk,rfl,⟨Ak,ck,rfl⟩,HI⟩:=hrel;have hx:=HI.out.ext0 ay.out xU.out;obtain ⟨-,⟨e,d0,d1,d2,d3⟩,bu,⟨b0,b1,b2,b3⟩,-,-,-,VS⟩:=id HI.out;simp only [Pl.lv,Pl.neg] at b0 b1 d0 d1 d2 d3
  by_cases af:k < cs.length
  · obtain ⟨ad,B0,m0,e0,B1,m1,e1,rfl,ah,bF,aV⟩:=jd.kid H4.out k af;obtain ⟨a0,a1,a2,a3⟩:=bF.ext hx (by rw [ja]; exact ah);obtain ⟨q1,q2,q3,q4,q5,q6⟩:=oQ.out k af;have eu:=HI.out.step ay.out xU.out (by simp [Pl.lv]) af (.cells #[.int .i64 cs[k].lv,.bool cs[k].neg,.slice B0 m0 e0,.slice B1 m1 e1] 33) _ rfl;obtain ⟨s1,s2,s3,s4,s5⟩:=eu;have HC:=hid (IH.out cs[k] _ _ _ _ _ _ q1 q2 (aV) s3 s1 q3 q4 q5 q6);have S5:=hid s5;obtain ⟨W1,aP⟩:=n_m ((wr.alloc (.cells #[.int .i64 cs[k].lv,.bool cs[k].neg,.slice B0 m0 e0,.slice B1 m1 e1] 33)).setCell ⟨w.heap.size+1,1,none⟩ (.int .i64 (m.b+k)));have lD:(wr.alloc (.cells #[.int .i64 cs[k].lv,.bool cs[k].neg,.slice B0 m0 e0,.slice B1 m1 e1] 33)).setCell ⟨w.heap.size+1,((Pl.mk 2 ng ds cs).lv - 1).toNat,none⟩ (.int .i64 (m.get (Pl.mk 2 ng ds cs).lv+k))=W1:=aP;rw [lD] at s2 s4 S5 HC;have t0:W1.cell? ⟨wr.heap.size,0,none⟩=some (.int .i64 cs[k].lv):=by rw [s4]; simp [go_sem]
    have t1:W1.cell? ⟨wr.heap.size,1,none⟩=some (.bool cs[k].neg):=by rw [s4]; simp [go_sem]
    have t2:W1.cell? ⟨wr.heap.size,2,none⟩=some (.slice B0 m0 e0):=by rw [s4]; simp [go_sem]
    have t3:W1.cell? ⟨wr.heap.size,3,none⟩=some (.slice B1 m1 e1):=by rw [s4]; simp [go_sem]
    obtain ⟨x0,x1,x2,x3⟩:=s2;have JJ:=hid aP;clear bF aV ah q1 q2 q3 q4 q5 q6 s1 s3 s4 s5 hx lD
    change W1.cell? ⟨w.heap.size+1,0,none⟩=some (.int .i64 m.a) at x0
    change W1.cell? ⟨w.heap.size+1,1,none⟩=some (.int .i64 (m.b+k)) at x1
    change W1.cell? ⟨w.heap.size+1,2,none⟩=some (.int .i64 m.c) at x2
    change W1.cell? ⟨w.heap.size+1,3,none⟩=some (.int .i64 m.d) at x3
    simp only [Pl.lv,Pl.cs] at HC S5;have lK:w.heap.size < wr.heap.size:=by omega
    have Hu:w.heap.size+1 < wr.heap.size:=by omega
    have og:IntKind.i64.wrap (m.b+k)=m.b+k:=by rw [IntKind.wrap_i64]; omega
    generalize cs[k]=ckk at *;go_wp2_with fail;refine HC.out.mono ?_;rintro e w2 lu;obtain ⟨CX,A2,c2,rfl,e2,hinv⟩:=S5.out _ _ lu;rw [List.length_append] at e2;subst e2;have HN:=hid hinv;clear lu hinv HC S5 JJ aP t0 t1 t2 t3 x0 x1 x2 x3 a0 a1 a2 a3 d0 d1 d2 d3 b0 b1 b2 b3 bu;go_wp2_with fail
    go_roundw
    case rel=>exact ⟨k+1,by omega,by go_num,⟨A2,c2,rfl⟩,HN⟩
    case measure=>simp [intOf]; omega
  · have bV:k=cs.length:=by omega
    have dD:cs.take k=cs:=by rw [bV,List.take_length]
    rw [dD] at HI;rw [dD];have HF:Hid (zah (some L) w0.heap.size (.slice At l.length ct) (l ++ xe m 2 (m.get 2) cs) w (.returned (.slice Ak (l.length+(xe m 2 (m.get 2) cs).length) ck)) wr):=by
     obtain ⟨h1,-,-,-,h5,h6,h7,-⟩:=HI.out;simp only [Pl.cs,Pl.lv,dD] at h1;exact ⟨_,rfl,h1,h5,h6,h7.imp id (fun h R hR=>by have:=h R hR; omega)⟩
    clear hx bu HI dD bV;go_wp2_with fail;go_ret;exact HF.out
theorem kb4 {w0 w:World} {q:Nat->Prop} {L n:Nat} (ih:qbi w0 q L n) (p:Pl) (v:Value) (m:Mo) (E:Int) (l:Sp) (tv:Value) (hn:p.sz < n+1) (fG:p.dm<=L) (h:PlV w0 q p v) (aF:Ext w0 w) (ht:TsV (some L) w0.heap.size w tv l) (hm:m.nonneg) (hE:m.le E) (yQ:E+p.sz<=4611686018427387904) (hlen:l.length+p.sz<=1099511627776) (hl:p.lv=3):Calls Tryz.prog 65 #[tv,v,moV m] w (zah (some L) w0.heap.size tv (l ++ p.terms m) w):=by
 have xU:=hid ht;have ay:=hid aF;have IH:=hid ih;obtain ⟨A0,n0,c0,A,c,rfl,ak,dY,dK,h4⟩:=h.open_;obtain ⟨lv,ng,ds,cs⟩:=p
 change lv=3 at hl
 subst hl;simp only [Pl.cs,Pl.ds,Pl.lv,Pl.neg,plV] at *;have oh:(Pl.mk 3 ng ds cs).terms m=xe m 3 (m.get 3) cs:=by rw [Pl.terms,if_neg (by omega),if_neg (by omega)]
 rw [oh];have Dh:(Pl.mk 3 ng ds cs).sz=xk cs+1:=by rw [Pl.sz]
 have oM:qx cs<=(Pl.mk 3 ng ds cs).dm:=by rw [Pl.dm]; exact Nat.le_max_right _ _
 have H4:=hid h4;have XB:0<=m.c/\m.c<=E:=⟨by unfold Mo.nonneg at hm; omega,by unfold Mo.le at hE; omega⟩;have oV:=vac cs;have oQ:Hid (∀ k (hk:k < cs.length),cs[k].sz < n/\cs[k].dm<=L/\(m.put 3 (m.get 3+k)).nonneg/\(m.put 3 (m.get 3+k)).le (E+k)/\E+k+cs[k].sz<=4611686018427387904/\(l ++ xe m 3 (m.get 3) (cs.take k)).length+cs[k].sz<=1099511627776):=by
  have:∀ k (hk:k < cs.length),cs[k].sz < n/\cs[k].dm<=L/\(m.put 3 (m.get 3+k)).nonneg/\(m.put 3 (m.get 3+k)).le (E+k)/\E+k+cs[k].sz<=4611686018427387904/\(l ++ xe m 3 (m.get 3) (cs.take k)).length+cs[k].sz<=1099511627776:=fun k hk=>by
   have h1:=xak (List.getElem_mem hk);have h2:=kan (List.getElem_mem hk);have h3:=jag (cs.take k) m 3 (m.get 3);have h5:=xav cs k hk;have h6:=vac (cs.take k);rw [List.length_take] at h6;have hg:m.get 3=m.c:=rfl;exact ⟨by omega,by omega,Mo.put_nonneg hm (by omega),(hE.mono (by omega)).put _ _ (by omega),by omega,by rw [List.length_append]; omega⟩
  exact this
 obtain ⟨W,hW⟩:=n_m ((w.alloc (.cells #[.int .i64 3,.bool ng,.slice A0 n0 c0,.slice A cs.length c] 33)).alloc (.cells #[.int .i64 m.a,.int .i64 m.b,.int .i64 m.c,.int .i64 m.d] 61));have ag:Ext w W:=by rw [<- hW]; exact ((Ext.refl w).alloc _).alloc _
 have bY:W.heap.size=w.heap.size+1+1:=by rw [<- hW]; simp
 have bJ:jc W w.heap.size (.mk 3 ng ds cs) (.slice A0 n0 c0) (.slice A cs.length c):=by rw [<- hW]; exact (jc.new w (.mk 3 ng ds cs) _ _ _).ext ((Ext.refl _).alloc _) (by simp)
 have iw:vw W (w.heap.size+1) m:=by
  have:=vw.new (w.alloc (.cells #[.int .i64 3,.bool ng,.slice A0 n0 c0,.slice A cs.length c] 33)) m 61;rw [hW] at this;simpa using this
 have rD:∀ i,W.frozen? ⟨w.heap.size+1,i,none⟩=false:=fun i=>by rw [<- hW]; simp [go_sem]
 have kE:Hid (gae w0 w L (.mk 3 ng ds cs) (.slice A0 n0 c0) (.slice A cs.length c) m tv l 0 tv W):=by
  refine ⟨?_,⟨m.get 3,?_⟩,rD,bJ,⟨ag.below.os,ag.below.tape,ag.below.output,ag.size,fun i hi _=>ag.below.block i hi⟩,fun v ds hv=>hv.ext ag,.inl rfl,by omega⟩
  · simp only [Pl.cs,List.take_zero,xe,List.append_nil]; exact ht.ext ag
  · rw [show (Pl.mk 3 ng ds cs).lv=3 from rfl,Mo.put_get]; exact iw
 obtain ⟨b0,b1,b2,b3⟩:=bJ;obtain ⟨d0,d1,d2,d3⟩:=iw;simp only [Pl.lv,Pl.neg] at b0 b1;obtain ⟨At,ct,rfl,-,-⟩:=ht.len;have LC:cs.length<=1099511627776:=by omega
 have HE:=hid yQ;clear ht h ak h4 ag ih aF hm hE oh oM oV rD fG;unfold moV;go_enter Tryz.func65,Tryz.ntmps65;go_wp2_with fail;clear hW b0 b1 b2 b3 d0 d1 d2 d3
 go_loopw [0,34] (fun kT iv wr=>∃ k:Nat,k<=cs.length/\iv=.int .i64 k/\(∃ Ak ck,kT=.slice Ak (l.length+(xe m 3 (m.get 3) (cs.take k)).length) ck)/\Hid (gae w0 w L (.mk 3 ng ds cs) (.slice A0 n0 c0) (.slice A cs.length c) m (.slice At l.length ct) l k kT wr)) (fun _ iv _=>cs.length - (intOf iv).toNat)
 case atStart=>exact ⟨0,Nat.zero_le _,rfl,⟨At,ct,by rw [List.take_zero,xe,List.length_nil,Nat.add_zero]⟩,kE⟩
 case round =>
  obtain ⟨k,hk,rfl,⟨Ak,ck,rfl⟩,HI⟩:=hrel;have hx:=HI.out.ext0 ay.out xU.out;obtain ⟨-,⟨e,d0,d1,d2,d3⟩,bu,⟨b0,b1,b2,b3⟩,-,-,-,VS⟩:=id HI.out;simp only [Pl.lv,Pl.neg] at b0 b1 d0 d1 d2 d3
  by_cases af:k < cs.length
  · obtain ⟨ad,B0,m0,e0,B1,m1,e1,rfl,ah,bF,aV⟩:=jd.kid H4.out k af;obtain ⟨a0,a1,a2,a3⟩:=bF.ext hx (by rw [ja]; exact ah);obtain ⟨q1,q2,q3,q4,q5,q6⟩:=oQ.out k af;have eu:=HI.out.step ay.out xU.out (by simp [Pl.lv]) af (.cells #[.int .i64 cs[k].lv,.bool cs[k].neg,.slice B0 m0 e0,.slice B1 m1 e1] 33) _ rfl;obtain ⟨s1,s2,s3,s4,s5⟩:=eu;have HC:=hid (IH.out cs[k] _ _ _ _ _ _ q1 q2 (aV) s3 s1 q3 q4 q5 q6);have S5:=hid s5;obtain ⟨W1,aP⟩:=n_m ((wr.alloc (.cells #[.int .i64 cs[k].lv,.bool cs[k].neg,.slice B0 m0 e0,.slice B1 m1 e1] 33)).setCell ⟨w.heap.size+1,2,none⟩ (.int .i64 (m.c+k)));have lD:(wr.alloc (.cells #[.int .i64 cs[k].lv,.bool cs[k].neg,.slice B0 m0 e0,.slice B1 m1 e1] 33)).setCell ⟨w.heap.size+1,((Pl.mk 3 ng ds cs).lv - 1).toNat,none⟩ (.int .i64 (m.get (Pl.mk 3 ng ds cs).lv+k))=W1:=aP;rw [lD] at s2 s4 S5 HC;have t0:W1.cell? ⟨wr.heap.size,0,none⟩=some (.int .i64 cs[k].lv):=by rw [s4]; simp [go_sem]
    have t1:W1.cell? ⟨wr.heap.size,1,none⟩=some (.bool cs[k].neg):=by rw [s4]; simp [go_sem]
    have t2:W1.cell? ⟨wr.heap.size,2,none⟩=some (.slice B0 m0 e0):=by rw [s4]; simp [go_sem]
    have t3:W1.cell? ⟨wr.heap.size,3,none⟩=some (.slice B1 m1 e1):=by rw [s4]; simp [go_sem]
    obtain ⟨x0,x1,x2,x3⟩:=s2;have JJ:=hid aP;clear bF aV ah q1 q2 q3 q4 q5 q6 s1 s3 s4 s5 hx lD
    change W1.cell? ⟨w.heap.size+1,0,none⟩=some (.int .i64 m.a) at x0
    change W1.cell? ⟨w.heap.size+1,1,none⟩=some (.int .i64 m.b) at x1
    change W1.cell? ⟨w.heap.size+1,2,none⟩=some (.int .i64 (m.c+k)) at x2
    change W1.cell? ⟨w.heap.size+1,3,none⟩=some (.int .i64 m.d) at x3
    simp only [Pl.lv,Pl.cs] at HC S5;have lK:w.heap.size < wr.heap.size:=by omega
    have Hu:w.heap.size+1 < wr.heap.size:=by omega
    have og:IntKind.i64.wrap (m.c+k)=m.c+k:=by rw [IntKind.wrap_i64]; omega
    generalize cs[k]=ckk at *;go_wp2_with fail;refine HC.out.mono ?_;rintro e w2 lu;obtain ⟨CX,A2,c2,rfl,e2,hinv⟩:=S5.out _ _ lu;rw [List.length_append] at e2;subst e2;have HN:=hid hinv;clear lu hinv HC S5 JJ aP t0 t1 t2 t3 x0 x1 x2 x3 a0 a1 a2 a3 d0 d1 d2 d3 b0 b1 b2 b3 bu;go_wp2_with fail
    go_roundw
    case rel=>exact ⟨k+1,by omega,by go_num,⟨A2,c2,rfl⟩,HN⟩
    case measure=>simp [intOf]; omega
  · have bV:k=cs.length:=by omega
    have dD:cs.take k=cs:=by rw [bV,List.take_length]
    rw [dD] at HI;rw [dD];have HF:Hid (zah (some L) w0.heap.size (.slice At l.length ct) (l ++ xe m 3 (m.get 3) cs) w (.returned (.slice Ak (l.length+(xe m 3 (m.get 3) cs).length) ck)) wr):=by
     obtain ⟨h1,-,-,-,h5,h6,h7,-⟩:=HI.out;simp only [Pl.cs,Pl.lv,dD] at h1;exact ⟨_,rfl,h1,h5,h6,h7.imp id (fun h R hR=>by have:=h R hR; omega)⟩
    clear hx bu HI dD bV;go_wp2_with fail;go_ret;exact HF.out
theorem jb4 {w0 w:World} {q:Nat->Prop} {L n:Nat} (ih:qbi w0 q L n) (p:Pl) (v:Value) (m:Mo) (E:Int) (l:Sp) (tv:Value) (hn:p.sz < n+1) (fG:p.dm<=L) (h:PlV w0 q p v) (aF:Ext w0 w) (ht:TsV (some L) w0.heap.size w tv l) (hm:m.nonneg) (hE:m.le E) (yQ:E+p.sz<=4611686018427387904) (hlen:l.length+p.sz<=1099511627776) (hl:p.lv=4):Calls Tryz.prog 65 #[tv,v,moV m] w (zah (some L) w0.heap.size tv (l ++ p.terms m) w):=by
 have xU:=hid ht;have ay:=hid aF;have IH:=hid ih;obtain ⟨A0,n0,c0,A,c,rfl,ak,dY,dK,h4⟩:=h.open_;obtain ⟨lv,ng,ds,cs⟩:=p
 change lv=4 at hl
 subst hl;simp only [Pl.cs,Pl.ds,Pl.lv,Pl.neg,plV] at *;have oh:(Pl.mk 4 ng ds cs).terms m=xe m 4 (m.get 4) cs:=by rw [Pl.terms,if_neg (by omega),if_neg (by omega)]
 rw [oh];have Dh:(Pl.mk 4 ng ds cs).sz=xk cs+1:=by rw [Pl.sz]
 have oM:qx cs<=(Pl.mk 4 ng ds cs).dm:=by rw [Pl.dm]; exact Nat.le_max_right _ _
 have H4:=hid h4;have XB:0<=m.d/\m.d<=E:=⟨by unfold Mo.nonneg at hm; omega,by unfold Mo.le at hE; omega⟩;have oV:=vac cs;have oQ:Hid (∀ k (hk:k < cs.length),cs[k].sz < n/\cs[k].dm<=L/\(m.put 4 (m.get 4+k)).nonneg/\(m.put 4 (m.get 4+k)).le (E+k)/\E+k+cs[k].sz<=4611686018427387904/\(l ++ xe m 4 (m.get 4) (cs.take k)).length+cs[k].sz<=1099511627776):=by
  have:∀ k (hk:k < cs.length),cs[k].sz < n/\cs[k].dm<=L/\(m.put 4 (m.get 4+k)).nonneg/\(m.put 4 (m.get 4+k)).le (E+k)/\E+k+cs[k].sz<=4611686018427387904/\(l ++ xe m 4 (m.get 4) (cs.take k)).length+cs[k].sz<=1099511627776:=fun k hk=>by
   have h1:=xak (List.getElem_mem hk);have h2:=kan (List.getElem_mem hk);have h3:=jag (cs.take k) m 4 (m.get 4);have h5:=xav cs k hk;have h6:=vac (cs.take k);rw [List.length_take] at h6;have hg:m.get 4=m.d:=rfl;exact ⟨by omega,by omega,Mo.put_nonneg hm (by omega),(hE.mono (by omega)).put _ _ (by omega),by omega,by rw [List.length_append]; omega⟩
  exact this
 obtain ⟨W,hW⟩:=n_m ((w.alloc (.cells #[.int .i64 4,.bool ng,.slice A0 n0 c0,.slice A cs.length c] 33)).alloc (.cells #[.int .i64 m.a,.int .i64 m.b,.int .i64 m.c,.int .i64 m.d] 61));have ag:Ext w W:=by rw [<- hW]; exact ((Ext.refl w).alloc _).alloc _
 have bY:W.heap.size=w.heap.size+1+1:=by rw [<- hW]; simp
 have bJ:jc W w.heap.size (.mk 4 ng ds cs) (.slice A0 n0 c0) (.slice A cs.length c):=by rw [<- hW]; exact (jc.new w (.mk 4 ng ds cs) _ _ _).ext ((Ext.refl _).alloc _) (by simp)
 have iw:vw W (w.heap.size+1) m:=by
  have:=vw.new (w.alloc (.cells #[.int .i64 4,.bool ng,.slice A0 n0 c0,.slice A cs.length c] 33)) m 61;rw [hW] at this;simpa using this
 have rD:∀ i,W.frozen? ⟨w.heap.size+1,i,none⟩=false:=fun i=>by rw [<- hW]; simp [go_sem]
 have kE:Hid (gae w0 w L (.mk 4 ng ds cs) (.slice A0 n0 c0) (.slice A cs.length c) m tv l 0 tv W):=by
  refine ⟨?_,⟨m.get 4,?_⟩,rD,bJ,⟨ag.below.os,ag.below.tape,ag.below.output,ag.size,fun i hi _=>ag.below.block i hi⟩,fun v ds hv=>hv.ext ag,.inl rfl,by omega⟩
  · simp only [Pl.cs,List.take_zero,xe,List.append_nil]; exact ht.ext ag
  · rw [show (Pl.mk 4 ng ds cs).lv=4 from rfl,Mo.put_get]; exact iw
 obtain ⟨b0,b1,b2,b3⟩:=bJ;obtain ⟨d0,d1,d2,d3⟩:=iw;simp only [Pl.lv,Pl.neg] at b0 b1;obtain ⟨At,ct,rfl,-,-⟩:=ht.len;have LC:cs.length<=1099511627776:=by omega
 have HE:=hid yQ;clear ht h ak h4 ag ih aF hm hE oh oM oV rD fG;unfold moV;go_enter Tryz.func65,Tryz.ntmps65;go_wp2_with fail;clear hW b0 b1 b2 b3 d0 d1 d2 d3
 go_loopw [0,34] (fun kT iv wr=>∃ k:Nat,k<=cs.length/\iv=.int .i64 k/\(∃ Ak ck,kT=.slice Ak (l.length+(xe m 4 (m.get 4) (cs.take k)).length) ck)/\Hid (gae w0 w L (.mk 4 ng ds cs) (.slice A0 n0 c0) (.slice A cs.length c) m (.slice At l.length ct) l k kT wr)) (fun _ iv _=>cs.length - (intOf iv).toNat)
 case atStart=>exact ⟨0,Nat.zero_le _,rfl,⟨At,ct,by rw [List.take_zero,xe,List.length_nil,Nat.add_zero]⟩,kE⟩
 case round =>
  obtain ⟨k,hk,rfl,⟨Ak,ck,rfl⟩,HI⟩:=hrel;have hx:=HI.out.ext0 ay.out xU.out;obtain ⟨-,⟨e,d0,d1,d2,d3⟩,bu,⟨b0,b1,b2,b3⟩,-,-,-,VS⟩:=id HI.out;simp only [Pl.lv,Pl.neg] at b0 b1 d0 d1 d2 d3
  by_cases af:k < cs.length
  · obtain ⟨ad,B0,m0,e0,B1,m1,e1,rfl,ah,bF,aV⟩:=jd.kid H4.out k af;obtain ⟨a0,a1,a2,a3⟩:=bF.ext hx (by rw [ja]; exact ah);obtain ⟨q1,q2,q3,q4,q5,q6⟩:=oQ.out k af;have eu:=HI.out.step ay.out xU.out (by simp [Pl.lv]) af (.cells #[.int .i64 cs[k].lv,.bool cs[k].neg,.slice B0 m0 e0,.slice B1 m1 e1] 33) _ rfl;obtain ⟨s1,s2,s3,s4,s5⟩:=eu;have HC:=hid (IH.out cs[k] _ _ _ _ _ _ q1 q2 (aV) s3 s1 q3 q4 q5 q6);have S5:=hid s5;obtain ⟨W1,aP⟩:=n_m ((wr.alloc (.cells #[.int .i64 cs[k].lv,.bool cs[k].neg,.slice B0 m0 e0,.slice B1 m1 e1] 33)).setCell ⟨w.heap.size+1,3,none⟩ (.int .i64 (m.d+k)));have lD:(wr.alloc (.cells #[.int .i64 cs[k].lv,.bool cs[k].neg,.slice B0 m0 e0,.slice B1 m1 e1] 33)).setCell ⟨w.heap.size+1,((Pl.mk 4 ng ds cs).lv - 1).toNat,none⟩ (.int .i64 (m.get (Pl.mk 4 ng ds cs).lv+k))=W1:=aP;rw [lD] at s2 s4 S5 HC;have t0:W1.cell? ⟨wr.heap.size,0,none⟩=some (.int .i64 cs[k].lv):=by rw [s4]; simp [go_sem]
    have t1:W1.cell? ⟨wr.heap.size,1,none⟩=some (.bool cs[k].neg):=by rw [s4]; simp [go_sem]
    have t2:W1.cell? ⟨wr.heap.size,2,none⟩=some (.slice B0 m0 e0):=by rw [s4]; simp [go_sem]
    have t3:W1.cell? ⟨wr.heap.size,3,none⟩=some (.slice B1 m1 e1):=by rw [s4]; simp [go_sem]
    obtain ⟨x0,x1,x2,x3⟩:=s2;have JJ:=hid aP;clear bF aV ah q1 q2 q3 q4 q5 q6 s1 s3 s4 s5 hx lD
    change W1.cell? ⟨w.heap.size+1,0,none⟩=some (.int .i64 m.a) at x0
    change W1.cell? ⟨w.heap.size+1,1,none⟩=some (.int .i64 m.b) at x1
    change W1.cell? ⟨w.heap.size+1,2,none⟩=some (.int .i64 m.c) at x2
    change W1.cell? ⟨w.heap.size+1,3,none⟩=some (.int .i64 (m.d+k)) at x3
    simp only [Pl.lv,Pl.cs] at HC S5;have lK:w.heap.size < wr.heap.size:=by omega
    have Hu:w.heap.size+1 < wr.heap.size:=by omega
    have og:IntKind.i64.wrap (m.d+k)=m.d+k:=by rw [IntKind.wrap_i64]; omega
    generalize cs[k]=ckk at *;go_wp2_with fail;refine HC.out.mono ?_;rintro e w2 lu;obtain ⟨CX,A2,c2,rfl,e2,hinv⟩:=S5.out _ _ lu;rw [List.length_append] at e2;subst e2;have HN:=hid hinv;clear lu hinv HC S5 JJ aP t0 t1 t2 t3 x0 x1 x2 x3 a0 a1 a2 a3 d0 d1 d2 d3 b0 b1 b2 b3 bu;go_wp2_with fail
    go_roundw
    case rel=>exact ⟨k+1,by omega,by go_num,⟨A2,c2,rfl⟩,HN⟩
    case measure=>simp [intOf]; omega
  · have bV:k=cs.length:=by omega
    have dD:cs.take k=cs:=by rw [bV,List.take_length]
    rw [dD] at HI;rw [dD];have HF:Hid (zah (some L) w0.heap.size (.slice At l.length ct) (l ++ xe m 4 (m.get 4) cs) w (.returned (.slice Ak (l.length+(xe m 4 (m.get 4) cs).length) ck)) wr):=by
     obtain ⟨h1,-,-,-,h5,h6,h7,-⟩:=HI.out;simp only [Pl.cs,Pl.lv,dD] at h1;exact ⟨_,rfl,h1,h5,h6,h7.imp id (fun h R hR=>by have:=h R hR; omega)⟩
    clear hx bu HI dD bV;go_wp2_with fail;go_ret;exact HF.out
theorem ucd (w0:World) (q:Nat->Prop) (L n:Nat):qbi w0 q L n:=by
 induction n with
 | zero=>intro p v m E l tv w h; omega
 | succ n ih =>
   intro p v m E l tv w hn fG h aF ht hm hE yQ hlen
   by_cases h0:p.lv<=0
   · exact xby p v m l tv fG h aF ht hlen h0
   · by_cases h4:4 < p.lv
     · exact qby p v m l tv h aF ht h4
     · rcases (show p.lv=1\/p.lv=2\/p.lv=3\/p.lv=4 by omega) with h1 | h1 | h1 | h1
       · exact ub4 ih p v m E l tv hn fG h aF ht hm hE yQ hlen h1
       · exact vb4 ih p v m E l tv hn fG h aF ht hm hE yQ hlen h1
       · exact kb4 ih p v m E l tv hn fG h aF ht hm hE yQ hlen h1
       · exact jb4 ih p v m E l tv hn fG h aF ht hm hE yQ hlen h1
theorem xba {w:World} {q:Nat->Prop} (p:Pl) (v:Value) (L:Nat) (fG:p.dm<=L) (hsz:p.sz<=1099511627776) (h:PlV w q p v):Calls Tryz.prog 65 #[.slice none 0 0,v,moV Mo.one] w fun e w'=>∃ tv,e=.returned tv/\TsV (some L) w.heap.size w' tv (p.terms Mo.one)/\Ext w w':=
 (ucd w q L (p.sz+1) p v Mo.one 0 [] (.slice none 0 0) w (Nat.lt_succ_self _) fG h (Ext.refl w) (TsV.nil _ _ _) Mo.one_nonneg Mo.one_le (by omega) (by simpa using hsz)).mono fun e w' ⟨tv,he,h1,h2,_,_⟩=>⟨tv,he,by simpa using h1,⟨h2.os,h2.tape,h2.output,h2.size,fun i hi=>h2.block i hi (by simp [Value.ownBlock])⟩⟩
end Go.Proofs.YtcepajijiabkmaaGreat
