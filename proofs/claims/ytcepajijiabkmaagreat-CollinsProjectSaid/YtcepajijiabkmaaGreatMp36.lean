/- Reference 22: Equal of two polynomials that are the same. -/
import Derived.Test.YtcepajijiabkmaaGreatMp30
import Derived.RangeFuncNested
set_option linter.unusedSimpArgs false
set_option linter.unusedVariables false
set_option maxRecDepth 100000
set_option maxHeartbeats 8000000
namespace Go.Proofs.YtcepajijiabkmaaGreat
open Lib (hid)
open Go.RowKit
def qde (w0:World) (n:Nat):Prop:=∀ (p:Pl) (v u:Value) (w:World),p.sz < n->p.sz<=1099511627776->PlV w0 (fun _=>True) p v->PlV w0 (fun _=>True) p u->Ext w0 w->Calls Tryz.prog 41 #[v,u] w (vao true w)
theorem vdd (w0:World) (n:Nat):qde w0 n:=by
 induction n with
 | zero=>intro p v u w h; omega
 | succ n ih =>
 intro p v u w hn hsz h h' aC;have IH:=hid ih;have ay:=hid aC;have jD:Hid (∀ k (hk:k < p.cs.length),p.cs[k].sz < n/\p.cs[k].sz<=1099511627776):=by
  have:∀ k (hk:k < p.cs.length),p.cs[k].sz < n/\p.cs[k].sz<=1099511627776:=fun k hk=>by have:=Pl.jn (pt hk); omega
  exact this
 have QE:=p.kg;obtain ⟨A0,n0,c0,A,c,rfl,au,dP,dC,h4⟩:=h.open_;obtain ⟨B0,m0,d0,B,d,rfl,sD,Kw,Su,Df⟩:=h'.open_;have H4:=hid h4;have H4':=hid Df;have HN:=hid au;have VK:=hid sD;obtain ⟨W,hW⟩:=n_m ((w.alloc (.cells #[.int .i64 p.lv,.bool p.neg,.slice A0 n0 c0,.slice A p.cs.length c] 33)).alloc (.cells #[.int .i64 p.lv,.bool p.neg,.slice B0 m0 d0,.slice B p.cs.length d] 33));have ai:Ext w W:=by rw [<- hW]; exact ((Ext.refl w).alloc _).alloc _
 have dG:W.heap.size=w.heap.size+1+1:=by rw [<- hW]; simp
 have bV:jb W w.heap.size p (.slice A0 n0 c0) (.slice A p.cs.length c):=by rw [<- hW]; exact (jb.new w p _ _ _).ext ((Ext.refl _).alloc _) (by simp)
 have zD:jb W (w.heap.size+1) p (.slice B0 m0 d0) (.slice B p.cs.length d):=by
  rw [<- hW];have h1:=jb.new (w.alloc (.cells #[.int .i64 p.lv,.bool p.neg,.slice A0 n0 c0,.slice A p.cs.length c] 33)) p (.slice B0 m0 d0) (.slice B p.cs.length d) 33;simpa using h1
 have aG:=hid ai;have kL:=hid bV;have Wv:=hid zD;obtain ⟨b0,b1,b2,b3⟩:=bV;obtain ⟨e0,e1,e2,e3⟩:=zD;have xQ:=hid (jbp (.agg #[.bool p.neg,.slice A0 n0 c0]) (.agg #[.bool p.neg,.slice B0 m0 d0]) (sgn p.neg (val p.ds)) (sgn p.neg (val p.ds)) p.ds.length p.ds.length W ⟨_,_,_,rfl,HN.out.ext (ay.out.trans aG.out),rfl,pj _⟩ ⟨_,_,_,rfl,VK.out.ext (ay.out.trans aG.out),rfl,pj _⟩);rw [qao rfl] at xQ;clear h h' ih h4 Df aC au sD ai HN VK;unfold plV;go_enter Tryz.func41,Tryz.ntmps41;go_wp2_with fail;clear hW b0 b1 b2 b3 e0 e1 e2 e3;refine xQ.out.mono ?_;rintro e w1 ⟨rfl,x1⟩;obtain ⟨b0,b1,b2,b3⟩:=kL.out.ext x1 (by omega);obtain ⟨e0,e1,e2,e3⟩:=Wv.out.ext x1 (by omega);have X1:=hid (aG.out.trans x1);have oz:=x1.size;have NK:=hid (kL.out.ext x1 (by omega));have NI:=hid (Wv.out.ext x1 (by omega));clear x1 xQ;go_wp2_with fail;clear b0 b1 b2 b3 e0 e1 e2 e3
 go_loopw [5] (fun iv wr=>∃ k:Nat,k<=p.cs.length/\iv=.int .i64 k/\Hid (Ext w1 wr)) (fun iv _=>p.cs.length - (intOf iv).toNat)
 case atStart=>exact ⟨0,pS _,rfl,Ext.refl _⟩
 case round =>
  obtain ⟨k,hk,rfl,hx⟩:=hrel;have HX:=hid hx.out;obtain ⟨b0,b1,b2,b3⟩:=NK.out.ext HX.out (by omega);obtain ⟨e0,e1,e2,e3⟩:=NI.out.ext HX.out (by omega);have mM:=HX.out.size;clear hx
  by_cases af:k < p.cs.length
  · obtain ⟨ad,C0,j0,f0,C1,j1,f1,rfl,ah,bP,bC⟩:=jd.ym H4.out k af;obtain ⟨ad',D0,i0,g0,D1,i1,g1,rfl,kY,su,qP⟩:=jd.ym H4'.out k af;have bQ:Ext w0 wr:=(ay.out.trans X1.out).trans HX.out;have Gi:=hid (bP.ext bQ (by rw [ja]; exact ah));have Jf:=hid (su.ext bQ (by rw [ja]; exact kY));have bF:ad.block < wr.heap.size:=pw ah bQ.size;have dE:ad'.block < wr.heap.size:=pw kY bQ.size;have lM:=hid (fun W' (bJ:Ext wr W')=>IH.out p.cs[k] _ _ W' (jD.out k af).1 (jD.out k af).2 bC qP (bQ.trans bJ));unfold plV at lM;generalize p.cs[k]=pk at *;have aH:Hid (∀ W2,Ext wr W2->(Ext wr W2/\W2.cell? ⟨w.heap.size,3,none⟩=some (.slice (some ad) p.cs.length c)/\W2.cell? ⟨w.heap.size+1,3,none⟩=some (.slice (some ad') p.cs.length d)/\W2.cell? (Addr.add ad (k * 4))=some (.int .i64 pk.lv)/\W2.cell? ⟨(Addr.add ad (k * 4)).block,(Addr.add ad (k * 4)).off+1,none⟩=some (.bool pk.neg)/\W2.cell? ⟨(Addr.add ad (k * 4)).block,(Addr.add ad (k * 4)).off+2,none⟩=some (.slice C0 j0 f0)/\W2.cell? ⟨(Addr.add ad (k * 4)).block,(Addr.add ad (k * 4)).off+3,none⟩=some (.slice C1 j1 f1)/\W2.cell? (Addr.add ad' (k * 4))=some (.int .i64 pk.lv)/\W2.cell? ⟨(Addr.add ad' (k * 4)).block,(Addr.add ad' (k * 4)).off+1,none⟩=some (.bool pk.neg)/\W2.cell? ⟨(Addr.add ad' (k * 4)).block,(Addr.add ad' (k * 4)).off+2,none⟩=some (.slice D0 i0 g0)/\W2.cell? ⟨(Addr.add ad' (k * 4)).block,(Addr.add ad' (k * 4)).off+3,none⟩=some (.slice D1 i1 g1))):=by
     have:∀ W2,Ext wr W2->(Ext wr W2/\W2.cell? ⟨w.heap.size,3,none⟩=some (.slice (some ad) p.cs.length c)/\W2.cell? ⟨w.heap.size+1,3,none⟩=some (.slice (some ad') p.cs.length d)/\W2.cell? (Addr.add ad (k * 4))=some (.int .i64 pk.lv)/\W2.cell? ⟨(Addr.add ad (k * 4)).block,(Addr.add ad (k * 4)).off+1,none⟩=some (.bool pk.neg)/\W2.cell? ⟨(Addr.add ad (k * 4)).block,(Addr.add ad (k * 4)).off+2,none⟩=some (.slice C0 j0 f0)/\W2.cell? ⟨(Addr.add ad (k * 4)).block,(Addr.add ad (k * 4)).off+3,none⟩=some (.slice C1 j1 f1)/\W2.cell? (Addr.add ad' (k * 4))=some (.int .i64 pk.lv)/\W2.cell? ⟨(Addr.add ad' (k * 4)).block,(Addr.add ad' (k * 4)).off+1,none⟩=some (.bool pk.neg)/\W2.cell? ⟨(Addr.add ad' (k * 4)).block,(Addr.add ad' (k * 4)).off+2,none⟩=some (.slice D0 i0 g0)/\W2.cell? ⟨(Addr.add ad' (k * 4)).block,(Addr.add ad' (k * 4)).off+3,none⟩=some (.slice D1 i1 g1)):=fun W2 aN=>by
      obtain ⟨a0,a1,a2,a3⟩:=Gi.out.ext aN (by rw [ja]; exact bF);obtain ⟨a0',a1',a2',a3'⟩:=Jf.out.ext aN (by rw [ja]; exact dE);exact ⟨aN,(aN.cell (p:=⟨w.heap.size,3,none⟩) (by show w.heap.size < _; omega)).trans b3,(aN.cell (p:=⟨w.heap.size+1,3,none⟩) (by show w.heap.size+1 < _; omega)).trans e3,a0,a1,a2,a3,a0',a1',a2',a3'⟩
     exact this
    clear bP su bC qP bQ ah kY;have y0:Ext wr wr.drew:=(Ext.refl wr).drew;have Y0:=hid y0;clear y0;go_upto_region 6 with fail;clear b0 b1 b2 b3 e0 e1 e2 e3
    go_region_held3 (fun W2 => Ext wr W2 /\ W2.cell? ⟨w.heap.size, 3, none⟩ = some (.slice (some ad) p.cs.length c) /\ W2.cell? ⟨w.heap.size + 1, 3, none⟩ = some (.slice (some ad') p.cs.length d) /\ W2.cell? (Addr.add ad (k * 4)) = some (.int .i64 pk.lv) /\ W2.cell? ⟨(Addr.add ad (k * 4)).block, (Addr.add ad (k * 4)).off + 1, none⟩ = some (.bool pk.neg) /\ W2.cell? ⟨(Addr.add ad (k * 4)).block, (Addr.add ad (k * 4)).off + 2, none⟩ = some (.slice C0 j0 f0) /\ W2.cell? ⟨(Addr.add ad (k * 4)).block, (Addr.add ad (k * 4)).off + 3, none⟩ = some (.slice C1 j1 f1) /\ W2.cell? (Addr.add ad' (k * 4)) = some (.int .i64 pk.lv) /\ W2.cell? ⟨(Addr.add ad' (k * 4)).block, (Addr.add ad' (k * 4)).off + 1, none⟩ = some (.bool pk.neg) /\ W2.cell? ⟨(Addr.add ad' (k * 4)).block, (Addr.add ad' (k * 4)).off + 2, none⟩ = some (.slice D0 i0 g0) /\ W2.cell? ⟨(Addr.add ad' (k * 4)).block, (Addr.add ad' (k * 4)).off + 3, none⟩ = some (.slice D1 i1 g1))
     (first | with_reducible exact aH.out _ Y0.out | with_reducible exact aH.out _ y1)
     ((go_at_call 41
       refine (lM.out _ Y0.out).mono ?_;rintro e v1 ⟨rfl,x1⟩
       have y1:Ext wr v1:=Ext.trans Y0.out x1))
    all_goals
     have X2:=hid (HX.out.trans y1);clear y1 x1 lM aH Y0;go_wp2_with fail
     go_roundw
     case rel=>exact ⟨k+1,by omega,by go_num,X2.out⟩
     case measure=>simp [intOf]; omega
  · clear b0 b1 b2 e0 e1 e2;go_wp2_with fail;go_ret;exact ⟨rfl,X1.out.trans HX.out⟩
theorem wb6 {w:World} {q1 q2:Nat->Prop} (p:Pl) (v u:Value) (hsz:p.sz<=1099511627776) (h:PlV w q1 p v) (k:PlV w q2 p u):Calls Tryz.prog 41 #[v,u] w (vao true w):=
 vdd w (p.sz+1) p v u w (tx _) hsz (h.mono fun _ _=>trivial) (k.mono fun _ _=>trivial) (Ext.refl w)
theorem jch {w0 w:World} {q:Nat->Prop} {b:Int} (p:Pl) (v:Value) (h:PlV w0 q p v) (aC:Ext w0 w) (hl:p.lv=0) (hc:p.Can):Calls Tryz.prog 42 #[v,.int .i64 b] w (vao true w):=by
 have hi:=(Pl.kd p h.dig).2 hc;obtain ⟨A0,n0,c0,A,c,rfl,⟨YW,c0',e,eH,uF,hd⟩,dP,dC,h4⟩:=h.open_;injection e with e1 e2 e3
 subst e1 e2 e3;obtain ⟨l,ng,ds,cs⟩:=p
 change l=0 at hl
 subst hl;have fB:cs.length=0:=by
  unfold Pl.Can at hc;rcases hc with hc | hc
  · rw [hc.2.1]; rfl
  · omega
 have HX:Hid (∀ o,Ext w (w.alloc o)):=fun o=>(Ext.refl w).alloc o
 have PP:Hid (uj (w.alloc (.cells #[.int .i64 0,.bool ng,.slice A0 ds.length c0,.slice A cs.length c] 33)) A0 ds):=hd.ext (aC.trans ((Ext.refl w).alloc _));rw [Pl.xL,if_pos rfl,if_neg (by omega)] at hi;simp only [Pl.cs,Pl.ds,Pl.lv,Pl.neg,plV] at *;clear h h4 hd;rw [fB] at PP ⊢
 by_cases zB:0 < ds.length
 · obtain ⟨ad,x,rfl,hb,aj,hx,HG⟩:=PP.out.xS (ds.length - 1) (by omega);obtain ⟨k,hk⟩:∃ k:Nat,ds.length - 1=k:=⟨_,rfl⟩;have hk2:ds.length=k+1:=by omega
   rw [hk] at aj HG;have IJ:ds.getLast?=some x:=by rw [sC,hk]; exact HG.out
   have aC:¬ x=0:=fun e=>by
    have h1:decide (ds.length=0)=false:=by rw [decide_eq_false_iff_not]; omega
    have h2:decide (ds.getLast? ≠ some 0)=false:=by rw [IJ,e]; simp
    rw [h1,h2] at hi;simp at hi
   have Zt:((x:Int) == 0)=false:=by rw [beq_eq_false_iff_ne]; omega
   clear hi IJ;generalize ds.length=N at *;subst hk2;have jL:IntKind.i64.wrap (((k+1:Nat):Int) - 1)=k:=by simp [IntKind.wrap,IntKind.bits,IntKind.signed]; omega
   go_enter Tryz.func42,Tryz.ntmps42;go_wp2_with fail;go_ret;exact ⟨rfl,HX.out _⟩
 · have hN:ds.length=0:=by omega
   have rZ:ng=false:=by rw [hN] at hi; simpa using hi
   subst rZ;rw [hN] at PP;rw [hN];clear hi;go_enter Tryz.func42,Tryz.ntmps42;go_wp2_with fail;go_ret;exact ⟨rfl,HX.out _⟩
theorem kco : ∀ {x : Pl}, x.Can -> x.lv = 0 -> x.ds = [] -> x = Pl.zero
 | .mk l ng ds cs,hc,hl,hd=>by
   simp only [Pl.lv,Pl.ds] at hl hd;subst hl hd;unfold Pl.Can at hc;rcases hc with hc | hc
   · rw [hc.2.1,hc.2.2.2 rfl]; rfl
   · omega
def uc9 (w0:World) (q:Nat->Prop) (n:Nat):Prop:=∀ (p:Pl) (v:Value) (w:World) (b:Int),p.sz < n->p.sz<=1099511627776->p.Can->p.lv < b->PlV w0 q p v->Ext w0 w->Calls Tryz.prog 42 #[v,.int .i64 b] w (vao true w)
theorem vc0 (w0:World) (q:Nat->Prop) (n:Nat):uc9 w0 q n:=by
 induction n with
 | zero=>intro p v w b h; omega
 | succ n ih =>
 intro p v w b hn hsz hc hb h aC
 by_cases hl:p.lv=0
 · exact jch p v h aC hl hc
 have IH:=hid ih;have ay:=hid aC;have jD:Hid (∀ k (hk:k < p.cs.length),p.cs[k].sz < n/\p.cs[k].sz<=1099511627776):=hid (fun k hk=>by have:=Pl.jn (pt hk); omega);have QE:=p.kg;obtain ⟨dP,ag,rZ,zB,hlen,Hu,dX⟩:1<=p.lv/\p.lv<=4/\p.neg=false/\p.ds=[]/\2<=p.cs.length/\qp p.lv p.cs/\p.cs.getLast? ≠ some Pl.zero:=by
  obtain ⟨l,ng,ds,cs⟩:=p;unfold Pl.Can at hc;rcases hc with hc | hc
  · exact absurd hc.1 hl
  · exact hc
 have HK:=hid Hu.mem;have RV:∀ (h:p.cs.length - 1 < p.cs.length),p.cs[p.cs.length - 1] ≠ Pl.zero:=fun h e=>dX (by rw [sC,po h,e])
 have adh:=hid RV;obtain ⟨A0,n0,c0,A,c,rfl,au,Kw,Su,h4⟩:=h.open_;rw [zB] at au;obtain ⟨YW,c0',e,-,-,-⟩:=au;injection e with e1 e2 e3
 subst e1 e2 e3;have H4:=hid h4;unfold plV;rw [rZ];obtain ⟨W,hW⟩:=n_m ((w.alloc (.cells #[.int .i64 p.lv,.bool false,.slice A0 0 c0,.slice A p.cs.length c] 33)));have ai:Ext w W:=by rw [<- hW]; exact (Ext.refl w).alloc _
 have dG:W.heap.size=w.heap.size+1:=by rw [<- hW]; simp
 have bV:jb W w.heap.size p (.slice A0 0 c0) (.slice A p.cs.length c):=by rw [<- hW,<- rZ]; exact jb.new w p _ _ _
 have aG:=hid ai;have kL:=hid bV;obtain ⟨b0,b1,b2,b3⟩:=bV;have q1:¬ p.lv < 0:=by omega
 have q2:¬ b<=p.lv:=by omega
 have q3:¬ (p.cs.length:Int) < 2:=by omega
 have q4:¬ p.lv=0:=hl;clear h ih h4 aC ai zB Hu dX RV hc;rw [rZ] at b1;have Nb:=hid rZ;clear rZ;simp only [r8];go_enter Tryz.func42,Tryz.ntmps42;go_wp2_with fail;clear hW b0 b1 b2 b3
 go_loopw [6] (fun iv wr=>∃ k:Nat,k<=p.cs.length/\iv=.int .i64 k/\Hid (Ext W wr)) (fun iv _=>p.cs.length - (intOf iv).toNat)
 case atStart=>exact ⟨0,pS _,rfl,Ext.refl _⟩
 case round =>
  obtain ⟨k,hk,rfl,hx⟩:=hrel;have HX:=hid hx.out;obtain ⟨b0,b1,b2,b3⟩:=kL.out.ext HX.out (by omega);rw [Nb.out] at b1;have mM:=HX.out.size;clear hx
  by_cases af:k < p.cs.length
  · obtain ⟨ad,C0,j0,f0,C1,j1,f1,rfl,ah,bP,bC⟩:=jd.ym H4.out k af;have bQ:Ext w0 wr:=(ay.out.trans aG.out).trans HX.out;have Gi:=hid (bP.ext bQ (by rw [ja]; exact ah));have bF:ad.block < wr.heap.size:=pw ah bQ.size;obtain ⟨hkl,AY⟩:=HK.out p.cs[k] (pt af);have lM:=hid (fun W' (bJ:Ext wr W')=>IH.out p.cs[k] _ W' p.lv (jD.out k af).1 (jD.out k af).2 AY hkl bC (bQ.trans bJ));unfold plV at lM;clear hkl AY;generalize p.cs[k]=pk at *;have aH:Hid (∀ W2,Ext wr W2->(Ext wr W2/\W2.cell? ⟨w.heap.size,0,none⟩=some (.int .i64 p.lv)/\W2.cell? ⟨w.heap.size,3,none⟩=some (.slice (some ad) p.cs.length c)/\W2.cell? (Addr.add ad (k * 4))=some (.int .i64 pk.lv)/\W2.cell? ⟨(Addr.add ad (k * 4)).block,(Addr.add ad (k * 4)).off+1,none⟩=some (.bool pk.neg)/\W2.cell? ⟨(Addr.add ad (k * 4)).block,(Addr.add ad (k * 4)).off+2,none⟩=some (.slice C0 j0 f0)/\W2.cell? ⟨(Addr.add ad (k * 4)).block,(Addr.add ad (k * 4)).off+3,none⟩=some (.slice C1 j1 f1))):=hid (fun W2 aN=>by
     obtain ⟨a0,a1,a2,a3⟩:=Gi.out.ext aN (by rw [ja]; exact bF)
     exact ⟨aN,(aN.cell (p:=⟨w.heap.size,0,none⟩) (by show w.heap.size < _; omega)).trans b0,(aN.cell (p:=⟨w.heap.size,3,none⟩) (by show w.heap.size < _; omega)).trans b3,a0,a1,a2,a3⟩)
    clear bP bC bQ ah;have y0:Ext wr wr.drew:=(Ext.refl wr).drew;have Y0:=hid y0;clear y0;go_upto_region 11 with fail;clear b0 b1 b2 b3
    go_region_held3 (fun W2 => Ext wr W2 /\ W2.cell? ⟨w.heap.size, 0, none⟩ = some (.int .i64 p.lv) /\ W2.cell? ⟨w.heap.size, 3, none⟩ = some (.slice (some ad) p.cs.length c) /\ W2.cell? (Addr.add ad (k * 4)) = some (.int .i64 pk.lv) /\ W2.cell? ⟨(Addr.add ad (k * 4)).block, (Addr.add ad (k * 4)).off + 1, none⟩ = some (.bool pk.neg) /\ W2.cell? ⟨(Addr.add ad (k * 4)).block, (Addr.add ad (k * 4)).off + 2, none⟩ = some (.slice C0 j0 f0) /\ W2.cell? ⟨(Addr.add ad (k * 4)).block, (Addr.add ad (k * 4)).off + 3, none⟩ = some (.slice C1 j1 f1))
     (first | with_reducible exact aH.out _ Y0.out | with_reducible exact aH.out _ y1)
     ((go_at_call 42
       refine (lM.out _ Y0.out).mono ?_;rintro e v1 ⟨rfl,x1⟩
       have y1:Ext wr v1:=Ext.trans Y0.out x1))
    all_goals
     have X2:=hid (HX.out.trans y1);clear y1 x1 lM aH Y0;go_wp2_with fail
     go_roundw
     case rel=>exact ⟨k+1,by omega,by go_num,X2.out⟩
     case measure=>simp [intOf]; omega
  · obtain ⟨m,hm⟩:∃ m:Nat,p.cs.length - 1=m:=⟨_,rfl⟩;have Ot:p.cs.length=m+1:=by omega
    have lC:m < p.cs.length:=by omega
    obtain ⟨ad,C0,j0,f0,C1,j1,f1,rfl,ah,bP,bC⟩:=jd.ym H4.out m lC;have bQ:Ext w0 wr:=(ay.out.trans aG.out).trans HX.out;obtain ⟨g0,g1,g2,g3⟩:=bP.ext bQ (by rw [ja]; exact ah);obtain ⟨hkl,AY⟩:=HK.out p.cs[m] (pt lC);have wV:p.cs[m] ≠ Pl.zero:=by have:=adh.out (by omega); simpa only [hm] using this
    have hw:IntKind.i64.wrap ((p.cs.length:Int) - 1)=m:=by rw [rk]; omega
    have hmi:(m:Int) < (p.cs.length:Int):=by omega
    obtain ⟨U,hU⟩:=n_m ((wr.alloc (.cells #[.int .i64 p.cs[m].lv,.bool p.cs[m].neg,.slice C0 j0 f0,.slice C1 j1 f1] 33)));have hxU:Ext wr U:=by rw [<- hU]; exact (Ext.refl wr).alloc _
    obtain ⟨s0,s1,s2,s3⟩:jb U wr.heap.size p.cs[m] (.slice C0 j0 f0) (.slice C1 j1 f1):=by rw [<- hU]; exact jb.new wr p.cs[m] _ _ _
    have HF:=hid (aG.out.trans (HX.out.trans hxU));have hj0:j0=p.cs[m].ds.length:=by
     obtain ⟨D0,dn,dc,D1,dd,e9,hn9,-⟩:=bC.open_;unfold plV at e9;simp only [tm,tD,so,and_true,true_and] at e9;obtain ⟨h1,-⟩:=e9;injection h1 with a1 a2 a3
     obtain ⟨A',c',e8,-⟩:=hn9;injection e8 with _ e8 _
     rw [a2]; exact e8
    have wZ:(0 < p.cs[m].lv)\/(¬ 0 < p.cs[m].lv/\0 < j0):=by
     rcases Int.lt_or_le 0 p.cs[m].lv with h1 | h1
     · exact .inl h1
     · refine .inr ⟨by omega,?_⟩;have hz:=AY.qq.1;have aap:p.cs[m].lv=0:=by omega
       rcases tR j0 with h2 | h2
       · exact absurd (kco AY aap (rL (by omega))) wV
       · exact h2
    generalize p.cs[m]=pk at *;clear bQ ah bP bC hkl AY wV hxU hm Ot hj0;rcases wZ with h1 | ⟨h1,h2⟩
    · go_wp2_with fail;go_ret;exact ⟨rfl,HF.out⟩
    · go_wp2_with fail;go_ret;exact ⟨rfl,HF.out⟩
theorem vcq {w:World} {q:Nat->Prop} (p:Pl) (v:Value) (b:Int) (hc:p.Can) (hb:p.lv < b) (hsz:p.sz<=1099511627776) (h:PlV w q p v):Calls Tryz.prog 42 #[v,.int .i64 b] w (vao true w):=
 vc0 w q (p.sz+1) p v w b (tx _) hsz hc hb h (Ext.refl w)
theorem ycd {w:World} {q0 q1:Nat->Prop} {L:List Pl} {D0 D1:Option Addr} {c0 c1 E D:Nat} (hA:jd w q0 L D0 0) (hB:jd w q1 L D1 0) (hf:∀ c ∈ L,Fit c E D) (hE:E<=170) (hD:D<=1099511627776) (hn:L.length<=1000000) :
 Calls Tryz.prog 17 #[.slice D0 L.length c0,.slice D1 L.length c1] w (vao true w):=by
 have HA:=hid hA;have HB:=hid hB;have HF:=hid hf;clear hA hB hf;go_enter Tryz.func17,Tryz.ntmps17;go_wp2_with fail
 go_loopw [13] (fun iv wr=>∃ k:Nat,k<=L.length/\iv=.int .i64 k/\Hid (Ext w wr)) (fun iv _=>L.length - (intOf iv).toNat)
 case atStart=>exact ⟨0,pS _,rfl,Ext.refl _⟩
 case round =>
  obtain ⟨k,hk,rfl,hx⟩:=hrel;have HX:=hid hx.out;clear hx
  by_cases af:k < L.length
  · obtain ⟨ad,C0,j0,f0,C1,j1,f1,rfl,ah,bP,bC⟩:=jd.ym (HA.out.ext HX.out) k af;obtain ⟨ad',E0,i0,g0,E1,i1,g1,rfl,kY,su,qP⟩:=jd.ym (HB.out.ext HX.out) k af;have fU:=HF.out L[k] (pt af);have Gi:=hid bP;have Jf:=hid su;have HKA:=hid bC;have HKB:=hid qP;have Es:=hid (fun W' (hx:Ext wr W')=>qab _ (qP.ext hx) fU.can (fU.copy_ hE) (by have:=fU.dm; omega));have xZ:=hid (fun W' (q:Nat->Prop) (u:Value) (hx:Ext wr W') (hu:PlV W' q L[k] u)=>wb6 _ _ u (fU.copy_ hE) (bC.ext hx) hu);have uM:=hid (fun W' (hx:Ext wr W')=>vcq _ _ 5 fU.can (by have:=fU.can.qq.2; omega) (fU.copy_ hE) (bC.ext hx));unfold plV at Es xZ uM;generalize L[k]=pk at *;have aH:Hid (∀ W2,Ext wr W2->(Ext wr W2/\W2.cell? (Addr.add ad (k * 4))=some (.int .i64 pk.lv)/\W2.cell? ⟨(Addr.add ad (k * 4)).block,(Addr.add ad (k * 4)).off+1,none⟩=some (.bool pk.neg)/\W2.cell? ⟨(Addr.add ad (k * 4)).block,(Addr.add ad (k * 4)).off+2,none⟩=some (.slice C0 j0 f0)/\W2.cell? ⟨(Addr.add ad (k * 4)).block,(Addr.add ad (k * 4)).off+3,none⟩=some (.slice C1 j1 f1)/\W2.cell? (Addr.add ad' (k * 4))=some (.int .i64 pk.lv)/\W2.cell? ⟨(Addr.add ad' (k * 4)).block,(Addr.add ad' (k * 4)).off+1,none⟩=some (.bool pk.neg)/\W2.cell? ⟨(Addr.add ad' (k * 4)).block,(Addr.add ad' (k * 4)).off+2,none⟩=some (.slice E0 i0 g0)/\W2.cell? ⟨(Addr.add ad' (k * 4)).block,(Addr.add ad' (k * 4)).off+3,none⟩=some (.slice E1 i1 g1))):=hid (fun W2 aN=>by
     obtain ⟨a0,a1,a2,a3⟩:=Gi.out.ext aN (by rw [ja]; exact ah);obtain ⟨a0',a1',a2',a3'⟩:=Jf.out.ext aN (by rw [ja]; exact kY)
     exact ⟨aN,a0,a1,a2,a3,a0',a1',a2',a3'⟩)
    clear bP su bC qP fU;have y0:Ext wr wr.drew:=(Ext.refl wr).drew;have Y0:=hid y0;clear y0;go_upto_region 6 with fail
    go_region_held3 (fun W2 => Ext wr W2 /\ W2.cell? (Addr.add ad (k * 4)) = some (.int .i64 pk.lv) /\ W2.cell? ⟨(Addr.add ad (k * 4)).block, (Addr.add ad (k * 4)).off + 1, none⟩ = some (.bool pk.neg) /\ W2.cell? ⟨(Addr.add ad (k * 4)).block, (Addr.add ad (k * 4)).off + 2, none⟩ = some (.slice C0 j0 f0) /\ W2.cell? ⟨(Addr.add ad (k * 4)).block, (Addr.add ad (k * 4)).off + 3, none⟩ = some (.slice C1 j1 f1) /\ W2.cell? (Addr.add ad' (k * 4)) = some (.int .i64 pk.lv) /\ W2.cell? ⟨(Addr.add ad' (k * 4)).block, (Addr.add ad' (k * 4)).off + 1, none⟩ = some (.bool pk.neg) /\ W2.cell? ⟨(Addr.add ad' (k * 4)).block, (Addr.add ad' (k * 4)).off + 2, none⟩ = some (.slice E0 i0 g0) /\ W2.cell? ⟨(Addr.add ad' (k * 4)).block, (Addr.add ad' (k * 4)).off + 3, none⟩ = some (.slice E1 i1 g1))
     (first | with_reducible exact aH.out _ Y0.out | with_reducible exact aH.out _ y1 | with_reducible exact aH.out _ y2 | with_reducible exact aH.out _ y3)
     (first
       | (go_at_call 36
          refine (Es.out _ Y0.out).mono ?_;rintro e v1 ⟨nv,rfl,p1,x1⟩
          have y1:Ext wr v1:=Ext.trans Y0.out x1)
       | (go_at_call 41
          refine (xZ.out _ _ _ y1 p1).mono ?_;rintro e v2 ⟨rfl,x2⟩
          have y2:Ext wr v2:=Ext.trans y1 x2)
       | (go_at_call 42
          refine (uM.out _ y2).mono ?_;rintro e v3 ⟨rfl,x3⟩
          have y3:Ext wr v3:=Ext.trans y2 x3))
    all_goals
     have X2:=hid (HX.out.trans y3);clear y1 y2 y3 x1 x2 x3 p1 aH Y0 Es xZ uM;go_wp2_with fail
     go_roundw
     case rel=>exact ⟨k+1,by omega,by go_num,X2.out⟩
     case measure=>simp [intOf]; omega
  · obtain rfl:k=L.length:=by omega
    go_wp2_with fail;go_ret;exact ⟨rfl,HX.out⟩
def ga6 (B : Nat) (Kp : World -> World -> Prop) (I : World -> Prop) (W : World) : Exit -> Act -> World -> Prop
 | .normal,_,W'=>KeepsFrom B W W'/\Kp W W'/\I W'
 | _,_,_=>False
def jc3 {α:Type} (n:Nat) (P:Program) (g:Nat) (lb:Array Value) (enc:α->Array Value) (Ok:Nat->α->World->Prop) (Kp:World->World->Prop) (N:Nat) (w:World):Prop:=
 ∀ (l:Nat) (J:Nat->World->Prop) (W:World),Below w.heap.size w W->AbidesFrom W.heap.size J ->
   (∀ k x W1,k < N->J k W1->Ok k x W1->YieldAt Fence.wide (n - 1) P l (enc x) W1 fun e W'=>e=.returned (.bool true)/\J (k+1) W'/\Kp W1 W') ->
   J 0 W->CallsIn Fence.wide n P g (#[.func (.yield l) #[] #[]] ++ lb) W fun e W'=>(∃ v,e=.returned v)/\J N W'
theorem xbv {α : Type} {n : Nat} {P : Program} {w : World} {g : Operand} {ps : Array Tmp} {assign body : Code} {Q : Exit -> Act -> World -> Prop} {a : Act}
 (h1:1<=n) {gf:Nat} {lb:Array Value} (hg:a.eval g=.func (.func gf) #[] lb) (eg:∀ args w,(callFunc gf args).run P w=.ok (.enter gf args) w)
 {enc:α->Array Value} {Ok:Nat->α->World->Prop} {Kp:World->World->Prop} {N:Nat} {w0:World} (yL:jc3 (n - 1) P gf lb enc Ok Kp N w0)
 (LY:∀ {A B C:World},Kp A B->Kp B C->Kp A C) (LZ:∀ (W:World) (l:Nat) (o o':Obj),w.heap.size<=l->W.heap[l]?=some o->o.isCells=false->o.isWalk=false->Kp W (W.putObj l o')) (aX:Below w0.heap.size w0 w) (wQ:∀ x,(enc x).size=ps.size)
 (I:Nat->World->Prop) (hI:OwnFrom w.heap.size I) (h0:I 0 w) (Ax:Nat->α->Act->World->Prop) (UU:∀ k x a',OwnFrom w.heap.size (fun (_:Unit) W=>Ax k x a' W))
 (kX:∀ (l k:Nat) (x:α) (W:World) (K:Act->World->Prop),k < N->I k W->Ok k x W->(∀ a' W',KeepsFrom w.heap.size W W'->Kp W W'->Ax k x a' W'->K a' W') ->
   assign.wpIn (Fence.wide.inRound l) (n - 1 - 1) P (Exit.then K (fun _ _ _=>False)) { tmps:=(ps.zip (enc x)).foldl (fun t (p,v)=>t.setIfInBounds p v) a.tmps,defers:=[] } W)
 (sV:∀ (l k:Nat) (x:α) (a':Act) (W:World),k < N->Ax k x a' W->body.wpIn (Fence.wide.inRound l) (n - 1 - 1) P (ga6 w.heap.size Kp (I (k+1)) W) a' W)
 (iL:∀ (D:Nat) (W:World),w.heap.size<=D->I N W->W.heap[D]?=some (.deferred (some []))->Q .normal { a with defers:={ target:=.collected D,args:=#[] } :: a.defers } W) :
 (Code.rangeFunc g ps assign body).wpIn Fence.wide n P Q a w:=by
 refine wpIn_rangeFunc fun fn uC=>?_
 obtain ⟨B,hB⟩:=n_m (w.heap.size)
 let rc:LoopState->Option Code->Loop:=fun st pe=>{ state:=st,pending:=pe,fn,tmps:=a.tmps,params:=ps,assign,body,defers:=B }
 obtain ⟨V,hV⟩:=n_m ((w.alloc (.deferred (some []))).alloc (.loop (rc .ready none)));have vL:V.heap[B+1]?=some (.loop (rc .ready none)):=by
  rw [<- hV,<- hB];have:=World.alloc_heap_new (w.alloc (.deferred (some []))) (.loop (rc .ready none))
  rwa [tL] at this
 have vD:V.heap[B]?=some (.deferred (some [])):=by
  rw [<- hV,<- hB]; exact (Below.heap_alloc _ _ _ (by simp)).trans (World.alloc_heap_new w _)
 have vI:I 0 V:=by rw [<- hV]; exact hI.alloc _ (hI.alloc _ h0)
 have vB:Below w0.heap.size w0 V:=by
  rw [<- hV]; exact aX.trans ((((Below.refl _ w).alloc (pj _) _).alloc (by simp) _).mono aX.size)
 have vS:V.heap.size=B+2:=by rw [<- hV,<- hB]; simp
 rw [hB] at LZ hI UU kX sV iL
 have walk:∀ {A A':World} {row:Option Nat} {k:Nat} {o:Obj},A.grownBy A' row->(∀ r,row=some r->V.heap.size<=r/\∃ o:Obj,A.heap[r]?=some o/\o.isWalk=true)->A.heap[k]?=some o->o.isWalk=false->A'.heap[k]?=some o:=
  fun jS hr hk ho=>(grownBy_keeps jS (fun r e=>(hr r e).2) hk ho).trans hk
 refine ⟨B+1,[{ target:=.collected B,args:=#[] }],V,{ target:=.fn (.func gf) lb,args:=#[.func (.yield (B+1)) #[] #[]] },V,gf,#[.func (.yield (B+1)) #[] #[]] ++ lb,V,?_,?_,?_,?_,fun _=>h1,?_⟩
 · subst hB; rw [<- hV]; exact run_enterLoop_outer _ _ _ _ _
 · simp only [resolve,hg]; simp [go_sem]
 · intro f' hf'; simp [Target.leads] at hf'; subst hf'; trivial
 · simp [invoke,go_sem,eg]
 · refine (yL (B+1) (fun k W=>I k W/\W.heap[B+1]?=some (.loop (rc .ready none))/\W.heap[B]?=some (.deferred (some []))) V vB (fun k A A' row hs jS hr=>⟨hI k A A' row hs.1 jS (fun r e=>?_),walk jS hr hs.2.1 rfl,walk jS hr hs.2.2 rfl⟩) ?_ ⟨vI,vL,vD⟩).mono ?_
   · obtain ⟨h2,o,ho,hw⟩:=hr r e;exact ⟨by omega,o,ho,Obj.not_cells_of_walk hw⟩
   · -- a round
     rintro k x W hk ⟨hi,hl,hd⟩ lU;refine ⟨fn,_,assign,body,run_yield (P:=P) (args:=enc x) hl (wQ x),roundIn_of_wpIn uC (kX _ k x W _ hk hi lU fun a' Wa SL pq vP=>?_)⟩;have al:=SL.same _ _ (r6 _) hl rfl;have ad:=SL.same _ _ (pj _) hd rfl;have asz:=(rB.1 al).1;refine ⟨_,run_beginRound al rfl,wpIn_mono (sV _ k x a' _ hk ((UU k x a').putObj (s:=()) _ vP (r6 _) al rfl)) ?_⟩;have bl:(Wa.putObj (B+1) (.loop (rc .busy none))).heap[B+1]?=some (.loop (rc .busy none)):=World.putObj_heap_same asz;have bd:(Wa.putObj (B+1) (.loop (rc .busy none))).heap[B]?=some (.deferred (some [])):=(World.putObj_heap_other (by omega)).trans ad;have bp:Kp Wa (Wa.putObj (B+1) (.loop (rc .busy none))):=LZ _ _ _ _ (r6 _) al rfl rfl;rintro e a3 W3 hp;cases e with
     | normal =>
       obtain ⟨SQ,QV,SY⟩:=hp;have cl:=SQ.same _ _ (r6 _) bl rfl;have cd:=SQ.same _ _ (pj _) bd rfl;have cs:=(rB.1 cl).1;exact ⟨_,_,run_endRound (P:=P) none cl,rfl,⟨hI.putObj _ SY (r6 _) cl rfl,World.putObj_heap_same cs,(World.putObj_heap_other (by omega)).trans cd⟩,LY pq (LY (LY bp QV) (LZ _ _ _ _ (r6 _) cl rfl rfl))⟩
     | ret=>exact hp.elim
     | exit id=>exact hp.elim
     | goto t=>exact hp.elim
     | panic ch=>exact hp.elim
     | outgrown=>exact hp.elim
   · -- behind the iterator
     rintro e W2 ⟨⟨v,rfl⟩,hi,hl,hd⟩;exact ⟨none,_,run_endLoop (P:=P) hl (by simp [rc]),iL B _ (pj _) (hI.putObj _ hi (r6 _) hl rfl) ((World.putObj_heap_other (by omega)).trans hd)⟩
end Go.Proofs.YtcepajijiabkmaaGreat
