/- Reference 22: Equal of two polynomials that are the same. -/
import Derived.Test.YtcepajijiabkmaaGreatMq30
import Derived.RangeFuncNested
set_option linter.unusedSimpArgs false
set_option linter.unusedVariables false
set_option maxRecDepth 100000
set_option maxHeartbeats 8000000
namespace Go.Proofs.YtcepajijiabkmaaGreat
open Lib (hid)
open Go.RowKit
def yc9 (w0:World) (n:Nat):Prop:=∀ (p:Pl) (v u:Value) (w:World),p.sz < n->p.sz<=1099511627776->PlV w0 (fun _=>True) p v->PlV w0 (fun _=>True) p u->Ext w0 w->Calls Tryz.prog 41 #[v,u] w (wam true w)
theorem qc8 (w0:World) (n:Nat):yc9 w0 n:=by
 induction n with
 | zero=>intro p v u w h; omega
 | succ n ih =>
 intro p v u w hn hsz h h' aF;have IH:=hid ih;have ay:=hid aF;have iT:Hid (∀ k (hk:k < p.cs.length),p.cs[k].sz < n/\p.cs[k].sz<=1099511627776):=by
  have:∀ k (hk:k < p.cs.length),p.cs[k].sz < n/\p.cs[k].sz<=1099511627776:=fun k hk=>by have:=Pl.sz_kid (List.getElem_mem hk); omega
  exact this
 have NS:=p.sz_len;obtain ⟨A0,n0,c0,A,c,rfl,ak,dY,dK,h4⟩:=h.open_;obtain ⟨B0,m0,d0,B,d,rfl,qB,Iy,O1,FZ⟩:=h'.open_;have H4:=hid h4;have H4':=hid FZ;have HN:=hid ak;have RZ:=hid qB;obtain ⟨W,hW⟩:=n_m ((w.alloc (.cells #[.int .i64 p.lv,.bool p.neg,.slice A0 n0 c0,.slice A p.cs.length c] 33)).alloc (.cells #[.int .i64 p.lv,.bool p.neg,.slice B0 m0 d0,.slice B p.cs.length d] 33));have ag:Ext w W:=by rw [<- hW]; exact ((Ext.refl w).alloc _).alloc _
 have bY:W.heap.size=w.heap.size+1+1:=by rw [<- hW]; simp
 have bJ:jc W w.heap.size p (.slice A0 n0 c0) (.slice A p.cs.length c):=by rw [<- hW]; exact (jc.new w p _ _ _).ext ((Ext.refl _).alloc _) (by simp)
 have xH:jc W (w.heap.size+1) p (.slice B0 m0 d0) (.slice B p.cs.length d):=by
  rw [<- hW];have h1:=jc.new (w.alloc (.cells #[.int .i64 p.lv,.bool p.neg,.slice A0 n0 c0,.slice A p.cs.length c] 33)) p (.slice B0 m0 d0) (.slice B p.cs.length d) 33;simpa using h1
 have aB:=hid ag;have eY:=hid bJ;have Tj:=hid xH;obtain ⟨b0,b1,b2,b3⟩:=bJ;obtain ⟨e0,e1,e2,e3⟩:=xH;have vU:=hid (ubm (.agg #[.bool p.neg,.slice A0 n0 c0]) (.agg #[.bool p.neg,.slice B0 m0 d0]) (sgn p.neg (val p.ds)) (sgn p.neg (val p.ds)) p.ds.length p.ds.length W ⟨_,_,_,rfl,HN.out.ext (ay.out.trans aB.out),rfl,Nat.le_refl _⟩ ⟨_,_,_,rfl,RZ.out.ext (ay.out.trans aB.out),rfl,Nat.le_refl _⟩);rw [uam rfl] at vU;clear h h' ih h4 FZ aF ak qB ag HN RZ;unfold plV;go_enter Tryz.func41,Tryz.ntmps41;go_wp2_with fail;clear hW b0 b1 b2 b3 e0 e1 e2 e3;refine vU.out.mono ?_;rintro e w1 ⟨rfl,x1⟩;obtain ⟨b0,b1,b2,b3⟩:=eY.out.ext x1 (by omega);obtain ⟨e0,e1,e2,e3⟩:=Tj.out.ext x1 (by omega);have X1:=hid (aB.out.trans x1);have lK:=x1.size;have Kw:=hid (eY.out.ext x1 (by omega));have Ku:=hid (Tj.out.ext x1 (by omega));clear x1 vU;go_wp2_with fail;clear b0 b1 b2 b3 e0 e1 e2 e3
 go_loopw [5] (fun iv wr=>∃ k:Nat,k<=p.cs.length/\iv=.int .i64 k/\Hid (Ext w1 wr)) (fun iv _=>p.cs.length - (intOf iv).toNat)
 case atStart=>exact ⟨0,Nat.zero_le _,rfl,Ext.refl _⟩
 case round =>
  obtain ⟨k,hk,rfl,hx⟩:=hrel;have HX:=hid hx.out;obtain ⟨b0,b1,b2,b3⟩:=Kw.out.ext HX.out (by omega);obtain ⟨e0,e1,e2,e3⟩:=Ku.out.ext HX.out (by omega);have kH:=HX.out.size;clear hx
  by_cases af:k < p.cs.length
  · obtain ⟨ad,C0,j0,f0,C1,j1,f1,rfl,ah,bF,aV⟩:=jd.kid H4.out k af;obtain ⟨ad',D0,i0,g0,D1,i1,g1,rfl,jE,qA,oI⟩:=jd.kid H4'.out k af;have bC:Ext w0 wr:=(ay.out.trans X1.out).trans HX.out;have En:=hid (bF.ext bC (by rw [ja]; exact ah));have Gz:=hid (qA.ext bC (by rw [ja]; exact jE));have cO:ad.block < wr.heap.size:=Nat.lt_of_lt_of_le ah bC.size;have bT:ad'.block < wr.heap.size:=Nat.lt_of_lt_of_le jE bC.size;have jQ:=hid (fun W' (bg:Ext wr W')=>IH.out p.cs[k] _ _ W' (iT.out k af).1 (iT.out k af).2 aV oI (bC.trans bg));unfold plV at jQ;generalize p.cs[k]=pk at *;have aN:Hid (∀ W2,Ext wr W2->(Ext wr W2/\W2.cell? ⟨w.heap.size,3,none⟩=some (.slice (some ad) p.cs.length c)/\W2.cell? ⟨w.heap.size+1,3,none⟩=some (.slice (some ad') p.cs.length d)/\W2.cell? (Addr.add ad (k * 4))=some (.int .i64 pk.lv)/\W2.cell? ⟨(Addr.add ad (k * 4)).block,(Addr.add ad (k * 4)).off+1,none⟩=some (.bool pk.neg)/\W2.cell? ⟨(Addr.add ad (k * 4)).block,(Addr.add ad (k * 4)).off+2,none⟩=some (.slice C0 j0 f0)/\W2.cell? ⟨(Addr.add ad (k * 4)).block,(Addr.add ad (k * 4)).off+3,none⟩=some (.slice C1 j1 f1)/\W2.cell? (Addr.add ad' (k * 4))=some (.int .i64 pk.lv)/\W2.cell? ⟨(Addr.add ad' (k * 4)).block,(Addr.add ad' (k * 4)).off+1,none⟩=some (.bool pk.neg)/\W2.cell? ⟨(Addr.add ad' (k * 4)).block,(Addr.add ad' (k * 4)).off+2,none⟩=some (.slice D0 i0 g0)/\W2.cell? ⟨(Addr.add ad' (k * 4)).block,(Addr.add ad' (k * 4)).off+3,none⟩=some (.slice D1 i1 g1))):=by
     have:∀ W2,Ext wr W2->(Ext wr W2/\W2.cell? ⟨w.heap.size,3,none⟩=some (.slice (some ad) p.cs.length c)/\W2.cell? ⟨w.heap.size+1,3,none⟩=some (.slice (some ad') p.cs.length d)/\W2.cell? (Addr.add ad (k * 4))=some (.int .i64 pk.lv)/\W2.cell? ⟨(Addr.add ad (k * 4)).block,(Addr.add ad (k * 4)).off+1,none⟩=some (.bool pk.neg)/\W2.cell? ⟨(Addr.add ad (k * 4)).block,(Addr.add ad (k * 4)).off+2,none⟩=some (.slice C0 j0 f0)/\W2.cell? ⟨(Addr.add ad (k * 4)).block,(Addr.add ad (k * 4)).off+3,none⟩=some (.slice C1 j1 f1)/\W2.cell? (Addr.add ad' (k * 4))=some (.int .i64 pk.lv)/\W2.cell? ⟨(Addr.add ad' (k * 4)).block,(Addr.add ad' (k * 4)).off+1,none⟩=some (.bool pk.neg)/\W2.cell? ⟨(Addr.add ad' (k * 4)).block,(Addr.add ad' (k * 4)).off+2,none⟩=some (.slice D0 i0 g0)/\W2.cell? ⟨(Addr.add ad' (k * 4)).block,(Addr.add ad' (k * 4)).off+3,none⟩=some (.slice D1 i1 g1)):=fun W2 aO=>by
      obtain ⟨a0,a1,a2,a3⟩:=En.out.ext aO (by rw [ja]; exact cO);obtain ⟨a0',a1',a2',a3'⟩:=Gz.out.ext aO (by rw [ja]; exact bT);exact ⟨aO,(aO.cell (p:=⟨w.heap.size,3,none⟩) (by show w.heap.size < _; omega)).trans b3,(aO.cell (p:=⟨w.heap.size+1,3,none⟩) (by show w.heap.size+1 < _; omega)).trans e3,a0,a1,a2,a3,a0',a1',a2',a3'⟩
     exact this
    clear bF qA aV oI bC ah jE;have y0:Ext wr wr.drew:=(Ext.refl wr).drew;have Y0:=hid y0;clear y0;go_upto_region 6 with fail;clear b0 b1 b2 b3 e0 e1 e2 e3
    go_region_held3 (fun W2 => Ext wr W2 /\ W2.cell? ⟨w.heap.size, 3, none⟩ = some (.slice (some ad) p.cs.length c) /\ W2.cell? ⟨w.heap.size + 1, 3, none⟩ = some (.slice (some ad') p.cs.length d) /\ W2.cell? (Addr.add ad (k * 4)) = some (.int .i64 pk.lv) /\ W2.cell? ⟨(Addr.add ad (k * 4)).block, (Addr.add ad (k * 4)).off + 1, none⟩ = some (.bool pk.neg) /\ W2.cell? ⟨(Addr.add ad (k * 4)).block, (Addr.add ad (k * 4)).off + 2, none⟩ = some (.slice C0 j0 f0) /\ W2.cell? ⟨(Addr.add ad (k * 4)).block, (Addr.add ad (k * 4)).off + 3, none⟩ = some (.slice C1 j1 f1) /\ W2.cell? (Addr.add ad' (k * 4)) = some (.int .i64 pk.lv) /\ W2.cell? ⟨(Addr.add ad' (k * 4)).block, (Addr.add ad' (k * 4)).off + 1, none⟩ = some (.bool pk.neg) /\ W2.cell? ⟨(Addr.add ad' (k * 4)).block, (Addr.add ad' (k * 4)).off + 2, none⟩ = some (.slice D0 i0 g0) /\ W2.cell? ⟨(Addr.add ad' (k * 4)).block, (Addr.add ad' (k * 4)).off + 3, none⟩ = some (.slice D1 i1 g1))
     (first | with_reducible exact aN.out _ Y0.out | with_reducible exact aN.out _ y1)
     ((go_at_call 41
       refine (jQ.out _ Y0.out).mono ?_;rintro e v1 ⟨rfl,x1⟩
       have y1:Ext wr v1:=Ext.trans Y0.out x1))
    all_goals
     have X2:=hid (HX.out.trans y1);clear y1 x1 jQ aN Y0;go_wp2_with fail
     go_roundw
     case rel=>exact ⟨k+1,by omega,by go_num,X2.out⟩
     case measure=>simp [intOf]; omega
  · clear b0 b1 b2 e0 e1 e2;go_wp2_with fail;go_ret;exact ⟨rfl,X1.out.trans HX.out⟩
theorem gb3 {w:World} {q1 q2:Nat->Prop} (p:Pl) (v u:Value) (hsz:p.sz<=1099511627776) (h:PlV w q1 p v) (k:PlV w q2 p u):Calls Tryz.prog 41 #[v,u] w (wam true w):=
 qc8 w (p.sz+1) p v u w (Nat.lt_succ_self _) hsz (h.mono fun _ _=>trivial) (k.mono fun _ _=>trivial) (Ext.refl w)
theorem jce {w0 w:World} {q:Nat->Prop} {b:Int} (p:Pl) (v:Value) (h:PlV w0 q p v) (aF:Ext w0 w) (hl:p.lv=0) (hc:p.Can):Calls Tryz.prog 42 #[v,.int .i64 b] w (wam true w):=by
 have hi:=(Pl.isCan_iff p h.dig).2 hc;obtain ⟨A0,n0,c0,A,c,rfl,⟨Vy,c0',e,dO,nR,hd⟩,dY,dK,h4⟩:=h.open_;injection e with e1 e2 e3
 subst e1 e2 e3;obtain ⟨l,ng,ds,cs⟩:=p
 change l=0 at hl
 subst hl;have eH:cs.length=0:=by
  unfold Pl.Can at hc;rcases hc with hc | hc
  · rw [hc.2.1]; rfl
  · omega
 have HX:Hid (∀ o,Ext w (w.alloc o)):=fun o=>(Ext.refl w).alloc o
 have MR:Hid (yj (w.alloc (.cells #[.int .i64 0,.bool ng,.slice A0 ds.length c0,.slice A cs.length c] 33)) A0 ds):=hd.ext (aF.trans ((Ext.refl w).alloc _));rw [Pl.isCan,if_pos rfl,if_neg (by omega)] at hi;simp only [Pl.cs,Pl.ds,Pl.lv,Pl.neg,plV] at *;clear h h4 hd;rw [eH] at MR ⊢
 by_cases xC:0 < ds.length
 · obtain ⟨ad,x,rfl,hb,ai,hx,HG⟩:=MR.out.get_ (ds.length - 1) (by omega);obtain ⟨k,hk⟩:∃ k:Nat,ds.length - 1=k:=⟨_,rfl⟩;have hk2:ds.length=k+1:=by omega
   rw [hk] at ai HG;have UI:ds.getLast?=some x:=by rw [List.getLast?_eq_getElem?,hk]; exact HG.out
   have aF:¬ x=0:=fun e=>by
    have h1:decide (ds.length=0)=false:=by rw [decide_eq_false_iff_not]; omega
    have h2:decide (ds.getLast? ≠ some 0)=false:=by rw [UI,e]; simp
    rw [h1,h2] at hi;simp at hi
   have Hg:((x:Int) == 0)=false:=by rw [beq_eq_false_iff_ne]; omega
   clear hi UI;generalize ds.length=N at *;subst hk2;have og:IntKind.i64.wrap (((k+1:Nat):Int) - 1)=k:=by simp [IntKind.wrap,IntKind.bits,IntKind.signed]; omega
   go_enter Tryz.func42,Tryz.ntmps42;go_wp2_with fail;go_ret;exact ⟨rfl,HX.out _⟩
 · have hN:ds.length=0:=by omega
   have pY:ng=false:=by rw [hN] at hi; simpa using hi
   subst pY;rw [hN] at MR;rw [hN];clear hi;go_enter Tryz.func42,Tryz.ntmps42;go_wp2_with fail;go_ret;exact ⟨rfl,HX.out _⟩
theorem ycl : ∀ {x : Pl}, x.Can -> x.lv = 0 -> x.ds = [] -> x = Pl.zero
 | .mk l ng ds cs,hc,hl,hd=>by
   simp only [Pl.lv,Pl.ds] at hl hd;subst hl hd;unfold Pl.Can at hc;rcases hc with hc | hc
   · rw [hc.2.1,hc.2.2.2 rfl]; rfl
   · omega
def xc4 (w0:World) (q:Nat->Prop) (n:Nat):Prop:=∀ (p:Pl) (v:Value) (w:World) (b:Int),p.sz < n->p.sz<=1099511627776->p.Can->p.lv < b->PlV w0 q p v->Ext w0 w->Calls Tryz.prog 42 #[v,.int .i64 b] w (wam true w)
theorem vcw (w0:World) (q:Nat->Prop) (n:Nat):xc4 w0 q n:=by
 induction n with
 | zero=>intro p v w b h; omega
 | succ n ih =>
 intro p v w b hn hsz hc hb h aF
 by_cases hl:p.lv=0
 · exact jce p v h aF hl hc
 have IH:=hid ih;have ay:=hid aF;have iT:Hid (∀ k (hk:k < p.cs.length),p.cs[k].sz < n/\p.cs[k].sz<=1099511627776):=hid (fun k hk=>by have:=Pl.sz_kid (List.getElem_mem hk); omega);have NS:=p.sz_len;obtain ⟨dY,aj,pY,xC,hlen,Fe,dC⟩:1<=p.lv/\p.lv<=4/\p.neg=false/\p.ds=[]/\2<=p.cs.length/\gp p.lv p.cs/\p.cs.getLast? ≠ some Pl.zero:=by
  obtain ⟨l,ng,ds,cs⟩:=p;unfold Pl.Can at hc;rcases hc with hc | hc
  · exact absurd hc.1 hl
  · exact hc
 have HK:=hid Fe.mem;have OV:∀ (h:p.cs.length - 1 < p.cs.length),p.cs[p.cs.length - 1] ≠ Pl.zero:=fun h e=>dC (by rw [List.getLast?_eq_getElem?,List.getElem?_eq_getElem h,e])
 have aad:=hid OV;obtain ⟨A0,n0,c0,A,c,rfl,ak,Iy,O1,h4⟩:=h.open_;rw [xC] at ak;obtain ⟨Vy,c0',e,-,-,-⟩:=ak;injection e with e1 e2 e3
 subst e1 e2 e3;have H4:=hid h4;unfold plV;rw [pY];obtain ⟨W,hW⟩:=n_m ((w.alloc (.cells #[.int .i64 p.lv,.bool false,.slice A0 0 c0,.slice A p.cs.length c] 33)));have ag:Ext w W:=by rw [<- hW]; exact (Ext.refl w).alloc _
 have bY:W.heap.size=w.heap.size+1:=by rw [<- hW]; simp
 have bJ:jc W w.heap.size p (.slice A0 0 c0) (.slice A p.cs.length c):=by rw [<- hW,<- pY]; exact jc.new w p _ _ _
 have aB:=hid ag;have eY:=hid bJ;obtain ⟨b0,b1,b2,b3⟩:=bJ;have q1:¬ p.lv < 0:=by omega
 have q2:¬ b<=p.lv:=by omega
 have q3:¬ (p.cs.length:Int) < 2:=by omega
 have q4:¬ p.lv=0:=hl;clear h ih h4 aF ag xC Fe dC OV hc;rw [pY] at b1;have JS:=hid pY;clear pY;simp only [List.length_nil];go_enter Tryz.func42,Tryz.ntmps42;go_wp2_with fail;clear hW b0 b1 b2 b3
 go_loopw [6] (fun iv wr=>∃ k:Nat,k<=p.cs.length/\iv=.int .i64 k/\Hid (Ext W wr)) (fun iv _=>p.cs.length - (intOf iv).toNat)
 case atStart=>exact ⟨0,Nat.zero_le _,rfl,Ext.refl _⟩
 case round =>
  obtain ⟨k,hk,rfl,hx⟩:=hrel;have HX:=hid hx.out;obtain ⟨b0,b1,b2,b3⟩:=eY.out.ext HX.out (by omega);rw [JS.out] at b1;have kH:=HX.out.size;clear hx
  by_cases af:k < p.cs.length
  · obtain ⟨ad,C0,j0,f0,C1,j1,f1,rfl,ah,bF,aV⟩:=jd.kid H4.out k af;have bC:Ext w0 wr:=(ay.out.trans aB.out).trans HX.out;have En:=hid (bF.ext bC (by rw [ja]; exact ah));have cO:ad.block < wr.heap.size:=Nat.lt_of_lt_of_le ah bC.size;obtain ⟨hkl,yO⟩:=HK.out p.cs[k] (List.getElem_mem af);have jQ:=hid (fun W' (bg:Ext wr W')=>IH.out p.cs[k] _ W' p.lv (iT.out k af).1 (iT.out k af).2 yO hkl aV (bC.trans bg));unfold plV at jQ;clear hkl yO;generalize p.cs[k]=pk at *;have aN:Hid (∀ W2,Ext wr W2->(Ext wr W2/\W2.cell? ⟨w.heap.size,0,none⟩=some (.int .i64 p.lv)/\W2.cell? ⟨w.heap.size,3,none⟩=some (.slice (some ad) p.cs.length c)/\W2.cell? (Addr.add ad (k * 4))=some (.int .i64 pk.lv)/\W2.cell? ⟨(Addr.add ad (k * 4)).block,(Addr.add ad (k * 4)).off+1,none⟩=some (.bool pk.neg)/\W2.cell? ⟨(Addr.add ad (k * 4)).block,(Addr.add ad (k * 4)).off+2,none⟩=some (.slice C0 j0 f0)/\W2.cell? ⟨(Addr.add ad (k * 4)).block,(Addr.add ad (k * 4)).off+3,none⟩=some (.slice C1 j1 f1))):=hid (fun W2 aO=>by
     obtain ⟨a0,a1,a2,a3⟩:=En.out.ext aO (by rw [ja]; exact cO)
     exact ⟨aO,(aO.cell (p:=⟨w.heap.size,0,none⟩) (by show w.heap.size < _; omega)).trans b0,(aO.cell (p:=⟨w.heap.size,3,none⟩) (by show w.heap.size < _; omega)).trans b3,a0,a1,a2,a3⟩)
    clear bF aV bC ah;have y0:Ext wr wr.drew:=(Ext.refl wr).drew;have Y0:=hid y0;clear y0;go_upto_region 11 with fail;clear b0 b1 b2 b3
    go_region_held3 (fun W2 => Ext wr W2 /\ W2.cell? ⟨w.heap.size, 0, none⟩ = some (.int .i64 p.lv) /\ W2.cell? ⟨w.heap.size, 3, none⟩ = some (.slice (some ad) p.cs.length c) /\ W2.cell? (Addr.add ad (k * 4)) = some (.int .i64 pk.lv) /\ W2.cell? ⟨(Addr.add ad (k * 4)).block, (Addr.add ad (k * 4)).off + 1, none⟩ = some (.bool pk.neg) /\ W2.cell? ⟨(Addr.add ad (k * 4)).block, (Addr.add ad (k * 4)).off + 2, none⟩ = some (.slice C0 j0 f0) /\ W2.cell? ⟨(Addr.add ad (k * 4)).block, (Addr.add ad (k * 4)).off + 3, none⟩ = some (.slice C1 j1 f1))
     (first | with_reducible exact aN.out _ Y0.out | with_reducible exact aN.out _ y1)
     ((go_at_call 42
       refine (jQ.out _ Y0.out).mono ?_;rintro e v1 ⟨rfl,x1⟩
       have y1:Ext wr v1:=Ext.trans Y0.out x1))
    all_goals
     have X2:=hid (HX.out.trans y1);clear y1 x1 jQ aN Y0;go_wp2_with fail
     go_roundw
     case rel=>exact ⟨k+1,by omega,by go_num,X2.out⟩
     case measure=>simp [intOf]; omega
  · obtain ⟨m,hm⟩:∃ m:Nat,p.cs.length - 1=m:=⟨_,rfl⟩;have Lh:p.cs.length=m+1:=by omega
    have jY:m < p.cs.length:=by omega
    obtain ⟨ad,C0,j0,f0,C1,j1,f1,rfl,ah,bF,aV⟩:=jd.kid H4.out m jY;have bC:Ext w0 wr:=(ay.out.trans aB.out).trans HX.out;obtain ⟨g0,g1,g2,g3⟩:=bF.ext bC (by rw [ja]; exact ah);obtain ⟨hkl,yO⟩:=HK.out p.cs[m] (List.getElem_mem jY);have uM:p.cs[m] ≠ Pl.zero:=by have:=aad.out (by omega); simpa only [hm] using this
    have hw:IntKind.i64.wrap ((p.cs.length:Int) - 1)=m:=by rw [IntKind.wrap_i64]; omega
    have hmi:(m:Int) < (p.cs.length:Int):=by omega
    obtain ⟨U,hU⟩:=n_m ((wr.alloc (.cells #[.int .i64 p.cs[m].lv,.bool p.cs[m].neg,.slice C0 j0 f0,.slice C1 j1 f1] 33)));have hxU:Ext wr U:=by rw [<- hU]; exact (Ext.refl wr).alloc _
    obtain ⟨s0,s1,s2,s3⟩:jc U wr.heap.size p.cs[m] (.slice C0 j0 f0) (.slice C1 j1 f1):=by rw [<- hU]; exact jc.new wr p.cs[m] _ _ _
    have HF:=hid (aB.out.trans (HX.out.trans hxU));have Xr:j0=p.cs[m].ds.length:=by
     obtain ⟨D0,dn,dc,D1,dd,e9,hn9,-⟩:=aV.open_;unfold plV at e9;simp only [Value.agg.injEq,Array.mk.injEq,List.cons.injEq,and_true,true_and] at e9;obtain ⟨h1,-⟩:=e9;injection h1 with a1 a2 a3
     obtain ⟨A',c',e8,-⟩:=hn9;injection e8 with _ e8 _
     rw [a2]; exact e8
    have uS:(0 < p.cs[m].lv)\/(¬ 0 < p.cs[m].lv/\0 < j0):=by
     rcases Int.lt_or_le 0 p.cs[m].lv with h1 | h1
     · exact .inl h1
     · refine .inr ⟨by omega,?_⟩;have hz:=yO.lv_nonneg.1;have Xc:p.cs[m].lv=0:=by omega
       rcases Nat.eq_zero_or_pos j0 with h2 | h2
       · exact absurd (ycl yO Xc (List.eq_nil_of_length_eq_zero (by omega))) uM
       · exact h2
    generalize p.cs[m]=pk at *;clear bC ah bF aV hkl yO uM hxU hm Lh Xr;rcases uS with h1 | ⟨h1,h2⟩
    · go_wp2_with fail;go_ret;exact ⟨rfl,HF.out⟩
    · go_wp2_with fail;go_ret;exact ⟨rfl,HF.out⟩
theorem ucm {w:World} {q:Nat->Prop} (p:Pl) (v:Value) (b:Int) (hc:p.Can) (hb:p.lv < b) (hsz:p.sz<=1099511627776) (h:PlV w q p v):Calls Tryz.prog 42 #[v,.int .i64 b] w (wam true w):=
 vcw w q (p.sz+1) p v w b (Nat.lt_succ_self _) hsz hc hb h (Ext.refl w)
theorem ya0 {w:World} {q0 q1:Nat->Prop} {L:List Pl} {D0 D1:Option Addr} {c0 c1 E D:Nat} (hA:jd w q0 L D0 0) (hB:jd w q1 L D1 0) (hf:∀ c ∈ L,Fit c E D) (hE:E<=170) (hD:D<=1099511627776) (hn:L.length<=1000000) :
 Calls Tryz.prog 17 #[.slice D0 L.length c0,.slice D1 L.length c1] w (wam true w):=by
 have HA:=hid hA;have HB:=hid hB;have HF:=hid hf;clear hA hB hf;go_enter Tryz.func17,Tryz.ntmps17;go_wp2_with fail
 go_loopw [13] (fun iv wr=>∃ k:Nat,k<=L.length/\iv=.int .i64 k/\Hid (Ext w wr)) (fun iv _=>L.length - (intOf iv).toNat)
 case atStart=>exact ⟨0,Nat.zero_le _,rfl,Ext.refl _⟩
 case round =>
  obtain ⟨k,hk,rfl,hx⟩:=hrel;have HX:=hid hx.out;clear hx
  by_cases af:k < L.length
  · obtain ⟨ad,C0,j0,f0,C1,j1,f1,rfl,ah,bF,aV⟩:=jd.kid (HA.out.ext HX.out) k af;obtain ⟨ad',E0,i0,g0,E1,i1,g1,rfl,jE,qA,oI⟩:=jd.kid (HB.out.ext HX.out) k af;have iY:=HF.out L[k] (List.getElem_mem af);have En:=hid bF;have Gz:=hid qA;have HKA:=hid aV;have HKB:=hid oI;have CJ:=hid (fun W' (hx:Ext wr W')=>wad _ (oI.ext hx) iY.can (iY.copy_ hE) (by have:=iY.dm; omega));have vZ:=hid (fun W' (q:Nat->Prop) (u:Value) (hx:Ext wr W') (hu:PlV W' q L[k] u)=>gb3 _ _ u (iY.copy_ hE) (aV.ext hx) hu);have rM:=hid (fun W' (hx:Ext wr W')=>ucm _ _ 5 iY.can (by have:=iY.can.lv_nonneg.2; omega) (iY.copy_ hE) (aV.ext hx));unfold plV at CJ vZ rM;generalize L[k]=pk at *;have aN:Hid (∀ W2,Ext wr W2->(Ext wr W2/\W2.cell? (Addr.add ad (k * 4))=some (.int .i64 pk.lv)/\W2.cell? ⟨(Addr.add ad (k * 4)).block,(Addr.add ad (k * 4)).off+1,none⟩=some (.bool pk.neg)/\W2.cell? ⟨(Addr.add ad (k * 4)).block,(Addr.add ad (k * 4)).off+2,none⟩=some (.slice C0 j0 f0)/\W2.cell? ⟨(Addr.add ad (k * 4)).block,(Addr.add ad (k * 4)).off+3,none⟩=some (.slice C1 j1 f1)/\W2.cell? (Addr.add ad' (k * 4))=some (.int .i64 pk.lv)/\W2.cell? ⟨(Addr.add ad' (k * 4)).block,(Addr.add ad' (k * 4)).off+1,none⟩=some (.bool pk.neg)/\W2.cell? ⟨(Addr.add ad' (k * 4)).block,(Addr.add ad' (k * 4)).off+2,none⟩=some (.slice E0 i0 g0)/\W2.cell? ⟨(Addr.add ad' (k * 4)).block,(Addr.add ad' (k * 4)).off+3,none⟩=some (.slice E1 i1 g1))):=hid (fun W2 aO=>by
     obtain ⟨a0,a1,a2,a3⟩:=En.out.ext aO (by rw [ja]; exact ah);obtain ⟨a0',a1',a2',a3'⟩:=Gz.out.ext aO (by rw [ja]; exact jE)
     exact ⟨aO,a0,a1,a2,a3,a0',a1',a2',a3'⟩)
    clear bF qA aV oI iY;have y0:Ext wr wr.drew:=(Ext.refl wr).drew;have Y0:=hid y0;clear y0;go_upto_region 6 with fail
    go_region_held3 (fun W2 => Ext wr W2 /\ W2.cell? (Addr.add ad (k * 4)) = some (.int .i64 pk.lv) /\ W2.cell? ⟨(Addr.add ad (k * 4)).block, (Addr.add ad (k * 4)).off + 1, none⟩ = some (.bool pk.neg) /\ W2.cell? ⟨(Addr.add ad (k * 4)).block, (Addr.add ad (k * 4)).off + 2, none⟩ = some (.slice C0 j0 f0) /\ W2.cell? ⟨(Addr.add ad (k * 4)).block, (Addr.add ad (k * 4)).off + 3, none⟩ = some (.slice C1 j1 f1) /\ W2.cell? (Addr.add ad' (k * 4)) = some (.int .i64 pk.lv) /\ W2.cell? ⟨(Addr.add ad' (k * 4)).block, (Addr.add ad' (k * 4)).off + 1, none⟩ = some (.bool pk.neg) /\ W2.cell? ⟨(Addr.add ad' (k * 4)).block, (Addr.add ad' (k * 4)).off + 2, none⟩ = some (.slice E0 i0 g0) /\ W2.cell? ⟨(Addr.add ad' (k * 4)).block, (Addr.add ad' (k * 4)).off + 3, none⟩ = some (.slice E1 i1 g1))
     (first | with_reducible exact aN.out _ Y0.out | with_reducible exact aN.out _ y1 | with_reducible exact aN.out _ y2 | with_reducible exact aN.out _ y3)
     (first
       | (go_at_call 36
          refine (CJ.out _ Y0.out).mono ?_;rintro e v1 ⟨nv,rfl,p1,x1⟩
          have y1:Ext wr v1:=Ext.trans Y0.out x1)
       | (go_at_call 41
          refine (vZ.out _ _ _ y1 p1).mono ?_;rintro e v2 ⟨rfl,x2⟩
          have y2:Ext wr v2:=Ext.trans y1 x2)
       | (go_at_call 42
          refine (rM.out _ y2).mono ?_;rintro e v3 ⟨rfl,x3⟩
          have y3:Ext wr v3:=Ext.trans y2 x3))
    all_goals
     have X2:=hid (HX.out.trans y3);clear y1 y2 y3 x1 x2 x3 p1 aN Y0 CJ vZ rM;go_wp2_with fail
     go_roundw
     case rel=>exact ⟨k+1,by omega,by go_num,X2.out⟩
     case measure=>simp [intOf]; omega
  · obtain rfl:k=L.length:=by omega
    go_wp2_with fail;go_ret;exact ⟨rfl,HX.out⟩
def ga4 (B : Nat) (Kp : World -> World -> Prop) (I : World -> Prop) (W : World) : Exit -> Act -> World -> Prop
 | .normal,_,W'=>KeepsFrom B W W'/\Kp W W'/\I W'
 | _,_,_=>False
def ycy {α:Type} (n:Nat) (P:Program) (g:Nat) (lb:Array Value) (enc:α->Array Value) (Ok:Nat->α->World->Prop) (Kp:World->World->Prop) (N:Nat) (w:World):Prop:=
 ∀ (l:Nat) (J:Nat->World->Prop) (W:World),Below w.heap.size w W->AbidesFrom W.heap.size J ->
   (∀ k x W1,k < N->J k W1->Ok k x W1->YieldAt Fence.wide (n - 1) P l (enc x) W1 fun e W'=>e=.returned (.bool true)/\J (k+1) W'/\Kp W1 W') ->
   J 0 W->CallsIn Fence.wide n P g (#[.func (.yield l) #[] #[]] ++ lb) W fun e W'=>(∃ v,e=.returned v)/\J N W'
theorem gbs {α : Type} {n : Nat} {P : Program} {w : World} {g : Operand} {ps : Array Tmp} {assign body : Code} {Q : Exit -> Act -> World -> Prop} {a : Act}
 (h1:1<=n) {gf:Nat} {lb:Array Value} (hg:a.eval g=.func (.func gf) #[] lb) (eg:∀ args w,(callFunc gf args).run P w=.ok (.enter gf args) w)
 {enc:α->Array Value} {Ok:Nat->α->World->Prop} {Kp:World->World->Prop} {N:Nat} {w0:World} (wS:ycy (n - 1) P gf lb enc Ok Kp N w0)
 (Jq:∀ {A B C:World},Kp A B->Kp B C->Kp A C) (Jr:∀ (W:World) (l:Nat) (o o':Obj),w.heap.size<=l->W.heap[l]?=some o->o.isCells=false->o.isWalk=false->Kp W (W.putObj l o')) (bU:Below w0.heap.size w0 w) (uG:∀ x,(enc x).size=ps.size)
 (I:Nat->World->Prop) (hI:OwnFrom w.heap.size I) (h0:I 0 w) (Ax:Nat->α->Act->World->Prop) (QU:∀ k x a',OwnFrom w.heap.size (fun (_:Unit) W=>Ax k x a' W))
 (jD:∀ (l k:Nat) (x:α) (W:World) (K:Act->World->Prop),k < N->I k W->Ok k x W->(∀ a' W',KeepsFrom w.heap.size W W'->Kp W W'->Ax k x a' W'->K a' W') ->
   assign.wpIn (Fence.wide.inRound l) (n - 1 - 1) P (Exit.then K (fun _ _ _=>False)) { tmps:=(ps.zip (enc x)).foldl (fun t (p,v)=>t.setIfInBounds p v) a.tmps,defers:=[] } W)
 (qM:∀ (l k:Nat) (x:α) (a':Act) (W:World),k < N->Ax k x a' W->body.wpIn (Fence.wide.inRound l) (n - 1 - 1) P (ga4 w.heap.size Kp (I (k+1)) W) a' W)
 (fB:∀ (D:Nat) (W:World),w.heap.size<=D->I N W->W.heap[D]?=some (.deferred (some []))->Q .normal { a with defers:={ target:=.collected D,args:=#[] } :: a.defers } W) :
 (Code.rangeFunc g ps assign body).wpIn Fence.wide n P Q a w:=by
 refine wpIn_rangeFunc fun fn Ce=>?_
 obtain ⟨B,hB⟩:=n_m (w.heap.size)
 let rc:LoopState->Option Code->Loop:=fun st pe=>{ state:=st,pending:=pe,fn,tmps:=a.tmps,params:=ps,assign,body,defers:=B }
 obtain ⟨V,hV⟩:=n_m ((w.alloc (.deferred (some []))).alloc (.loop (rc .ready none)));have vL:V.heap[B+1]?=some (.loop (rc .ready none)):=by
  rw [<- hV,<- hB];have:=World.alloc_heap_new (w.alloc (.deferred (some []))) (.loop (rc .ready none))
  rwa [World.size_alloc] at this
 have vD:V.heap[B]?=some (.deferred (some [])):=by
  rw [<- hV,<- hB]; exact (Below.heap_alloc _ _ _ (by simp)).trans (World.alloc_heap_new w _)
 have vI:I 0 V:=by rw [<- hV]; exact hI.alloc _ (hI.alloc _ h0)
 have vB:Below w0.heap.size w0 V:=by
  rw [<- hV]; exact bU.trans ((((Below.refl _ w).alloc (Nat.le_refl _) _).alloc (by simp) _).mono bU.size)
 have vS:V.heap.size=B+2:=by rw [<- hV,<- hB]; simp
 rw [hB] at Jr hI QU jD qM fB
 have walk:∀ {A A':World} {row:Option Nat} {k:Nat} {o:Obj},A.grownBy A' row->(∀ r,row=some r->V.heap.size<=r/\∃ o:Obj,A.heap[r]?=some o/\o.isWalk=true)->A.heap[k]?=some o->o.isWalk=false->A'.heap[k]?=some o:=
  fun iG hr hk ho=>(grownBy_keeps iG (fun r e=>(hr r e).2) hk ho).trans hk
 refine ⟨B+1,[{ target:=.collected B,args:=#[] }],V,{ target:=.fn (.func gf) lb,args:=#[.func (.yield (B+1)) #[] #[]] },V,gf,#[.func (.yield (B+1)) #[] #[]] ++ lb,V,?_,?_,?_,?_,fun _=>h1,?_⟩
 · subst hB; rw [<- hV]; exact run_enterLoop_outer _ _ _ _ _
 · simp only [resolve,hg]; simp [go_sem]
 · intro f' hf'; simp [Target.leads] at hf'; subst hf'; trivial
 · simp [invoke,go_sem,eg]
 · refine (wS (B+1) (fun k W=>I k W/\W.heap[B+1]?=some (.loop (rc .ready none))/\W.heap[B]?=some (.deferred (some []))) V vB (fun k A A' row hs iG hr=>⟨hI k A A' row hs.1 iG (fun r e=>?_),walk iG hr hs.2.1 rfl,walk iG hr hs.2.2 rfl⟩) ?_ ⟨vI,vL,vD⟩).mono ?_
   · obtain ⟨h2,o,ho,hw⟩:=hr r e;exact ⟨by omega,o,ho,Obj.not_cells_of_walk hw⟩
   · -- a round
     rintro k x W hk ⟨hi,hl,hd⟩ jX;refine ⟨fn,_,assign,body,run_yield (P:=P) (args:=enc x) hl (uG x),roundIn_of_wpIn Ce (jD _ k x W _ hk hi jX fun a' Wa Pg wV sZ=>?_)⟩;have al:=Pg.same _ _ (Nat.le_succ _) hl rfl;have ad:=Pg.same _ _ (Nat.le_refl _) hd rfl;have Zr:=(Array.getElem?_eq_some_iff.1 al).1;refine ⟨_,run_beginRound al rfl,wpIn_mono (qM _ k x a' _ hk ((QU k x a').putObj (s:=()) _ sZ (Nat.le_succ _) al rfl)) ?_⟩;have bl:(Wa.putObj (B+1) (.loop (rc .busy none))).heap[B+1]?=some (.loop (rc .busy none)):=World.putObj_heap_same Zr;have bd:(Wa.putObj (B+1) (.loop (rc .busy none))).heap[B]?=some (.deferred (some [])):=(World.putObj_heap_other (by omega)).trans ad;have bp:Kp Wa (Wa.putObj (B+1) (.loop (rc .busy none))):=Jr _ _ _ _ (Nat.le_succ _) al rfl rfl;rintro e a3 W3 hp;cases e with
     | normal =>
       obtain ⟨Pi,WQ,Po⟩:=hp;have cl:=Pi.same _ _ (Nat.le_succ _) bl rfl;have cd:=Pi.same _ _ (Nat.le_refl _) bd rfl;have cs:=(Array.getElem?_eq_some_iff.1 cl).1;exact ⟨_,_,run_endRound (P:=P) none cl,rfl,⟨hI.putObj _ Po (Nat.le_succ _) cl rfl,World.putObj_heap_same cs,(World.putObj_heap_other (by omega)).trans cd⟩,Jq wV (Jq (Jq bp WQ) (Jr _ _ _ _ (Nat.le_succ _) cl rfl rfl))⟩
     | ret=>exact hp.elim
     | exit id=>exact hp.elim
     | goto t=>exact hp.elim
     | panic ch=>exact hp.elim
     | outgrown=>exact hp.elim
   · -- behind the iterator
     rintro e W2 ⟨⟨v,rfl⟩,hi,hl,hd⟩;exact ⟨none,_,run_endLoop (P:=P) hl (by simp [rc]),fB B _ (Nat.le_refl _) (hI.putObj _ hi (Nat.le_succ _) hl rfl) ((World.putObj_heap_other (by omega)).trans hd)⟩
end Go.Proofs.YtcepajijiabkmaaGreat
