/- PrenexTruth: for every tree and every four small integers the law answers true, and it reads as before. No condition but the listed tables, which this road never looks into. The row and the tied card. -/
import Derived.Test.YtheefiaoimbeiaaGreatDoorMt31
import Derived.Test.YtheefiaoimbeiaaGreatDoorMt32
import Derived.Test.YtheefiaoimbeiaaGreatDoorMt18
import Derived.Test.YtheefiaoimbeiaaGreatDoorMt27
import Derived.Test.YtheefiaoimbeiaaGreatDoorMt24
import Derived.Test.YtheefiaoimbeiaaGreatDoorRows
import Derived.Test.YtheefiaoimbeiaaGreatDoorCards
import Derived.Test.YtheefiaoimbeiaaGreatDoorTie
import Derived.SevenTiedAt
set_option linter.unusedSimpArgs false
set_option linter.unusedVariables false

set_option maxRecDepth 100000
set_option maxHeartbeats 8000000
namespace Go.Proofs.YtheefiaoimbeiaaGreatDoor
open Go.RowKit
theorem xb6 {f:Fm} (h:f.lim=true) (hs:f.sz<=120):f.fineL 20:=by
 have one:∀ t:Tm,t.lim=true->t.sz<=120->t.bt 20<=1000000000000:=by
  intro t h hs;unfold Tm.lim at h;simp only [Bool.and_eq_true,Bool.not_eq_true',decide_eq_false_iff_not] at h;have h1:=t.bt_le 20 (by omega);have hw:=t.wt_bd;have h2:(t.sz:Int) * t.wt<=120 * 320:=Int.mul_le_mul (by omega) (by omega) (by omega) (by omega);omega
 induction f with
 | truth b=>exact trivial
 | atom l r k =>
   simp only [Fm.sz] at hs;simp only [Fm.lim,Bool.and_eq_true] at h;exact ⟨one l h.1 (by omega),one k h.2 (by omega)⟩
 | not f ih=>simp only [Fm.sz] at hs; exact ih h (by omega)
 | and f g ihf ihg=>simp only [Fm.sz] at hs; simp only [Fm.lim,Bool.and_eq_true] at h; exact ⟨ihf h.1 (by omega),ihg h.2 (by omega)⟩
 | or f g ihf ihg=>simp only [Fm.sz] at hs; simp only [Fm.lim,Bool.and_eq_true] at h; exact ⟨ihf h.1 (by omega),ihg h.2 (by omega)⟩
 | imp f g ihf ihg=>simp only [Fm.sz] at hs; simp only [Fm.lim,Bool.and_eq_true] at h; exact ⟨ihf h.1 (by omega),ihg h.2 (by omega)⟩
 | iff f g ihf ihg=>simp only [Fm.sz] at hs; simp only [Fm.lim,Bool.and_eq_true] at h; exact ⟨ihf h.1 (by omega),ihg h.2 (by omega)⟩
 | quant a s f ih=>simp only [Fm.sz] at hs; exact ih h (by omega)
theorem wcz {z:Int} (h0:-32768<=z) (h1:z<=32767):(dg z.natAbs).length<=1:=by
 by_cases hz:z.natAbs=0
 · rw [hz,jm]; exact Nat.zero_le _
 · rw [yam (by omega) (by show z.natAbs < 4294967296; omega)]; exact Nat.le_refl _
theorem ybl {w:World} {p:Nat->Prop} (t:Tr) (v:Value) (h:TrV w p t v) (x:Nat->Int) (hx:∀ k,k < 4->-32768<=x k/\x k<=32767):Calls Tryz.prog 3 #[v,.agg #[.int .i16 (x 0),.int .i16 (x 1),.int .i16 (x 2),.int .i16 (x 3)]] w (kad true w):=by
 have HT:=Lib.hid h;obtain ⟨A0,n0,c0,A,c,rfl,-,hl1,hl2,h4⟩:=h.open_;clear h h4;unfold ndV;unfold ndV at HT;obtain ⟨W,hW⟩:=n_m ((w.alloc (.cells #[.int .i64 t.d.kind,.bool t.d.neg,.slice A0 n0 c0,.string t.d.name,.int .i64 t.d.exp,.int .i64 t.d.rel,.bool t.d.truth,.bool t.d.all,.slice A t.ks.length c] 29)).alloc (.cells #[.int .i16 (x 0),.int .i16 (x 1),.int .i16 (x 2),.int .i16 (x 3)] 31));have hWx:Ext w W:=by rw [<- hW]; exact ((Ext.refl w).alloc _).alloc _
 have hWs:W.heap.size=w.heap.size+1+1:=by rw [<- hW]; simp
 have hbx:yai W w.heap.size t.d (.slice A0 n0 c0) (.slice A t.ks.length c):=by rw [<- hW]; exact (yai.new w t.d _ _ _).ext ((Ext.refl _).alloc _) (by simp)
 have hbw:W.heap[w.heap.size+1]?=some (.cells #[.int .i16 (x 0),.int .i16 (x 1),.int .i16 (x 2),.int .i16 (x 3)] 31 (0,0)):=by
  rw [<- hW];have:=heap_alloc_new (w.alloc (.cells #[.int .i64 t.d.kind,.bool t.d.neg,.slice A0 n0 c0,.string t.d.name,.int .i64 t.d.exp,.int .i64 t.d.rel,.bool t.d.truth,.bool t.d.all,.slice A t.ks.length c] 29)) (.cells #[.int .i16 (x 0),.int .i16 (x 1),.int .i16 (x 2),.int .i16 (x 3)] 31)
  rwa [World.size_alloc] at this
 have HIN:=Lib.hid (fun (W':World)=>xby (w:=W') x hx);have HXL:Hid (∀ z ∈ (List.range 4).map x,(dg z.natAbs).length<=1):=by
  intro z hz;obtain ⟨k,hk,rfl⟩:=List.mem_map.1 hz;have:=hx k (List.mem_range.1 hk);exact wcz this.1 this.2
 have HWX:=Lib.hid hWx;have HBX:Hid (∀ W',Ext W W'->W'.cell? ⟨w.heap.size,0,none⟩=some (.int .i64 t.d.kind)/\W'.cell? ⟨w.heap.size,1,none⟩=some (.bool t.d.neg)/\W'.cell? ⟨w.heap.size,2,none⟩=some (.slice A0 n0 c0)/\W'.cell? ⟨w.heap.size,3,none⟩=some (.string t.d.name)/\W'.cell? ⟨w.heap.size,4,none⟩=some (.int .i64 t.d.exp)/\W'.cell? ⟨w.heap.size,5,none⟩=some (.int .i64 t.d.rel)/\W'.cell? ⟨w.heap.size,6,none⟩=some (.bool t.d.truth)/\W'.cell? ⟨w.heap.size,7,none⟩=some (.bool t.d.all)/\W'.cell? ⟨w.heap.size,8,none⟩=some (.slice A t.ks.length c)):=Lib.hid (fun W' hx=>hbx.ext hx (by omega));have HXA:Hid (∀ W',Ext W W'->W'.cell? ⟨w.heap.size+1,0,none⟩=some (.int .i16 (x 0))/\W'.cell? ⟨w.heap.size+1,1,none⟩=some (.int .i16 (x 1))/\W'.cell? ⟨w.heap.size+1,2,none⟩=some (.int .i16 (x 2))/\W'.cell? ⟨w.heap.size+1,3,none⟩=some (.int .i16 (x 3))):=Lib.hid (fun W' hx=>by
  have hb:=(hx.below.block _ (by omega)).trans hbw
  refine ⟨?_,?_,?_,?_⟩ <;> simp [World.cell?,hb])
 have HRI:=Lib.hid (fun W' (hx:Ext W W')=>gbo t _ (HT.out.ext (HWX.out.trans hx)));have HFO:=Lib.hid (fun (h1:(t.few 120 && decide (t.iffs<=4) && t.is false)=true)=>by
  simp only [Bool.and_eq_true,decide_eq_true_eq] at h1;obtain ⟨f,hm,hz⟩:=wc1 t h1.2 (qay h1.1.1).2
  exact (⟨f,hm,by have:=(qay h1.1.1).1; omega,Nat.le_trans (wcr 20 f t hm) h1.1.2,(qay h1.1.1).1⟩:∃ f,zx 20 f t/\f.sz<=120/\f.iffN<=4/\t.sz<=120))
 obtain ⟨xs,hxs⟩:=n_m ((List.range 4).map x);have hxl:xs.length=4:=by rw [<- hxs]; simp
 rw [hxs] at HIN HXL;clear hWx hbx hbw hx hxs;generalize (t.few 120 && decide (t.iffs<=4) && t.is false)=r1 at *;go_enter Tryz.func3,Tryz.ntmps3;go_wp2_with fail;clear hW;refine (kav _).mono ?_;rintro e w1 ⟨rfl,y1⟩;have X1:=Lib.hid y1;obtain ⟨b0,b1,b2,b3,b4,b5,b6,b7,b8⟩:=HBX.out _ y1;clear y1;go_wp2_with fail;clear b0 b1 b2 b3 b4 b5 b6 b7 b8;refine (HRI.out _ X1.out).mono ?_;rintro e w2 ⟨rfl,y2⟩;have X2:=Lib.hid (X1.out.trans y2);clear y2 HRI;obtain ⟨b0,b1,b2,b3,b4,b5,b6,b7,b8⟩:=HBX.out _ X2.out;cases r1
 case false =>
  clear b0 b1 b2 b3 b4 b5 b6 b7 b8;go_wp2_with fail;refine (kav _).mono ?_;rintro e w9 ⟨rfl,x9⟩;have X9:=Lib.hid (HWX.out.trans (X2.out.trans x9));clear x9;go_wp2_with fail;go_ret;exact ⟨rfl,X9.out⟩
 obtain ⟨f,hm,hsz,hi4,htz⟩:=HFO.out (by simp);have HBO:=Lib.hid (jbj t _ (HT.out.ext (HWX.out.trans X2.out)) (by omega) (kcs 20 f t hm));rw [zc0 20 f t hm] at HBO;have HM:=Lib.hid hm;clear hm HFO;go_wp2_with fail;clear b0 b1 b2 b3 b4 b5 b6 b7 b8;refine HBO.out.mono ?_;rintro e w4 ⟨s4,rfl,q4,y4⟩;obtain ⟨L4,k4,rfl⟩:=q4.slr.len;have X4:=Lib.hid (X2.out.trans y4);clear y4 q4 HBO;obtain ⟨b0,b1,b2,b3,b4,b5,b6,b7,b8⟩:=HBX.out _ X4.out
 by_cases hbd:0 < f.bound.length
 case pos =>
  have hbd':(0:Int) < (f.bound.length:Int):=by omega
  clear b0 b1 b2 b3 b4 b5 b6 b7 b8;go_wp2_with fail;refine (kav _).mono ?_;rintro e w9 ⟨rfl,x9⟩;have X9:=Lib.hid (HWX.out.trans (X4.out.trans x9));clear x9;go_wp2_with fail;go_ret;exact ⟨rfl,X9.out⟩
 have HBD:Hid (f.bound=[]):=Lib.hid (List.eq_nil_of_length_eq_zero (by omega));have hbl:f.bound.length=0:=by omega
 rw [hbl];have HOF:=Lib.hid (jcs (L:=20) (by omega) f t HM.out _ w4 (HT.out.ext (HWX.out.trans X4.out)));clear hbd hbl;go_wp2_with fail;clear b0 b1 b2 b3 b4 b5 b6 b7 b8;refine HOF.out.mono ?_;rintro e wf ⟨v3,rfl,ht3,xf⟩;have HT3:=Lib.hid ht3;obtain ⟨T3,y3,rfl⟩:=ht3.iface;have XF:=Lib.hid (X4.out.trans xf);clear ht3 xf HOF X1 X2 X4
 by_cases hok:f.nmE=0
 case neg =>
  have HE1:=Lib.hid (xcx (w0:=wf) (L:=20) (by omega) f (Ext.refl wf) HT3.out (by omega) hok (xbs (by omega) f));have HCK:Hid (∀ W',Ext wf W'->Calls Tryz.prog 10 #[.iface T3 y3] W' (qp f.nmE W')):=Lib.hid (fun W' hx=>by
   rw [ybs HBD.out]
   exact check_any (w0:=wf) (L:=20) (by omega) f hx HT3.out (by omega) (f.terms_of (qbh (by omega))))
  have hd:(f.nmE != 0)=true:=by simpa using hok
  unfold zbx at HE1;clear hok;generalize f.nmE=ne at *;go_wp2_with fail;refine HE1.out.mono ?_;rintro e w5 ⟨rfl,x5⟩;clear HE1;go_wp2_with fail;obtain ⟨V5,hV5⟩:=n_m ((w5.alloc (.cells #[.int .i64 0,.slice none 0 0,.slice none 0 0,.int .i64 0,.int .i64 0,.int .i64 0,.bool false,.slice none 0 0,.slice none 0 0,.slice none 0 0] 49)));obtain ⟨hVx,hVs,-⟩:=qb8 w5 _ _ _ _ _ _ _ _ _ _ _ V5 hV5;have X5:=Lib.hid (x5.trans hVx);clear x5 hVx hVs;rw [hV5];clear hV5;refine (HCK.out _ X5.out).mono ?_;rintro e w6 ⟨rfl,x6⟩;have X6:=Lib.hid (HWX.out.trans (XF.out.trans (X5.out.trans x6)));clear x6 HCK;go_wp2_with fail;go_ret;exact ⟨by simp,X6.out⟩
 have hc:f.chk=0:=by rw [<- ybs HBD.out]; exact hok
 obtain ⟨hst,hmz,hmb,hme,hmv,hf4⟩:=wb5 HBD.out hc (by omega) hi4;have htp:=xbo (f:=f) xs HBD.out hc;have hfl:=xb6 (kay HBD.out hc).2.1 (by omega);have HP:=qce (w0:=wf) (L:=20) (by omega) f (Ext.refl wf) HT3.out (by omega) (vac f (uan f HBD.out).1).2.2 hok;rw [hst] at HP;have HP1:Hid (Calls Tryz.prog 9 #[.iface T3 y3] wf fun e w'=>∃ u,e=.returned (.tuple #[u,.int .i64 0])/\Ext wf w'/\PxV w' (fun b=>wf.heap.size<=b) f.free.length [] f.free (yc f true f.st).1 u):=Lib.hid HP
 have HTZ:Hid (∀ (W':World) (sn sx:Value),Ext wf W'->NxV W' sn sx f.free xs->Calls Tryz.prog 13 #[.agg #[.int .i64 t.d.kind,.bool t.d.neg,.slice A0 n0 c0,.string t.d.name,.int .i64 t.d.exp,.int .i64 t.d.rel,.bool t.d.truth,.bool t.d.all,.slice A t.ks.length c],sn,sx] W' (kad (f.itv (uh f.free xs)) W')):=Lib.hid (fun W' sn sx hx hn =>
  jc1 (L:=20) (by omega) (fun z hz=>Nat.le_trans (HXL.out z hz) (by omega)) (by omega) f HBD.out hfl t _ W' HM.out (HT.out.ext (HWX.out.trans (XF.out.trans hx))) hn)
 have HHZ:Hid (∀ (W':World) (q:Nat->Prop) (v sx:Value),MxV W' q (yc f true f.st).1 v->IsV W' sx xs->Calls Tryz.prog 11 #[v,sx] W' (kad (f.itv (uh f.free xs)) W')):=Lib.hid (fun W' q v sx hv hi=>by
  have:=yc2 (L:=3) (q:=q) (by omega) (by omega) (by omega) hi (fun z hz=>Nat.le_trans (HXL.out z hz) (by omega)) ((yc f true f.st).1.sz+1) (yc f true f.st).1 v W' (by omega) hmz hme hv (Ext.refl W');unfold uao at this;rw [htp] at this
  exact this)
 clear HP hst hmz hmb hme hmv hc hok HT3 hsz hi4 htz htp hfl HT HM;generalize (yc f true f.st).1=m at *;generalize f.itv (uh f.free xs)=tv at *;generalize f.free=nms at *;clear HBD;go_wp2_with fail;refine HP1.out.mono ?_;rintro e w5 ⟨u5,rfl,x5,hp5⟩;obtain ⟨A1,c1,A2,c2,P0,l0,h0,P,l1,h1,R,l2,h2,rfl,-,hst5,hmx5⟩:=hp5;unfold pxC;rw [List.length_nil];obtain ⟨V,hV⟩:=n_m ((w5.alloc (.cells #[.int .i64 nms.length,.slice A1 0 c1,.slice A2 nms.length c2,.int .i64 m.kind,.int .i64 m.rel,.int .i64 m.p.lv,.bool m.p.neg,.slice P0 l0 h0,.slice P l1 h1,.slice R l2 h2] 49)));obtain ⟨hVx,hVs,a0,a1,a2,a3,a4,a5,a6,a7,a8,a9⟩:=qb8 w5 _ _ _ _ _ _ _ _ _ _ _ V hV;have HPX:Hid (∀ wr,Ext V wr->wr.cell? ⟨w5.heap.size,0,none⟩=some (.int .i64 nms.length)/\wr.cell? ⟨w5.heap.size,1,none⟩=some (.slice A1 0 c1)/\wr.cell? ⟨w5.heap.size,2,none⟩=some (.slice A2 nms.length c2)/\wr.cell? ⟨w5.heap.size,3,none⟩=some (.int .i64 m.kind)/\wr.cell? ⟨w5.heap.size,4,none⟩=some (.int .i64 m.rel)/\wr.cell? ⟨w5.heap.size,5,none⟩=some (.int .i64 m.p.lv)/\wr.cell? ⟨w5.heap.size,6,none⟩=some (.bool m.p.neg)/\wr.cell? ⟨w5.heap.size,7,none⟩=some (.slice P0 l0 h0)/\wr.cell? ⟨w5.heap.size,8,none⟩=some (.slice P l1 h1)/\wr.cell? ⟨w5.heap.size,9,none⟩=some (.slice R l2 h2)):=Lib.hid (by
  intro wr hxx;have k:∀ j,wr.cell? ⟨w5.heap.size,j,none⟩=V.cell? ⟨w5.heap.size,j,none⟩:=fun j=>hxx.cell (p:=⟨w5.heap.size,j,none⟩) (by show w5.heap.size < _; omega)
  exact ⟨(k 0).trans a0,(k 1).trans a1,(k 2).trans a2,(k 3).trans a3,(k 4).trans a4,(k 5).trans a5,(k 6).trans a6,(k 7).trans a7,(k 8).trans a8,(k 9).trans a9⟩)
 have XV:=Lib.hid (XF.out.trans (x5.trans hVx));have HFV:=Lib.hid (x5.trans hVx);have HST:=Lib.hid (hst5.ext hVx);have HMX:=Lib.hid (hmx5.ext hVx);have HBV:Hid (∀ W',Ext V W'->W'.cell? ⟨w.heap.size,0,none⟩=some (.int .i64 t.d.kind)/\W'.cell? ⟨w.heap.size,1,none⟩=some (.bool t.d.neg)/\W'.cell? ⟨w.heap.size,2,none⟩=some (.slice A0 n0 c0)/\W'.cell? ⟨w.heap.size,3,none⟩=some (.string t.d.name)/\W'.cell? ⟨w.heap.size,4,none⟩=some (.int .i64 t.d.exp)/\W'.cell? ⟨w.heap.size,5,none⟩=some (.int .i64 t.d.rel)/\W'.cell? ⟨w.heap.size,6,none⟩=some (.bool t.d.truth)/\W'.cell? ⟨w.heap.size,7,none⟩=some (.bool t.d.all)/\W'.cell? ⟨w.heap.size,8,none⟩=some (.slice A t.ks.length c)):=Lib.hid (fun W' hx=>HBX.out W' (XV.out.trans hx));have HXV:Hid (∀ W',Ext V W'->W'.cell? ⟨w.heap.size+1,0,none⟩=some (.int .i16 (x 0))/\W'.cell? ⟨w.heap.size+1,1,none⟩=some (.int .i16 (x 1))/\W'.cell? ⟨w.heap.size+1,2,none⟩=some (.int .i16 (x 2))/\W'.cell? ⟨w.heap.size+1,3,none⟩=some (.int .i16 (x 3))):=Lib.hid (fun W' hx=>HXA.out W' (XV.out.trans hx));clear x5 hVx hVs a0 a1 a2 a3 a4 a5 a6 a7 a8 a9 HP1 hst5 hmx5;unfold mxV at HMX;have y0:Ext V V.drew:=(Ext.refl V).drew;have Y0:=Lib.hid y0;clear y0;have hn4:(nms.length:Int)<=4:=by omega
 go_upto_region 7 with fail
 try rw [hV]
 clear hV;refine wp_region_held_drew (S:=fun W'=>Ext V W') (by kernel_rfl) Y0.out (fun hHeld=>?_);refine tk 0 ?_;refine tk 1 ?_ (hy:=Or.inl ⟨by rfl,by intro w' hSw; obtain ⟨p0,p1,p2,p3,p4,p5,p6,p7,p8,p9⟩:=HPX.out w' hSw; go_simp; (try (with_reducible rfl))⟩);refine tk 2 ?_;refine tk 3 ?_ (hy:=Or.inl ⟨by rfl,by intro w' hSw; obtain ⟨p0,p1,p2,p3,p4,p5,p6,p7,p8,p9⟩:=HPX.out w' hSw; go_simp; (try (with_reducible rfl))⟩);refine tk 4 ?_;refine tk 5 ?_;refine tk 6 ?_;refine tk 7 ?_;refine tk 8 ?_ (hy:=Or.inl ⟨by rfl,by intro w' hSw; obtain ⟨p0,p1,p2,p3,p4,p5,p6,p7,p8,p9⟩:=HPX.out w' hSw; go_simp; (try (with_reducible rfl))⟩);refine tk 9 ?_;refine tk 10 ?_;refine tk 11 ?_;refine tk 12 ?_;refine tk 13 ?_;refine tk 14 ?_ (hy:=Or.inl ⟨by rfl,by intro w' hSw; obtain ⟨p0,p1,p2,p3,p4,p5,p6,p7,p8,p9⟩:=HPX.out w' hSw; go_simp; (try (with_reducible rfl))⟩);refine tk 15 ?_ (hy:=Or.inl ⟨by rfl,by intro w' hSw; obtain ⟨r0,r1,r2,r3⟩:=HXV.out w' hSw; go_simp; (try (with_reducible rfl))⟩);refine tk 18 ?_ (hy:=Or.inl ⟨by rfl,by intro w' hSw; obtain ⟨q0,q1,q2,q3,q4,q5,q6,q7,q8⟩:=HBV.out w' hSw; go_simp; (try (with_reducible rfl))⟩);refine tk 19 ?_;refine tk 20 ?_ (hy:=Or.inl ⟨by rfl,by intro w' hSw; obtain ⟨p0,p1,p2,p3,p4,p5,p6,p7,p8,p9⟩:=HPX.out w' hSw; go_simp; (try (with_reducible rfl))⟩);refine tk 21 ?_ (hy:=Or.inl ⟨by rfl,by intro w' hSw; obtain ⟨r0,r1,r2,r3⟩:=HXV.out w' hSw; go_simp; (try (with_reducible rfl))⟩);refine r_1 16 fun K hK=>?_
 go_simp
 go_at_call 12
 refine (HIN.out _).mono ?_;rintro e w7 ⟨v7,rfl,hi7,y7⟩;have HI7:=Lib.hid hi7;have z1:=Lib.hid (Y0.out.trans y7);clear y7 hi7;refine k_t hK z1.out fun hHeld=>?_
 clear hK K;refine r_1 17 fun K hK=>?_
 go_simp
 go_at_call 11
 refine (HHZ.out _ _ _ _ (HMX.out.ext z1.out) HI7.out).mono ?_;rintro e w8 ⟨rfl,y8⟩;have z2:=Lib.hid (z1.out.trans y8);clear y8;refine k_t hK z2.out fun hHeld=>?_
 clear hK K;refine r_1 22 fun K hK=>?_
 go_simp
 go_at_call 12
 refine (HIN.out _).mono ?_;rintro e w9 ⟨v9,rfl,hi9,y9⟩;have HI9:=Lib.hid hi9;have z3:=Lib.hid (z2.out.trans y9);clear y9 hi9;refine k_t hK z3.out fun hHeld=>?_
 clear hK K;refine r_1 23 fun K hK=>?_
 go_simp
 go_at_call 13
 refine (HTZ.out _ _ _ (HFV.out.trans z3.out) ⟨HST.out.ext z3.out,HI9.out⟩).mono ?_;rintro e w10 ⟨rfl,y10⟩;have z4:=Lib.hid (z3.out.trans y10);clear y10;refine k_t hK z4.out fun hHeld=>?_
 clear hK K;refine tk 24 ?_;refine tk 25 ?_;refine tk 26 ?_;refine w_d ?_;have X9:=Lib.hid (HWX.out.trans (XV.out.trans z4.out));clear z1 z2 z3 z4 HPX HBV HXV HHZ HTZ HIN hHeld;go_wp2_with fail;go_ret;exact ⟨by simp,X9.out⟩
end Go.Proofs.YtheefiaoimbeiaaGreatDoor

/- Reference 40: Short, FewAt: points of a size that is looked at. -/
namespace Go.Proofs.YtheefiaoimbeiaaGreatDoor
open Go.RowKit
end Go.Proofs.YtheefiaoimbeiaaGreatDoor

/- Reading the arguments: a row of fractions that came in. -/
namespace Go.Proofs.YtheefiaoimbeiaaGreatDoor
open Go.ChangeShapes Go.WideShapes Go.RowKit
section
variable {H:Type} {enc:TypeId × Value->H} {w:World} {sp:Nat->Bool} {held:Bool}
end
end Go.Proofs.YtheefiaoimbeiaaGreatDoor

/- Reading the arguments: four small integers that came in. -/
set_option maxRecDepth 100000
set_option maxHeartbeats 8000000
namespace Go.Proofs.YtheefiaoimbeiaaGreatDoor
open Go.ChangeShapes Go.WideShapes Go.RowKit
theorem uc1 {α:Type} {l:List α} (h:l.length=4):∃ x y z u,l=[x,y,z,u]:=by
 match l,h with
 | [x,y,z,u],_=>exact ⟨x,y,z,u,rfl⟩
section
variable {H:Type} {enc:TypeId × Value->H} {w:World} {sp:Nat->Bool} {held:Bool}
theorem zb5 {r:Reach} {b0:Nat} {v:Value} {d:DataW H} {ps:List MemPlace} (hval:Value.okWide Tryz.prog w r b0 31 v) (h:DataW.Trod enc Tryz.prog w 0 sp held 31 v d ps):∃ x:Nat->Int,v=.agg #[.int .i16 (x 0),.int .i16 (x 1),.int .i16 (x 2),.int .i16 (x 3)]/\∀ k,k < 4->-32768<=x k/\x k<=32767:=by
 obtain ⟨fuel,h⟩:=h;simp only [Value.okWide,Tryz.underlying31] at hval;obtain ⟨cs,rfl,-⟩:=hval;simp only [Value.cells] at h;obtain ⟨xs,n,rfl,-,hl,hx,hf⟩:=DataW.trod_array Tryz.underlying31 h;have hl2:cs.toList.length=4:=hl.trans (by kernel_rfl);obtain ⟨l,hcl⟩:=n_m (cs.toList);rw [hcl] at hl2;simp only [hcl] at hf;obtain ⟨a0,a1,a2,a3,rfl⟩:=uc1 hl2;rw [show Tryz.prog.cellsOf 30=1 by kernel_rfl] at hf;have f0:=hf 0 (by omega);have f1:=hf 1 (by omega);have f2:=hf 2 (by omega);have f3:=hf 3 (by omega);rw [List.getElem?_eq_getElem (by omega)] at f0 f1 f2 f3;simp only [Nat.zero_mul,Nat.one_mul,Nat.mul_one,List.drop_zero,List.drop_succ_cons,List.take_succ_cons,List.take_zero] at f0 f1 f2 f3;obtain ⟨z0,e0,-,k0⟩:=DataW.trod_int Tryz.underlying30 f0;obtain ⟨z1,e1,-,k1⟩:=DataW.trod_int Tryz.underlying30 f1;obtain ⟨z2,e2,-,k2⟩:=DataW.trod_int Tryz.underlying30 f2;obtain ⟨z3,e3,-,k3⟩:=DataW.trod_int Tryz.underlying30 f3;simp only [Lit.wf,Bool.and_eq_true,decide_eq_true_eq] at k0 k1 k2 k3;simp only [List.cons.injEq,and_true] at e0 e1 e2 e3;subst e0 e1 e2 e3;refine ⟨fun k=>match k with | 0=>z0 | 1=>z1 | 2=>z2 | _=>z3,congrArg Value.agg (Array.toList_inj.1 hcl),?_⟩;intro k hk;rcases (by omega:k=0\/k=1\/k=2\/k=3) with rfl | rfl | rfl | rfl
 · exact k0
 · exact k1
 · exact k2
 · exact k3
end
end Go.Proofs.YtheefiaoimbeiaaGreatDoor

/- PrenexTruth: for every tree and every four small integers the law answers true, and it reads as before. No condition but the listed tables, which this road never looks into. The row and the tied card. -/
set_option maxRecDepth 100000
set_option maxHeartbeats 8000000
namespace Go.Proofs.YtheefiaoimbeiaaGreatDoor
open Go.ChangeShapes Go.WideShapes Go.ChangeAt Go.RowKit
theorem qca:Tryz.prog.readableRec 29=true:=by kernel_rfl
theorem xca:29 < Tryz.prog.types.size:=of_decide_eq_true (by kernel_rfl)
theorem ucz:Tryz.prog.readableRec 31=true:=by kernel_rfl
theorem vcz:31 < Tryz.prog.types.size:=of_decide_eq_true (by kernel_rfl)
theorem zbg (os:Os) (started:os.Started) (H:Type) (enc:TypeId × Value->H) :
 ReturnsInHanded {} Tryz.checked os 3 .any (fun w args => (Rows.prenexTruthSpec.pre enc Tryz.prog Tryz.f3 [] false w args /\ laidMetH Tryz.prog kbg w) /\ sizedMet enc Tryz.prog Tryz.f3 (OpenSpec.ofChange Rows.prenexTruthSpec) false w args)
  (Rows.prenexTruthSpec.post enc Tryz.prog Tryz.f3 false true false false):=by
 refine returnsInHanded_of_change_and (C := Tryz.checked) (X := fun w _ => laidMetH Tryz.prog kbg w) (fun _ _ _ hh h => h.of_heap hh) ycf started (by kernel_rfl) Tryz.func3
  (ChangeSpec.witness_shaped (enc:=enc) (C:=Tryz.checked) (os:=os) (X:=fun w _=>laidMetH Tryz.prog kbg w) false (World.doorLaid Tryz.prog 2000 os) #[.agg #[.int .i64 0,.bool false,.slice none 0 0,.string ByteArray.empty,.int .i64 0,.int .i64 0,.bool false,.bool false,.slice none 0 0],.agg #[.int .i16 0,.int .i16 0,.int .i16 0,.int .i16 0]] 8 rfl (World.shaped_of_RefB (by kernel_rfl) (by kernel_rfl)) (by kernel_rfl) (by kernel_rfl) (by kernel_rfl) (door_met os _)) ?_
 intro W base args ds gs before hval0 hW _ _ _ _;have hval:∀ (j:Nat) t v,Tryz.f3.params[j]?=some t->args[j]?=some v->Value.okWide Tryz.prog W .any base t v:=hval0;have hW':=hW;have low:∀ p ∈ before,p.block < W.heap.size:=fun p hp=>hW.lt p hp
 obtain ⟨p,q,hA0,hV,rfl,-,-⟩:=hW;have hA:DataW.TrodAll enc Tryz.prog W 0 (fun _=>true) true Tryz.f3.params.toList args.toList ds p:=hA0;rw [Tryz.params3] at hA hval;obtain ⟨v0,vs0,d0,ds0,p0,q0,hargs,rfl,rfl,h0,r0⟩:=trodAll_cons hA;obtain ⟨v1,vs1,d1,ds1,p1,q1,rfl,rfl,rfl,h1,r1⟩:=trodAll_cons r0;obtain ⟨rfl,rfl,rfl⟩:=trodAll_nil r1;obtain rfl:args=#[v0,v1]:=by cases args; simp_all
 obtain ⟨rfl,rfl⟩:=trodVars_none hV;obtain ⟨t,ht⟩:=open_tree (hval 0 29 v0 rfl rfl) h0;obtain ⟨x,rfl,hxx⟩:=zb5 (hval 1 31 v1 rfl rfl) h1;clear hA0 hval0;simp only [List.append_nil] at hW' low;refine (ybl t v0 ht x hxx).mono fun e W' ⟨he,hx⟩=>?_
 subst he
 exact ⟨_, rfl, qcd (pa := p0 ++ p1) (pv := []) hW' hx (fun _ _ _ => (trodAll_cons_mk (shut_bool Tryz.underlying4 _) trodAll_mk0))
  (fun sp hs=>by
    have:=trodAll_cons_mk (kbf qca xca h0 hx (fun x hx'=>low x (List.mem_append_left _ hx')) (fun x hx'=>hs x (List.mem_append_left _ hx'))) (trodAll_cons_mk (kbf ucz vcz h1 hx (fun x hx'=>low x (List.mem_append_right _ hx')) (fun x hx'=>hs x (List.mem_append_right _ hx'))) trodAll_mk0);simp only [List.append_nil] at this
    exact this) (fun _ _=>rfl) (by simp)
  (ok_one (by kernel_rfl) rfl (okWide_bool_mk Tryz.underlying4 _))⟩
theorem ybg:joinedFacts Tryz.pinned.checked.prog 3 Tryz.f3 Rows.prenexTruthSpec Rows.prenexTruthRow=true:=by kernel_rfl
theorem ybw (os:Os) (started:os.Started) (H:Type) (enc:TypeId × Value->H) :
 ReturnsInHanded Rows.prenexTruthRow.assume Tryz.pinned.checked os 3 .any (Rows.prenexTruthRow.pre enc Tryz.pinned.checked.prog Tryz.f3 (OpenSpec.ofChange Rows.prenexTruthSpec)) (Rows.prenexTruthSpec.post enc Tryz.pinned.checked.prog Tryz.f3 Rows.prenexTruthRow.apart Rows.prenexTruthRow.fresh Rows.prenexTruthRow.handsOn Rows.prenexTruthRow.again):=
 zbg os started H enc
theorem ybp:Rows.prenexTruthRow.holds Tryz.pinned (OpenSpec.ofChange Rows.prenexTruthSpec):=
 OpenClaim.holds_of_wide 3 Tryz.f3 rfl rfl rfl rfl rfl rfl rfl ⟨rfl, rfl, rfl, rfl, rfl⟩ rfl rfl rfl rfl rfl (by kernel_rfl) Tryz.func3 ybg
  (of_decide_eq_true (by kernel_rfl)) (by unfold Func.isWrapper; first | (rw [if_pos (by decide +kernel)]; kernel_rfl) | (rw [if_neg (by decide +kernel)]; exact ⟨rfl,rfl⟩))
  (fun os started H enc _=>ybw os started H enc)
theorem ptruth_proved:Rows.PrenexTruthCardSaid:=
 Claim7.holds_tied_plain_at .later [] [.data, .data, .data] true (true, "b97ba35d8407b8181d843439f516b5bc0ff7270cf4b44ea1d3d2536ac07d7ba0") true
  ybp (fun _ h=>by cases h) (by kernel_rfl) (fun _ h=>by cases h) prenexTruth_row_tie rfl ⟨rfl,rfl⟩ (by kernel_rfl) rfl
  (fun f fn hf hfn=>by
    obtain rfl : f = 3 := Option.some.inj ((show Tryz.prog.funcNamed "cylinder/cylinderlaw38.PrenexTruth" = some 3 by kernel_rfl).symm.trans hf) |>.symm;obtain rfl : fn = Tryz.f3 := (Option.some.inj (Tryz.func3.symm.trans hfn)).symm;exact ⟨by kernel_rfl, fun j t ht => by
     rw [Tryz.params3] at ht;have h3:t=29\/t=31:=by
      rcases j with _ | _ | j
      · exact .inl (by simpa using ht.symm)
      · exact .inr (by simpa using ht.symm)
      · simp at ht
     rcases h3 with rfl | rfl
     · exact (show Tryz.prog.wantsStandIn 29=false by kernel_rfl)
     · exact (show Tryz.prog.wantsStandIn 31=false by kernel_rfl)⟩)
  (by kernel_rfl)
#print axioms ptruth_proved
end Go.Proofs.YtheefiaoimbeiaaGreatDoor
