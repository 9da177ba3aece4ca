/- Law 40: EvaluateForms answers true. -/
import Derived.Test.YtheefiaoimbeiaaGreatDoorMp50
import Derived.Deep.Slices
import Derived.OpenShut
import Derived.ProofKit
set_option linter.unusedSimpArgs false
set_option linter.unusedVariables false

set_option maxRecDepth 100000
set_option maxHeartbeats 8000000
namespace Go.Proofs.YtheefiaoimbeiaaGreatDoor
open Lib (hid)
open Go.RowKit
theorem Fm.zw (f:Fm):f.qe (fun _=>True):=by
 induction f <;> simp_all [Fm.qe]
theorem kfz {w0 w:World} {L:Nat} (hs:L<=1000000000000) (f:Fm) {v:Value} (hx0:Ext w0 w) (h:FmV w0 L f v) (hl:f.sz<=400) (hpl:f.okB false=true) (hok:f.xZ=0) :
 Calls Tryz.prog 9 #[v] w fun e w'=>∃ u,e=.returned (.tuple #[u,.int .i64 0])/\Ext w w'/\PxV w' (fun b=>w.heap.size<=b) f.free.length (zc2 f true f.st).2.all (zc2 f true f.st).2.names (zc2 f true f.st).1 u:=
 vgc hs f hx0 h (by omega) hpl hok (f.yi hok) (by
  have h1:=f.qY;have h2:=f.xp (fun _=>0) [];have h3:f.free.length=(f.fold vdl (fun _=>0) []).length:=rfl;simp only [pQ] at h2
  omega) (jfd hs f) (vf2 (P:=fun _=>True) f (fun w gb bl t _ g=>kft hs t) f.zw)
theorem zfr {f:Fm} (hb:f.bound=[]) (hc:f.zd=0) (hsz:f.sz<=100) (hi:f.qv<=4) :
 (zc2 f true f.st).2=f.st/\(zc2 f true f.st).1.sz<=1000000/\(zc2 f true f.st).1.each weq/\(zc2 f true f.st).1.each (fun p=>p.eb 3<=1099511627776)/\(zc2 f true f.st).1.za<=4/\f.free.length<=4:=by
 obtain ⟨h4,avv,-⟩:=kei hb hc;have ho:=(xd7 f hb).1;have hf:=kf2 f true f.st avv;have hz:∀ p:Pl,Fit p 8 323->p.sz<=10000:=fun p hp=>hp.sz
 refine ⟨(xdv f ho).2.1 true f.st,?_,Mx.xN (fun p hp=>kf6 hp.can (by have:=hz p hp; omega) (by have:=hp.dm; omega)) _ hf,Mx.xN (fun p hp=>qgr hp.dm (by have:=hz p hp; omega)) _ hf,Mx.jq _ _ (pO _),h4⟩;have h1:=qf2 f true f.st ho;have h2:3 ^ f.qv<=3 ^ 4:=pK (by decide) hi;have h3:=tN hsz h2;have h5:100 * 3 ^ 4=8100:=rfl;omega
theorem jf9 {w:World} {A:Option Addr} {n c:Nat} {l:List ByteArray} (h:Strs w (.slice A n c) l) (k:Nat) (hk:k < l.length):∃ ad,A=some ad/\ad.block < w.heap.size/\w.cell? (ad.add k)=some (.string l[k]):=by
 obtain ⟨A',c',e,-,-,h3⟩:=h;injection e with e1 e2 e3
 subst e1 e3;obtain ⟨ad,x,e,hb,hc,rfl⟩:=h3 k hk;exact ⟨ad,e,hb,hc⟩
theorem vga {w:World} {L g n c:Nat} {l:List Rat} (h:RsV w L (.slice (some ⟨g,0,none⟩) n c) l) (k:Nat) (hk:k < l.length):∃ bb A1 n1 c1 A2 n2 c2,g < w.heap.size/\(w.cell? ⟨g,k * 3,none⟩=some (.bool bb)/\w.cell? ⟨g,k * 3+1,none⟩=some (.slice A1 n1 c1)/\w.cell? ⟨g,k * 3+2,none⟩=some (.slice A2 n2 c2))/\kdp w (.agg #[.bool bb,.slice A1 n1 c1,.slice A2 n2 c2]) l[k] L:=by
 obtain ⟨A',c',e,-,-,h3⟩:=h;injection e with e1 e2 e3
 subst e1 e3;obtain ⟨ad,bb,A1,n1,c1,A2,n2,c2,e,hb,hc,hr⟩:=h3 k hk;obtain rfl:(⟨g,0,none⟩:Addr)=ad:=by injection e
 rw [kdo,pH] at hc;exact ⟨bb,A1,n1,c1,A2,n2,c2,hb,hc,hr⟩
theorem vft (w:World) (T:TypeId) (v0 v1 v2 v3 v4 v5 v6 v7 v8 v9:Value):∀ W,w.alloc (.cells #[v0,v1,v2,v3,v4,v5,v6,v7,v8,v9] T)=W->Ext w W/\W.heap.size=w.heap.size+1/\(W.cell? ⟨w.heap.size,0,none⟩=some v0/\W.cell? ⟨w.heap.size,1,none⟩=some v1/\W.cell? ⟨w.heap.size,2,none⟩=some v2/\W.cell? ⟨w.heap.size,3,none⟩=some v3/\W.cell? ⟨w.heap.size,4,none⟩=some v4/\W.cell? ⟨w.heap.size,5,none⟩=some v5/\W.cell? ⟨w.heap.size,6,none⟩=some v6/\W.cell? ⟨w.heap.size,7,none⟩=some v7/\W.cell? ⟨w.heap.size,8,none⟩=some v8/\W.cell? ⟨w.heap.size,9,none⟩=some v9):=by
 rintro W rfl;refine ⟨(Ext.refl w).alloc _,by simp,?_,?_,?_,?_,?_,?_,?_,?_,?_,?_⟩ <;> simp [go_sem]
theorem we5 {w:World} {p:Nat->Prop} {cs:Array Value} {x0 x1 x2 x3:Fr} (t:Tr) (v:Value) (h:TrV w p t v) (hr:vfl w cs.toList x0 x1 x2 x3):Calls Tryz.prog 4 #[v,.agg cs] w (wdr true w):=by
 have HT:=hid h;obtain ⟨A0,n0,c0,A,c,rfl,-,hl1,hl2,h4⟩:=h.open_;have HR4:=hid hr;obtain ⟨XA0,xc0,XB0,xd0,XA1,xc1,XB1,xd1,XA2,xc2,XB2,xd2,XA3,xc3,XB3,xd3,e,-⟩:=hr;obtain rfl:cs=#[.bool x0.neg,.slice XA0 x0.ds.length xc0,.slice XB0 x0.es.length xd0,.bool x1.neg,.slice XA1 x1.ds.length xc1,.slice XB1 x1.es.length xd1,.bool x2.neg,.slice XA2 x2.ds.length xc2,.slice XB2 x2.es.length xd2,.bool x3.neg,.slice XA3 x3.ds.length xc3,.slice XB3 x3.es.length xd3]:=Array.toList_inj.1 e;clear h h4 e;unfold ndV;unfold ndV at HT;obtain ⟨W,hW⟩:=n_m ((w.alloc (.cells #[.int .i64 t.d.kind,.bool t.d.neg,.slice A0 n0 c0,.string t.d.name,.int .i64 t.d.exp,.int .i64 t.d.rel,.bool t.d.truth,.bool t.d.all,.slice A t.ks.length c] 29)).alloc (.cells #[.bool x0.neg,.slice XA0 x0.ds.length xc0,.slice XB0 x0.es.length xd0,.bool x1.neg,.slice XA1 x1.ds.length xc1,.slice XB1 x1.es.length xd1,.bool x2.neg,.slice XA2 x2.ds.length xc2,.slice XB2 x2.es.length xd2,.bool x3.neg,.slice XA3 x3.ds.length xc3,.slice XB3 x3.es.length xd3] 60));have hWx:Ext w W:=by rw [<- hW]; exact ((Ext.refl w).alloc _).alloc _
 have hWs:W.heap.size=w.heap.size+1+1:=by rw [<- hW]; simp
 have hbx:jd1 W w.heap.size t.d (.slice A0 n0 c0) (.slice A t.ks.length c):=by rw [<- hW]; exact (jd1.new w t.d _ _ _).ext ((Ext.refl _).alloc _) (by simp)
 have hbw:W.heap[w.heap.size+1]?=some (.cells #[.bool x0.neg,.slice XA0 x0.ds.length xc0,.slice XB0 x0.es.length xd0,.bool x1.neg,.slice XA1 x1.ds.length xc1,.slice XB1 x1.es.length xd1,.bool x2.neg,.slice XA2 x2.ds.length xc2,.slice XB2 x2.es.length xd2,.bool x3.neg,.slice XA3 x3.ds.length xc3,.slice XB3 x3.es.length xd3] 60 (0,0)):=by
  rw [<- hW];have:=heap_alloc_new (w.alloc (.cells #[.int .i64 t.d.kind,.bool t.d.neg,.slice A0 n0 c0,.string t.d.name,.int .i64 t.d.exp,.int .i64 t.d.rel,.bool t.d.truth,.bool t.d.all,.slice A t.ks.length c] 29)) (.cells #[.bool x0.neg,.slice XA0 x0.ds.length xc0,.slice XB0 x0.es.length xd0,.bool x1.neg,.slice XA1 x1.ds.length xc1,.slice XB1 x1.es.length xd1,.bool x2.neg,.slice XA2 x2.ds.length xc2,.slice XB2 x2.es.length xd2,.bool x3.neg,.slice XA3 x3.ds.length xc3,.slice XB3 x3.es.length xd3] 60)
  rwa [pU] at this
 have HXS:=hid (kgr HR4.out hbw hWx);have HWX:=hid hWx;have HBX:Hid (∀ W',Ext W W'->W'.cell? ⟨w.heap.size,0,none⟩=some (.int .i64 t.d.kind)/\W'.cell? ⟨w.heap.size,1,none⟩=some (.bool t.d.neg)/\W'.cell? ⟨w.heap.size,2,none⟩=some (.slice A0 n0 c0)/\W'.cell? ⟨w.heap.size,3,none⟩=some (.string t.d.name)/\W'.cell? ⟨w.heap.size,4,none⟩=some (.int .i64 t.d.exp)/\W'.cell? ⟨w.heap.size,5,none⟩=some (.int .i64 t.d.rel)/\W'.cell? ⟨w.heap.size,6,none⟩=some (.bool t.d.truth)/\W'.cell? ⟨w.heap.size,7,none⟩=some (.bool t.d.all)/\W'.cell? ⟨w.heap.size,8,none⟩=some (.slice A t.ks.length c)):=hid (fun W' hx=>hbx.ext hx (by omega));have apM:Hid (∀ W',Ext W W'->W'.heap[w.heap.size+1]?=some (.cells #[.bool x0.neg,.slice XA0 x0.ds.length xc0,.slice XB0 x0.es.length xd0,.bool x1.neg,.slice XA1 x1.ds.length xc1,.slice XB1 x1.es.length xd1,.bool x2.neg,.slice XA2 x2.ds.length xc2,.slice XB2 x2.es.length xd2,.bool x3.neg,.slice XA3 x3.ds.length xc3,.slice XB3 x3.es.length xd3] 60 (0,0))):=hid (fun W' hx=>(hx.below.block _ (by omega)).trans hbw);have HRI:=hid (fun W' (hx:Ext W W')=>ufo t _ false (HT.out.ext (HWX.out.trans hx)) (show VsW W' (.slice none 0 0) [] from ⟨none,0,rfl,pf _,by omega,fun j hj=>absurd hj (by simp)⟩));have HSM:=hid (fun W' (hx:Ext W W')=>vfg t _ (HT.out.ext (HWX.out.trans hx)) 100 4 (by omega));have HFO:=hid (fun (h1:(t.zb 100 && t.is false && jdy [])=true) (h2:(t.zb 100 && decide (t.xG<=4))=true)=>by
  simp only [pj,decide_eq_true_eq] at h1 h2;obtain ⟨f,hm,hz⟩:=zgr t h1.1.2 (xei h1.1.1).2
  exact (⟨f,hm,by have:=(xei h1.1.1).1; omega,po (ggf 20 f t hm) h2.2,(xei h1.1.1).1⟩:∃ f,vdq 20 f t/\f.sz<=100/\f.qv<=4/\t.sz<=100))
 clear hWx hbx hbw HR4;generalize (t.zb 100 && t.is false && jdy [])=r1 at *;generalize (t.zb 100 && decide (t.xG<=4))=r2 at *;go_enter Tryz.func4,Tryz.ntmps4;go_wp2_with fail;clear hW;refine (xea _).mono ?_;rintro e w1 ⟨rfl,y1⟩;have X1:=hid y1;obtain ⟨b0,b1,b2,b3,b4,b5,b6,b7,b8⟩:=HBX.out _ y1;clear y1;go_wp2_with fail;clear b0 b1 b2 b3 b4 b5 b6 b7 b8;refine (HRI.out _ X1.out).mono ?_;rintro e w2 ⟨rfl,y2⟩;have X2:=hid (X1.out.trans y2);clear y2 HRI;obtain ⟨b0,b1,b2,b3,b4,b5,b6,b7,b8⟩:=HBX.out _ X2.out;cases r1
 case false =>
  clear b0 b1 b2 b3 b4 b5 b6 b7 b8;go_wp2_with fail;refine (xea _).mono ?_;rintro e w9 ⟨rfl,x9⟩;have X9:=hid (HWX.out.trans (X2.out.trans x9));clear x9;go_wp2_with fail;go_ret;exact ⟨rfl,X9.out⟩
 go_wp2_with fail;clear b0 b1 b2 b3 b4 b5 b6 b7 b8;refine (HSM.out _ X2.out).mono ?_;rintro e w3 ⟨rfl,y3⟩;have X3:=hid (X2.out.trans y3);clear y3 HSM;obtain ⟨b0,b1,b2,b3,b4,b5,b6,b7,b8⟩:=HBX.out _ X3.out;cases r2
 case false =>
  clear b0 b1 b2 b3 b4 b5 b6 b7 b8;go_wp2_with fail;refine (xea _).mono ?_;rintro e w9 ⟨rfl,x9⟩;have X9:=hid (HWX.out.trans (X3.out.trans x9));clear x9;go_wp2_with fail;go_ret;exact ⟨rfl,X9.out⟩
 obtain ⟨f,hm,hsz,hi4,htz⟩:=HFO.out (by simp) (by simp);have HBO:=hid (ke4 t _ (HT.out.ext (HWX.out.trans X3.out)) (by omega) (jgg 20 f t hm));rw [ygp 20 f t hm] at HBO;have HM:=hid hm;clear hm HFO;go_wp2_with fail;clear b0 b1 b2 b3 b4 b5 b6 b7 b8;refine HBO.out.mono ?_;rintro e w4 ⟨s4,rfl,q4,y4⟩;obtain ⟨L4,k4,rfl⟩:=q4.yC.len;have X4:=hid (X3.out.trans y4);clear y4 q4 HBO;obtain ⟨b0,b1,b2,b3,b4,b5,b6,b7,b8⟩:=HBX.out _ X4.out
 by_cases hbd:0 < f.bound.length
 case pos =>
  have aBw:(0:Int) < (f.bound.length:Int):=by omega
  clear b0 b1 b2 b3 b4 b5 b6 b7 b8;go_wp2_with fail;refine (xea _).mono ?_;rintro e w9 ⟨rfl,x9⟩;have X9:=hid (HWX.out.trans (X4.out.trans x9));clear x9;go_wp2_with fail;go_ret;exact ⟨rfl,X9.out⟩
 have HBD:Hid (f.bound=[]):=hid (pV (by omega));have hbl:f.bound.length=0:=by omega
 rw [hbl];have hbw:=apM.out _ X4.out;have HFA:=hid (fun (W':World) (hx:Ext W W')=>zft (HXS.out.ext hx));clear hbd hbl;go_wp2_with fail;clear b0 b1 b2 b3 b4 b5 b6 b7 b8 hbw;refine (HFA.out _ X4.out).mono ?_;rintro e wq ⟨rfl,yq⟩;have XQ:=hid (X4.out.trans yq);clear yq HFA;obtain ⟨b0,b1,b2,b3,b4,b5,b6,b7,b8⟩:=HBX.out _ XQ.out
 by_cases hg:wdy [x0,x1,x2,x3]=true
 case neg =>
  rw [show wdy [x0,x1,x2,x3]=false by simpa using hg];clear hg;clear b0 b1 b2 b3 b4 b5 b6 b7 b8;go_wp2_with fail;refine (xea _).mono ?_;rintro e w9 ⟨rfl,x9⟩;have X9:=hid (HWX.out.trans (XQ.out.trans x9));clear x9;go_wp2_with fail;go_ret;exact ⟨rfl,X9.out⟩
 rw [hg];obtain ⟨xs,hxs⟩:=n_m ([x0,x1,x2,x3].map Fr.q);have hlen:xs.length=4:=by rw [<- hxs]; rfl
 have HRS:Hid (RsV W 3 (.slice (some ⟨w.heap.size+1,0,none⟩) 4 4) xs):=hid (by rw [<- hxs]; exact HXS.out.zb hg);have HOF:=hid (zfe (L:=20) (by omega) f t HM.out _ wq (HT.out.ext (HWX.out.trans XQ.out)));have HNO:=hid (qgg 20 f t HM.out);clear hg hxs HXS;go_wp2_with fail;clear b0 b1 b2 b3 b4 b5 b6 b7 b8;refine HOF.out.mono ?_;rintro e wf ⟨v3,rfl,ht3,xf⟩;have HT3:=hid ht3;obtain ⟨T3,y3,rfl⟩:=ht3.iface;have XF:=hid (XQ.out.trans xf);clear ht3 xf HOF X1 X2 X3 X4 XQ HT HM
 by_cases hok:f.xZ=0
 case neg =>
  have HE1:=hid (kgm (w0:=wf) (L:=20) (by omega) f (Ext.refl wf) HT3.out (by omega) hok (jfd (by omega) f));have HCK:Hid (∀ W',Ext wf W'->Calls Tryz.prog 10 #[.iface T3 y3] W' (zdn f.xZ W')):=hid (fun W' hx=>by
   rw [qfd HBD.out]
   exact check_any (w0:=wf) (L:=20) (by omega) f hx HT3.out (by omega) (f.zq (ue1 (by omega))))
  have hd:(f.xZ != 0)=true:=by simpa using hok
  unfold qfi at HE1;clear hok;generalize f.xZ=ne at *;go_wp2_with fail;refine HE1.out.mono ?_;rintro e w5 ⟨rfl,x5⟩;clear HE1;go_wp2_with fail;obtain ⟨V5,hV5⟩:=n_m ((w5.alloc (.cells #[.int .i64 0,.slice none 0 0,.slice none 0 0,.int .i64 0,.int .i64 0,.int .i64 0,.bool false,.slice none 0 0,.slice none 0 0,.slice none 0 0] 49)));obtain ⟨hVx,hVs,-⟩:=vft w5 _ _ _ _ _ _ _ _ _ _ _ V5 hV5;have X5:=hid (x5.trans hVx);clear x5 hVx hVs;rw [hV5];clear hV5;refine (HCK.out _ X5.out).mono ?_;rintro e w6 ⟨rfl,x6⟩;have X6:=hid (HWX.out.trans (XF.out.trans (X5.out.trans x6)));clear x6 HCK;go_wp2_with fail;go_ret;exact ⟨by simp,X6.out⟩
 have hc:f.zd=0:=by rw [<- qfd HBD.out]; exact hok
 obtain ⟨hst,hmz,hmb,hme,hmv,hf4⟩:=zfr HBD.out hc hsz hi4;obtain ⟨hev,htv⟩:=kfb xs HBD.out hc;have HP:=kfz (w0:=wf) (L:=20) (by omega) f (Ext.refl wf) HT3.out (by omega) (xdv f (xd7 f HBD.out).1).2.2 hok;rw [hst] at HP;have HEV:=hid (fun (W':World) (s:Value) (hx:Ext wf W') (hv:VsV W' 20 s (gdv f.free xs f.free.length))=>qee (L:=20) (by omega) (by omega) f (HT3.out.ext hx) hv HNO.out (by omega) (fun h0 h1 h2=>kgg _ f (by omega) (by rw [<- Fm.xX _ _ HBD.out]; exact h1) h2));rw [hev] at HEV;have HAT:Hid (∀ (W':World) (q:Nat->Prop) (v:Value),Ext W W'->MxV W' q (zc2 f true f.st).1 v->Calls Tryz.prog 19 #[v,.slice (some ⟨w.heap.size+1,0,none⟩) 4 4] W' (ue0 (f.tv (gdm (gdv f.free xs f.free.length)),0) W')):=hid (fun W' q v hx hv=>by
  have:=wgd (L:=3) (by omega) (by omega) (HRS.out.ext hx) _ v hmz hmb hme hv;rw [htv,hlen,if_pos (show (zc2 f true f.st).1.za<=((4:Nat):Int) by omega)] at this
  exact this)
 have HP1:Hid (Calls Tryz.prog 9 #[.iface T3 y3] wf fun e w'=>∃ u,e=.returned (.tuple #[u,.int .i64 0])/\Ext wf w'/\PxV w' (fun b=>wf.heap.size<=b) f.free.length [] f.free (zc2 f true f.st).1 u):=hid HP;clear HP hst hmz hmb hme hmv hev htv hc hok HT3 HNO hsz hi4 htz;generalize (zc2 f true f.st).1=m at *;generalize f.tv (gdm (gdv f.free xs f.free.length))=tv at *;generalize f.free=nms at *;obtain ⟨fr,hfr⟩:∃ fr:Int,(nms.length:Int)=fr:=⟨_,rfl⟩;rw [hfr] at HP1;clear hfr HBD;go_wp2_with fail;refine HP1.out.mono ?_;rintro e w5 ⟨u5,rfl,x5,hp5⟩;obtain ⟨A1,c1,A2,c2,P0,l0,h0,P,l1,h1,R,l2,h2,rfl,-,akD,arl⟩:=hp5;unfold pxC;rw [pQ];obtain ⟨V,hV⟩:=n_m ((w5.alloc (.cells #[.int .i64 fr,.slice A1 0 c1,.slice A2 nms.length c2,.int .i64 m.kind,.int .i64 m.rel,.int .i64 m.p.lv,.bool m.p.neg,.slice P0 l0 h0,.slice P l1 h1,.slice R l2 h2] 49)));obtain ⟨hVx,hVs,a0,a1,a2,a3,a4,a5,a6,a7,a8,a9⟩:=vft w5 _ _ _ _ _ _ _ _ _ _ _ V hV;have HPX:Hid (∀ wr,Ext V wr->wr.cell? ⟨w5.heap.size,0,none⟩=some (.int .i64 fr)/\wr.cell? ⟨w5.heap.size,1,none⟩=some (.slice A1 0 c1)/\wr.cell? ⟨w5.heap.size,2,none⟩=some (.slice A2 nms.length c2)/\wr.cell? ⟨w5.heap.size,3,none⟩=some (.int .i64 m.kind)/\wr.cell? ⟨w5.heap.size,4,none⟩=some (.int .i64 m.rel)/\wr.cell? ⟨w5.heap.size,5,none⟩=some (.int .i64 m.p.lv)/\wr.cell? ⟨w5.heap.size,6,none⟩=some (.bool m.p.neg)/\wr.cell? ⟨w5.heap.size,7,none⟩=some (.slice P0 l0 h0)/\wr.cell? ⟨w5.heap.size,8,none⟩=some (.slice P l1 h1)/\wr.cell? ⟨w5.heap.size,9,none⟩=some (.slice R l2 h2)):=hid (by
  intro wr hxx;have k:∀ j,wr.cell? ⟨w5.heap.size,j,none⟩=V.cell? ⟨w5.heap.size,j,none⟩:=fun j=>hxx.cell (p:=⟨w5.heap.size,j,none⟩) (by show w5.heap.size < _; omega)
  exact ⟨(k 0).trans a0,(k 1).trans a1,(k 2).trans a2,(k 3).trans a3,(k 4).trans a4,(k 5).trans a5,(k 6).trans a6,(k 7).trans a7,(k 8).trans a8,(k 9).trans a9⟩)
 have XV:=hid (XF.out.trans (x5.trans hVx));have HFV:=hid (x5.trans hVx);have HST:=hid (akD.ext hVx);have HMX:=hid (arl.ext hVx);obtain ⟨k0,k1,k2,k3,k4',k5,k6,k7,k8,k9⟩:=HPX.out _ (Ext.refl V);clear x5 hVx hVs a0 a1 a2 a3 a4 a5 a6 a7 a8 a9 HP1 akD arl;unfold mxV at HMX;go_wp2_with fail
 try rw [hV]
 clear hV k0 k1 k2 k3 k4' k5 k6 k7 k8 k9
 go_loopw [9,58] (fun rv iv wr=>∃ (k:Nat),k<=nms.length/\iv=.int .i64 k/\Hid (gd4 V.heap.size 20 wr rv (gdv nms xs k)/\Ext V wr)) (fun _ iv _=>nms.length - (intOf iv).toNat)
 case atStart=>exact ⟨0,pM _,rfl,hid ⟨gd4.nil _ _ _,Ext.refl _⟩⟩
 case round =>
  obtain ⟨k,hk,rfl,HI⟩:=hrel;obtain ⟨RA,rc,rfl,hr1,hr2⟩:=HI.out.1.len;rw [ge0] at hr1 HI ⊢;have HQ:=hid HI.out.1;have HX:=hid HI.out.2;clear HI
  by_cases hlt:k < nms.length
  · obtain ⟨ad,rfl,abW,aqR⟩:=jf9 HST.out k hlt;obtain ⟨bb,D1,r1,e1,D2,r2,e2,hgb,hrc,aqY⟩:=vga HRS.out k (by omega);have HAD:Hid (∀ W',Ext V W'->W'.cell? (ad.add k)=some (.string nms[k])):=hid (fun W' hx=>(hx.cell (p:=ad.add k) (by rw [zc1]; exact abW)).trans aqR);have HRC:Hid (∀ W',Ext V W'->(W'.cell? ⟨w.heap.size+1,k * 3,none⟩=some (.bool bb)/\W'.cell? ⟨w.heap.size+1,k * 3+1,none⟩=some (.slice D1 r1 e1)/\W'.cell? ⟨w.heap.size+1,k * 3+2,none⟩=some (.slice D2 r2 e2))):=hid (fun W' hx=>by
     have kk:∀ j,W'.cell? ⟨w.heap.size+1,j,none⟩=W.cell? ⟨w.heap.size+1,j,none⟩:=fun j=>(XV.out.trans hx).cell (p:=⟨w.heap.size+1,j,none⟩) hgb
     exact ⟨(kk _).trans hrc.1,(kk _).trans hrc.2.1,(kk _).trans hrc.2.2⟩)
    have HRA:=hid (aqY.mono (L':=20) (by omega));have HZS:Hid (gdv nms xs (k+1)=gdv nms xs k ++ [(nms[k],xs[k])]):=hid (by
     rw [jej,pB,pB,pq hlt,pq (show k < xs.length by omega)]
     rfl)
    obtain ⟨qk,hqk⟩:=n_m (xs[k]);rw [hqk] at HRA HZS;obtain ⟨sk,hsk⟩:=n_m (nms[k]);rw [hsk] at HAD HZS;have hki:(k:Int) < (nms.length:Int):=by omega
    have hk4:(k:Int) < 4:=by omega
    have aA8:k < 4:=by omega
    have hk0:(0:Int)<=(k:Int):=by omega
    have y0:Ext wr wr.drew:=(Ext.refl wr).drew;have hx0:=HX.out.trans y0;obtain ⟨v6,w6,ab3,aln,hg6⟩:=(HQ.out.ext y0).push (s:=sk) hx0.size (HRA.out.ext (XV.out.trans hx0)) (by rw [ge0]; omega) 65;rw [<- HZS.out] at aln;have hx6:Ext V w6:=Below.grown hx0.below hg6 hx0.size (fun j e=>((HQ.out.ext y0).own e).1);have HN:=hid (And.intro aln hx6);have HA:=hid (hx0.alloc (.cells #[.string sk,.bool bb,.slice D1 r1 e1,.slice D2 r2 e2] 67));clear abW aqR hgb hrc aqY hqk hsk hg6 aln hx6;go_upto_region 11 with fail;refine wp_region_held_drew (S:=fun W'=>Ext V W') (by kernel_rfl) hx0 (fun hHeld=>?_);refine tk 0 ?_;refine tk 1 ?_;refine tk 2 ?_ (hy:=Or.inl ⟨by rfl,by intro w' hSw; obtain ⟨k0,k1,k2,k3,k4,k5,k6,k7,k8,k9⟩:=HPX.out w' hSw; go_simp; (try (with_reducible rfl))⟩);refine tk 3 ?_;refine tk 4 ?_;refine tk 5 ?_ (hy:=Or.inl ⟨by rfl,by intro w' hSw; have k0:=HAD.out w' hSw; go_simp; (try (with_reducible rfl))⟩);refine tk 6 ?_;refine tk 7 ?_;refine tk 8 ?_ (hy:=Or.inl ⟨by rfl,by intro w' hSw; obtain ⟨k0,k1,k2⟩:=HRC.out w' hSw; go_simp; (try (with_reducible rfl))⟩);refine tk 9 ?_;refine r_1 10 fun K hK=>?_
    go_simp;refine k_t hK HA.out fun hHeld=>?_
    clear hK K;refine r_1 11 fun K hK=>?_
    refine jd2 rfl (.tmp 61) (.tmp 71) 65 65 rfl _ _ _ _ (by rfl) (by rfl) ab3 ?_;refine k_t hK HN.out.2 fun hHeld=>?_
    clear hK K;refine tk 12 ?_;refine w_d ?_;clear ab3 y0 hx0 hHeld HA HAD HRC;go_wp2_with fail
    go_roundw
    case rel=>exact ⟨k+1,by omega,by go_num,HN⟩
    case measure=>simp [intOf]; omega
  · obtain rfl:k=nms.length:=by omega
    have HE:=hid (HEV.out wr _ (HFV.out.trans HX.out) HQ.out.jy);clear hlt hr1 hr2 HQ HEV;go_wp2_with fail;refine HE.out.mono ?_;rintro e w6 ⟨rfl,x6⟩;have X6:=hid (HX.out.trans x6);clear x6 HE;have HSS:Hid (∀ W',Ext V W'->(Ext V W'/\W'.cell? ⟨w5.heap.size,0,none⟩=some (.int .i64 fr)/\W'.cell? ⟨w5.heap.size,1,none⟩=some (.slice A1 0 c1)/\W'.cell? ⟨w5.heap.size,2,none⟩=some (.slice A2 nms.length c2)/\W'.cell? ⟨w5.heap.size,3,none⟩=some (.int .i64 m.kind)/\W'.cell? ⟨w5.heap.size,4,none⟩=some (.int .i64 m.rel)/\W'.cell? ⟨w5.heap.size,5,none⟩=some (.int .i64 m.p.lv)/\W'.cell? ⟨w5.heap.size,6,none⟩=some (.bool m.p.neg)/\W'.cell? ⟨w5.heap.size,7,none⟩=some (.slice P0 l0 h0)/\W'.cell? ⟨w5.heap.size,8,none⟩=some (.slice P l1 h1)/\W'.cell? ⟨w5.heap.size,9,none⟩=some (.slice R l2 h2))):=hid (fun W' hx=>⟨hx,HPX.out _ hx⟩);have HAA:=hid (fun (W':World) (hx:Ext V W')=>HAT.out W' _ _ (XV.out.trans hx) (HMX.out.ext hx));have Y0:=hid (X6.out.drew);have hbw:=apM.out _ (XV.out.trans X6.out.drew);clear HX HAT HMX apM;go_upto_region 14 with fail
    go_region_held3 (fun W' => Ext V W' /\ W'.cell? ⟨w5.heap.size, 0, none⟩ = some (.int .i64 fr) /\ W'.cell? ⟨w5.heap.size, 1, none⟩ = some (.slice A1 0 c1) /\ W'.cell? ⟨w5.heap.size, 2, none⟩ = some (.slice A2 nms.length c2) /\ W'.cell? ⟨w5.heap.size, 3, none⟩ = some (.int .i64 m.kind) /\ W'.cell? ⟨w5.heap.size, 4, none⟩ = some (.int .i64 m.rel) /\ W'.cell? ⟨w5.heap.size, 5, none⟩ = some (.int .i64 m.p.lv) /\ W'.cell? ⟨w5.heap.size, 6, none⟩ = some (.bool m.p.neg) /\ W'.cell? ⟨w5.heap.size, 7, none⟩ = some (.slice P0 l0 h0) /\ W'.cell? ⟨w5.heap.size, 8, none⟩ = some (.slice P l1 h1) /\ W'.cell? ⟨w5.heap.size, 9, none⟩ = some (.slice R l2 h2))
     (first | with_reducible exact HSS.out _ Y0.out | with_reducible exact HSS.out _ z1)
     ((go_at_call 19
       refine (HAA.out _ Y0.out).mono ?_;rintro e w7 ⟨rfl,y7⟩;have z1:Ext V w7:=Y0.out.trans y7
       clear y7))
    all_goals
     have X7:=hid (HWX.out.trans (XV.out.trans z1));clear z1 HAA HSS Y0 hbw;cases tv
     · go_wp2_with fail;go_ret;exact ⟨rfl,X7.out⟩
     · go_wp2_with fail;go_ret;exact ⟨rfl,X7.out⟩
open Go.ChangeShapes Go.WideShapes
theorem cell_lt {w:World} {a:Addr} {v:Value} (h:w.cell? a=some v):a.block < w.heap.size:=by
 unfold World.cell? at h
 split at h
 · rename_i hh;exact (rA.1 hh).1
 · cases h
theorem yfu (a:Addr) (n:Nat):a.add (n+1)=⟨a.block,a.off+(n+1),none⟩:=by simp [Addr.add]
theorem ye0 (a:Addr):a.add 0=a:=by simp [Addr.add]
theorem zf3 {α:Type} {l:List α} (h:l.length=3):∃ x y z,l=[x,y,z]:=by
 cases l with
 | nil=>simp at h
 | cons x r =>
   obtain ⟨y,z,rfl⟩:=gep (l:=r) (by simpa using h);exact ⟨x,y,z,rfl⟩
theorem uf2 {α:Type} {l:List α} (h:l.length=4):∃ x y z u,l=[x,y,z,u]:=by
 cases l with
 | nil=>simp at h
 | cons x r =>
   obtain ⟨y,z,u,rfl⟩:=zf3 (l:=r) (by simpa using h);exact ⟨x,y,z,u,rfl⟩
theorem len8 {α:Type} {l:List α} (h:l.length=8):∃ a b c d e f g i,l=[a,b,c,d,e,f,g,i]:=by
 obtain ⟨a,b,c,d,h1⟩:=uf2 (l:=l.take 4) (by rw [px]; omega);obtain ⟨e,f,g,i,h2⟩:=uf2 (l:=l.drop 4) (by rw [pL]; omega);exact ⟨a,b,c,d,e,f,g,i,by rw [<- rl 4 l,h1,h2]; rfl⟩
theorem jgr {α:Type} {l:List α} (h:l.length=9):∃ a b c d e f g i j,l=[a,b,c,d,e,f,g,i,j]:=by
 cases l with
 | nil=>simp at h
 | cons x r =>
   obtain ⟨a,b,c,d,e,f,g,i,rfl⟩:=len8 (l:=r) (by simpa using h);exact ⟨x,a,b,c,d,e,f,g,i,rfl⟩
section
variable {H:Type} {enc:TypeId × Value->H} {w:World} {sp:Nat->Bool} {held:Bool}
theorem xe1 {fuel:Nat} {cs:List Value} {x:DataW H × List MemPlace} (h:DataW.trod enc Tryz.prog w 0 sp held fuel 23 cs=some x):∃ A ds c,cs=[.slice A ds.length c]/\zb1 w (.slice A ds.length c) ds:=by
 rcases open_ints uz Tryz.underlying108 (by kernel_rfl) h with ⟨rfl,-⟩ | ⟨a,len,cap,zs,rfl,-,hlc,hcm,hzl,-,abZ,hwf⟩
 · exact ⟨none,[],0,rfl,zb1.nil w⟩
 · have hle:len<=zs.length:=by rw [hzl]; split <;> omega
   have hlen:((zs.take len).map Int.toNat).length=len:=by rw [pC,px]; omega
   refine ⟨some a,(zs.take len).map Int.toNat,cap,by rw [hlen],?_⟩;refine ⟨some a,cap,rfl,by rw [hlen]; exact hlc,by unfold maxLen at hcm; omega,?_,fun hp=>⟨a,rfl,?_,?_⟩⟩
   · intro d hd;obtain ⟨z,hz,rfl⟩:=sF.1 hd;have:=bounds_u32 (hwf z (uP hz));show z.toNat < 4294967296;omega
   · rw [hlen] at hp;have:=cell_lt (abZ 0 (by omega))
     rwa [ye0] at this
   · intro j hj;rw [hlen] at hj;have hj2:j < zs.length:=by omega
     rw [abZ j hj2];have hb:=bounds_u32 (hwf zs[j] (pt hj2));simp only [rJ,List.getElem_take];rw [pB,pq hj2];simp only [Option.getD_some]
     congr 2
     omega
theorem kex {fuel:Nat} {cs:List Value} {x:DataW H × List MemPlace} (h:DataW.trod enc Tryz.prog w 0 sp held fuel 25 cs=some x):∃ neg A ds c,cs=[.bool neg,.slice A ds.length c]/\zb1 w (.slice A ds.length c) ds:=by
 obtain ⟨xs,n,rfl,-,hl,hx,hf⟩:=DataW.trod_struct Tryz.underlying25 h;have hl2:cs.length=2:=hl.trans (by kernel_rfl);have hx2:xs.length=2:=hx;obtain ⟨c0,c1,rfl⟩:=gep hl2;obtain ⟨x0,x1,rfl⟩:=gep hx2;have f0:DataW.trod enc Tryz.prog w 0 sp held n 4 ((List.drop 0 [c0,c1]).take (Tryz.prog.cellsOf 4))=some x0:=hf 0 _ rfl;have f1:DataW.trod enc Tryz.prog w 0 sp held n 23 ((List.drop 1 [c0,c1]).take (Tryz.prog.cellsOf 23))=some x1:=hf 1 _ rfl;rw [show Tryz.prog.cellsOf 4=1 by kernel_rfl] at f0;rw [show Tryz.prog.cellsOf 23=1 by kernel_rfl] at f1;simp only [rU,tW,tt,sR,sD,sP] at f0 f1;obtain ⟨b,e,-⟩:=DataW.trod_bool tR f0;obtain ⟨A,ds,c,e1,hn⟩:=xe1 f1;simp only [ru,and_true] at e e1;exact ⟨b,A,ds,c,by rw [e,e1],hn⟩
end
section
variable {H:Type} {enc:TypeId × Value->H} {w:World} {sp:Nat->Bool} {held:Bool}
def qgn:Tr:=.mk ⟨0,false,[],ByteArray.empty,0,0,false,false⟩ []
theorem gf5 {a:Addr} {r:Tr × Value × Value} (h:w.cells? 0 a 9=some (qd0 r)):udx w a r.1.d r.2.1 r.2.2/\a.block < w.heap.size:=by
 have hc:=(World.cells?_some h).2.2;have c0:=hc 0 (by omega);have c1:=hc 1 (by omega);have c2:=hc 2 (by omega);have c3:=hc 3 (by omega);have c4:=hc 4 (by omega);have c5:=hc 5 (by omega);have c6:=hc 6 (by omega);have c7:=hc 7 (by omega);have c8:=hc 8 (by omega);rw [ye0] at c0;rw [yfu] at c1 c2 c3 c4 c5 c6 c7 c8;exact ⟨⟨c0,c1,c2,c3,c4,c5,c6,c7,c8⟩,cell_lt c0⟩
theorem gfm (fuel:Nat):∀ (cs:List Value) (x:DataW H × List MemPlace),DataW.trod enc Tryz.prog w 0 sp held fuel 29 cs=some x->∃ r:Tr × Value × Value,cs=qd0 r/\TrV w (fun _=>True) r.1 (ndV r.1.d r.2.1 r.2.2):=by
 induction fuel using Nat.strongRecOn with
 | _ fuel ih =>
 intro cs x h;obtain ⟨xs,n,rfl,-,hl,hx,hf⟩:=DataW.trod_struct Tryz.underlying29 h;have arF:Tryz.prog.cellsOf 29=9:=by kernel_rfl
 have hl2:cs.length=9:=hl.trans arF;have hx2:xs.length=8:=hx;obtain ⟨c0,c1,c2,c3,c4,c5,c6,c7,c8,rfl⟩:=jgr hl2;obtain ⟨x0,x1,x2,x3,x4,x5,x6,x7,rfl⟩:=len8 hx2;have f0:DataW.trod enc Tryz.prog w 0 sp held n 3 ((List.drop 0 [c0,c1,c2,c3,c4,c5,c6,c7,c8]).take (Tryz.prog.cellsOf 3))=some x0:=hf 0 _ rfl;have f1:DataW.trod enc Tryz.prog w 0 sp held n 25 ((List.drop 1 [c0,c1,c2,c3,c4,c5,c6,c7,c8]).take (Tryz.prog.cellsOf 25))=some x1:=hf 1 _ rfl;have f2:DataW.trod enc Tryz.prog w 0 sp held n 9 ((List.drop 3 [c0,c1,c2,c3,c4,c5,c6,c7,c8]).take (Tryz.prog.cellsOf 9))=some x2:=hf 2 _ rfl;have f3:DataW.trod enc Tryz.prog w 0 sp held n 3 ((List.drop 4 [c0,c1,c2,c3,c4,c5,c6,c7,c8]).take (Tryz.prog.cellsOf 3))=some x3:=hf 3 _ rfl;have f4:DataW.trod enc Tryz.prog w 0 sp held n 26 ((List.drop 5 [c0,c1,c2,c3,c4,c5,c6,c7,c8]).take (Tryz.prog.cellsOf 26))=some x4:=hf 4 _ rfl;have f5:DataW.trod enc Tryz.prog w 0 sp held n 4 ((List.drop 6 [c0,c1,c2,c3,c4,c5,c6,c7,c8]).take (Tryz.prog.cellsOf 4))=some x5:=hf 5 _ rfl;have f6:DataW.trod enc Tryz.prog w 0 sp held n 4 ((List.drop 7 [c0,c1,c2,c3,c4,c5,c6,c7,c8]).take (Tryz.prog.cellsOf 4))=some x6:=hf 6 _ rfl;have f7:DataW.trod enc Tryz.prog w 0 sp held n 27 ((List.drop 8 [c0,c1,c2,c3,c4,c5,c6,c7,c8]).take (Tryz.prog.cellsOf 27))=some x7:=hf 7 _ rfl;rw [show Tryz.prog.cellsOf 3=1 by kernel_rfl] at f0 f3;rw [show Tryz.prog.cellsOf 25=2 by kernel_rfl] at f1;rw [show Tryz.prog.cellsOf 9=1 by kernel_rfl] at f2;rw [show Tryz.prog.cellsOf 26=1 by kernel_rfl] at f4;rw [show Tryz.prog.cellsOf 4=1 by kernel_rfl] at f5 f6;rw [show Tryz.prog.cellsOf 27=1 by kernel_rfl] at f7;simp only [rU,tW,tt,sR,sD,sP] at f0 f1 f2 f3 f4 f5 f6 f7;obtain ⟨kind,e0,-⟩:=DataW.trod_int Tryz.underlying3 f0;obtain ⟨neg,A,ds,c,e1,hn⟩:=kex f1;obtain ⟨name,e3,-⟩:=DataW.trod_string ss f2;obtain ⟨exp,e4,-⟩:=DataW.trod_int Tryz.underlying3 f3;obtain ⟨rel,e5,-⟩:=DataW.trod_int Tryz.underlying26 f4;obtain ⟨truth,e6,-⟩:=DataW.trod_bool tR f5;obtain ⟨all,e7,-⟩:=DataW.trod_bool tR f6;simp only [ru,and_true] at e0 e1 e3 e4 e5 e6 e7;obtain ⟨e1,e2⟩:=e1;have arD:∃ ks B m,c8=.slice B ks.length m/\ks.length<=m/\m<=9223372036854775807/\xdl w (fun _=>True) ks B 0:=by
  rcases DataW.trod_slice Tryz.underlying27 f7 with ⟨e8,-⟩ | ⟨a,len,cap,elems,rest,n',hfu,e8,-,-,hlc,hcm,hel,hat,-⟩
  · simp only [ru,and_true] at e8;exact ⟨[],none,0,e8,by simp,by omega,by unfold xdl; trivial⟩
  · simp only [ru,and_true] at e8;rw [arF] at hat;have each:∀ i:Nat,∃ t:Tr,i < len->∃ s K,udx w (a.add (i * 9)) t.d s K/\a.block < w.heap.size/\TrV w (fun _=>True) t (ndV t.d s K):=by
     intro i
     by_cases hi:i < len
     · have h1:=hat i hi;rw [pq (by omega)] at h1;obtain ⟨cs',hc,ht⟩:=Option.bind_eq_some_iff.1 h1;obtain ⟨r,rfl,hr⟩:=ih n' (by omega) cs' _ ht;obtain ⟨h2,h3⟩:=gf5 hc;rw [zc1] at h3;exact ⟨r.1,fun _=>⟨r.2.1,r.2.2,h2,h3,hr⟩⟩
     · exact ⟨qgn,fun h=>absurd h hi⟩
    refine ⟨(List.range len).map (fun i=>Classical.choose (each i)),some a,cap,by simpa using e8,by simpa using hlc,by unfold maxLen at hcm; omega,xdl.of _ _ _ fun i hi=>?_⟩;simp only [pC,uF] at hi;obtain ⟨s,K,h1,h2,h3⟩:=Classical.choose_spec (each i) hi;simp only [rJ,uo,pH];exact ⟨a,s,K,rfl,h2,trivial,h1,h3⟩
 obtain ⟨ks,B,m,e8,hm1,hm2,hat⟩:=arD;refine ⟨(.mk ⟨kind,neg,ds,name,exp,rel,truth,all⟩ ks,c2,c8),?_,?_⟩
 · unfold qd0;rw [e0,e1,e3,e4,e5,e6,e7]
   rfl
 · have:=TrV.mk (w:=w) (p:=fun _=>True) (t:=.mk ⟨kind,neg,ds,name,exp,rel,truth,all⟩ ks) (s:=c2) (A:=B) (c:=m) (by rw [e2]; exact hn) hm1 hm2 hat;rw [e8];exact this
theorem open_tree {r:Reach} {b0:Nat} {v:Value} {d:DataW H} {ps:List MemPlace} (ab2:Value.okWide Tryz.prog w r b0 29 v) (h:DataW.Trod enc Tryz.prog w 0 sp held 29 v d ps):∃ t,TrV w (fun _=>True) t v:=by
 obtain ⟨fuel,h⟩:=h;obtain ⟨r,e,ht⟩:=gfm fuel _ _ h;simp only [Value.okWide,Tryz.underlying29] at ab2;obtain ⟨cs,rfl,-⟩:=ab2;refine ⟨r.1,?_⟩;have:Value.agg cs=ndV r.1.d r.2.1 r.2.2:=by
  unfold ndV
  congr 1
  exact Array.toList_inj.1 e
 rw [this]; exact ht
end
section
variable {H:Type} {enc:TypeId × Value->H} {w:World} {sp:Nat->Bool} {held:Bool}
theorem veh {α:Type} {l:List α} (h:l.length=7):∃ a b c d e f g,l=[a,b,c,d,e,f,g]:=by
 obtain ⟨a,b,c,d,h1⟩:=uf2 (l:=l.take 4) (by rw [px]; omega);obtain ⟨e,f,g,h2⟩:=zf3 (l:=l.drop 4) (by rw [pL]; omega);exact ⟨a,b,c,d,e,f,g,by rw [<- rl 4 l,h1,h2]; rfl⟩
end
section
variable {H:Type} {enc:TypeId × Value->H} {w:World} {sp:Nat->Bool} {held:Bool}
theorem veg {fuel:Nat} {cs:List Value} {x:DataW H × List MemPlace} (h:DataW.trod enc Tryz.prog w 0 sp held fuel 59 cs=some x):∃ neg A ds c B es d,cs=[.bool neg,.slice A ds.length c,.slice B es.length d]/\zb1 w (.slice A ds.length c) ds/\zb1 w (.slice B es.length d) es:=by
 obtain ⟨xs,n,rfl,-,hl,hx,hf⟩:=DataW.trod_struct Tryz.underlying59 h;have hl2:cs.length=3:=hl.trans (by kernel_rfl);have hx2:xs.length=2:=hx;obtain ⟨c0,c1,c2,rfl⟩:=zf3 hl2;obtain ⟨x0,x1,rfl⟩:=gep hx2;have f0:DataW.trod enc Tryz.prog w 0 sp held n 25 ((List.drop 0 [c0,c1,c2]).take (Tryz.prog.cellsOf 25))=some x0:=hf 0 _ rfl;have f1:DataW.trod enc Tryz.prog w 0 sp held n 23 ((List.drop 2 [c0,c1,c2]).take (Tryz.prog.cellsOf 23))=some x1:=hf 1 _ rfl;rw [show Tryz.prog.cellsOf 25=2 by kernel_rfl] at f0;rw [show Tryz.prog.cellsOf 23=1 by kernel_rfl] at f1;simp only [rU,tW,tt,sR,sD,sP] at f0 f1;obtain ⟨neg,A,ds,c,e,hn⟩:=kex f0;obtain ⟨B,es,d,e1,hn1⟩:=xe1 f1;simp only [ru,and_true] at e e1;exact ⟨neg,A,ds,c,B,es,d,by rw [e.1,e.2,e1],hn,hn1⟩
end
end Go.Proofs.YtheefiaoimbeiaaGreatDoor
