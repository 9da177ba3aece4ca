/- Plain: sizes of the matrix of a formula without quantifiers. -/
import Derived.Test.YtheefiaoimbeiaaGreatDoorMp44
set_option linter.unusedSimpArgs false
set_option linter.unusedVariables false

namespace Go.Proofs.YtheefiaoimbeiaaGreatDoor
open Lib (hid)
theorem kez {n:Int} (h:xdm n<=8):xdm n=n:=by unfold xdm at *; split at h <;> (try split) <;> omega
theorem qd4 (g : ByteArray -> Int) : ∀ t : Tm, t.qw <= 8 -> t.small = true -> ∃ D, Fit (wdm g t) t.qw.toNat D
 | .num z,_,_=>⟨z.natAbs+1,Fit.const (pr (Nat.lt_pow_self (by decide)) (pK (by decide) (rY _)))⟩
 | .name s,_,_=>⟨1,(Pl.zN (g s)).1⟩
 | .add a b,h,hs=>by
   have hm:a.qw<=wdj a.qw b.qw/\b.qw<=wdj a.qw b.qw:=by unfold wdj; split <;> omega
   change wdj a.qw b.qw<=8 at h
   simp only [Tm.small,pj] at hs;obtain ⟨D,hD⟩:=qd4 g a (by omega) hs.1;obtain ⟨E,hE⟩:=qd4 g b (by omega) hs.2;exact ⟨_,(hD.add hE).mono (F:=(wdj a.qw b.qw).toNat) (by omega) (pf _)⟩
 | .sub a b,h,hs=>by
   have hm:a.qw<=wdj a.qw b.qw/\b.qw<=wdj a.qw b.qw:=by unfold wdj; split <;> omega
   change wdj a.qw b.qw<=8 at h
   simp only [Tm.small,pj] at hs;obtain ⟨D,hD⟩:=qd4 g a (by omega) hs.1;obtain ⟨E,hE⟩:=qd4 g b (by omega) hs.2;exact ⟨_,(hD.add hE.xJ).mono (F:=(wdj a.qw b.qw).toNat) (by omega) (pf _)⟩
 | .mul a b,h,hs=>by
   have ha:=a.qT;have hb:=b.qT
   change xdm (a.qw+b.qw)<=8 at h
   have e:=kez h;simp only [Tm.small,pj] at hs;obtain ⟨D,hD⟩:=qd4 g a (by omega) hs.1;obtain ⟨E,hE⟩:=qd4 g b (by omega) hs.2;refine ⟨D+E,(hD.mul hE).mono ?_ (pf _)⟩;show a.qw.toNat+b.qw.toNat<=(xdm (a.qw+b.qw)).toNat;omega
 | .neg a,h,hs=>by
   obtain ⟨D,hD⟩:=qd4 g a h hs;exact ⟨_,hD.xJ⟩
 | .pow a e,h,hs=>by
   simp only [Tm.small,pj,decide_eq_true_eq] at hs;have ha:=a.qT
   by_cases he:e<=0
   · have:e.toNat=0:=by omega
     rw [wdm,this];exact ⟨1,Fit.const (by decide)⟩
   · have hm:wdj e 0=e:=by unfold wdj; rw [if_neg (by omega)]
     change kdx (wdj e 0) a.qw<=8 at h
     have hc:xdm e=e:=by unfold xdm; rw [if_pos (by omega)]
     have hd:xdm a.qw=a.qw:=by unfold xdm; rw [if_pos (by omega)]
     have h2:kdx (wdj e 0) a.qw=e * a.qw:=by
      unfold kdx at h ⊢;rw [hm,hc,hd] at h ⊢;exact kez h
     rw [h2] at h;have h3:1 * a.qw<=e * a.qw:=sM (by omega) (by omega);obtain ⟨D,hD⟩:=qd4 g a (by omega) hs.2;refine ⟨_,(hD.pow e.toNat).mono ?_ (pf _)⟩;show e.toNat * a.qw.toNat<=(kdx (wdj e 0) a.qw).toNat;rw [h2];obtain ⟨m,hm⟩:∃ m:Nat,e=m:=⟨e.toNat,by omega⟩;obtain ⟨n,hn⟩:∃ n:Nat,a.qw=n:=⟨a.qw.toNat,by omega⟩;rw [hm,hn];exact Nat.le_of_eq (rV (m * n)).symm
theorem ge4 (g:ByteArray->Int) {t:Tm} (h:t.lim=true):Fit (wdm g t) 8 321:=by
 simp only [Tm.lim,pj,uI,decide_eq_false_iff_not] at h;have hd:=t.qT;have hw:=t.qx;obtain ⟨D,hD⟩:=qd4 g t (by omega) h.2;have hb:=qdz g t (by omega);have h1:Fit (wdm g t) 8 (t.wt.toNat+1):=⟨hD.can,(hD.mono (F:=8) (by omega) (pf _)).ex,hb.fit.nr⟩;exact h1.mono (pf _) (by omega)
def Fm.qv : Fm -> Nat
 | .truth _=>0
 | .atom _ _ _=>0
 | .not f=>f.qv
 | .and f g=>f.qv+g.qv
 | .or f g=>f.qv+g.qv
 | .imp f g=>f.qv+g.qv
 | .iff f g=>f.qv+g.qv+1
 | .quant _ _ f=>f.qv
theorem wea (k:Int) (a b:Mx):(gdq k a b).sz=a.sz+b.sz+1:=by simp [gdq,Mx.sz,zef]
theorem qf2 (f:Fm):∀ (pos:Bool) (s:PSt),f.okB true=true->(zc2 f pos s).1.sz<=f.sz * 3 ^ f.qv:=by
 have two:∀ f g:Fm,∀ A B:Nat,A<=f.sz * 3 ^ f.qv->B<=g.sz * 3 ^ g.qv->A+B+1<=(f.sz+g.sz+1) * 3 ^ (f.qv+g.qv):=by
  intro f g A B hA hB;have h1:3 ^ f.qv<=3 ^ (f.qv+g.qv):=pK (by decide) (by omega);have h2:3 ^ g.qv<=3 ^ (f.qv+g.qv):=pK (by decide) (by omega);have h3:1<=3 ^ (f.qv+g.qv):=rF (by decide);have h4:=pX f.sz h1;have h5:=pX g.sz h2;rw [pT,pT];omega
 induction f with
 | truth b=>intro pos s _; simp [zc2,kev,Mx.sz,zef,Fm.sz,Fm.qv]
 | atom l r k=>intro pos s _; simp [zc2,vfi,Mx.sz,zef,Fm.sz,Fm.qv]
 | not f ih =>
   intro pos s ho;have:=ih (!pos) s ho;simp only [zc2,Fm.sz,Fm.qv];refine po this (pE _ (by omega))
 | and f g ihf ihg =>
   intro pos s ho;simp only [Fm.okB,pj] at ho;simp only [zc2,(xdv f ho.1).2.1,wea,Fm.sz,Fm.qv];exact two f g _ _ (ihf pos s ho.1) (ihg pos s ho.2)
 | or f g ihf ihg =>
   intro pos s ho;simp only [Fm.okB,pj] at ho;simp only [zc2,(xdv f ho.1).2.1,wea,Fm.sz,Fm.qv];exact two f g _ _ (ihf pos s ho.1) (ihg pos s ho.2)
 | imp f g ihf ihg =>
   intro pos s ho;simp only [Fm.okB,pj] at ho;simp only [zc2,(xdv f ho.1).2.1,wea,Fm.sz,Fm.qv];exact two f g _ _ (ihf (!pos) s ho.1) (ihg pos s ho.2)
 | iff f g ihf ihg =>
   intro pos s ho;simp only [Fm.okB,pj] at ho;simp only [zc2,wea,Fm.sz,Fm.qv];have h1:=two f g _ _ (ihf true s ho.1) (ihg pos s ho.2);have h2:=two f g _ _ (ihf false s ho.1) (ihg (!pos) s ho.2);have h3:1<=(f.sz+g.sz+1) * 3 ^ (f.qv+g.qv):=tg (by omega) (rF (by decide));rw [pP,<- pS];omega
 | quant a nm f ih=>intro pos s ho; simp [Fm.okB] at ho
theorem wd1 {P:Pl->Prop} (hz:P Pl.zero) (k:Int) {a b:Mx} (ha:a.each P) (hb:b.each P):(gdq k a b).each P:=⟨hz,ha,hb,trivial⟩
theorem yfr {P:Pl->Prop} (hz:P Pl.zero) (hP:∀ g l k,l.lim=true->k.lim=true->P ((wdm g l).add (wdm g k).xJ)) (f:Fm):∀ (pos:Bool) (s:PSt),f.lim=true->(zc2 f pos s).1.each P:=by
 induction f with
 | truth b=>exact fun pos s _=>⟨hz,trivial⟩
 | atom l r k =>
   intro pos s h;simp only [Fm.lim,pj] at h;exact ⟨hP s.lev l k h.1 h.2,trivial⟩
 | not f ih=>exact fun pos s h=>ih (!pos) s h
 | and f g ihf ihg =>
   intro pos s h;simp only [Fm.lim,pj] at h;exact wd1 hz _ (ihf _ _ h.1) (ihg _ _ h.2)
 | or f g ihf ihg =>
   intro pos s h;simp only [Fm.lim,pj] at h;exact wd1 hz _ (ihf _ _ h.1) (ihg _ _ h.2)
 | imp f g ihf ihg =>
   intro pos s h;simp only [Fm.lim,pj] at h;exact wd1 hz _ (ihf _ _ h.1) (ihg _ _ h.2)
 | iff f g ihf ihg =>
   intro pos s h;simp only [Fm.lim,pj] at h;exact wd1 hz _ (wd1 hz _ (ihf _ _ h.1) (ihg _ _ h.2)) (wd1 hz _ (ihf _ _ h.1) (ihg _ _ h.2))
 | quant a nm f ih=>exact fun pos s h=>ih pos _ h
theorem kf2 (f:Fm) (pos:Bool) (s:PSt) (h:f.lim=true):(zc2 f pos s).1.each fun p=>Fit p 8 323:=
 yfr ⟨Pl.qA,(Fit.zero (E:=8) (D:=323)).ex,(Fit.zero (E:=8) (D:=323)).nr⟩ (fun g _ _ h1 h2=>((ge4 g h1).add (ge4 g h2).xJ).mono (by omega) (by omega)) f pos s h
end Go.Proofs.YtheefiaoimbeiaaGreatDoor

set_option maxRecDepth 100000
set_option maxHeartbeats 8000000
namespace Go.Proofs.YtheefiaoimbeiaaGreatDoor
open Lib (hid)
open Go.RowKit
def xx:ByteArray:=⟨#[120]⟩
def f3:Fm:=.atom (.name xx) 1 (.num 3)
theorem ugg:f3.free=[xx]:=by simp [f3,Fm.free,Fm.fold,Tm.fold,vdl,has]
theorem wf4:ydl (gdm [(xx,2)]) f3.free=true:=by rw [ugg]; simp [ydl,gdm]
theorem wgo:f3.pre.any Fm.bad=false:=by
 have h:qdx 3=1:=gef (by decide);simp [f3,Fm.pre,Fm.bad,Tm.qP,Tm.qw,Tm.wt,h,xdm]
theorem xgr:f3.tv (gdm [(xx,2)])=true:=by
 simp [f3,Fm.tv,Tm.val,gdm,wdu,jei]
 decide
theorem ggg:zdz f3 [(xx,2)]=(true,0):=by
 unfold zdz;rw [if_neg (by simp [f3,Fm.bound]),if_neg (by rw [wf4]; simp),if_neg (by rw [wgo]; simp),xgr]
theorem kfx:rlen (2:Rat)<=1:=by
 have h:(dg 2).length=1:=by rw [gd5 (by decide) (by decide)]; rfl
 have:=zd3 2 (L:=1) (by show (dg 2).length<=1; omega) (by omega);simpa using this
theorem vfk {W:World} {v:Value} {b1:Bool} {A1 B1:Option Addr} {n1 c1 k1 d1:Nat} (m1:udw W (.agg #[.bool b1,.slice A1 n1 c1,.slice B1 k1 d1]) ((2:Int):Rat)) (hf:FmV W 1 f3 v) :
 Calls Tryz.prog 18 #[v,.slice (some ⟨W.heap.size,0,none⟩) 1 1] (W.alloc (.cells #[.string ⟨#[120]⟩,.bool b1,.slice A1 n1 c1,.slice B1 k1 d1] 67)) (ue0 (true,0) (W.alloc (.cells #[.string ⟨#[120]⟩,.bool b1,.slice A1 n1 c1,.slice B1 k1 d1] 67))):=by
 rw [<- ggg];have hx:Ext W (W.alloc (.cells #[.string ⟨#[120]⟩,.bool b1,.slice A1 n1 c1,.slice B1 k1 d1] 67)):=(Ext.refl W).alloc _;refine qee (L:=1) (vals:=[(xx,2)]) (by omega) (by omega) f3 (hf.ext hx) ?_ rfl (by simp [f3,Fm.sz,Tm.sz]) (fun _ _ _=>?_)
 · refine ⟨_,1,rfl,by simp,by simp,fun j hj=>?_⟩;have:j=0:=by simp at hj; omega
   subst this;refine ⟨_,b1,A1,n1,c1,B1,k1,d1,rfl,by simp,?_,?_⟩
   · rw [kdo];refine ⟨?_,?_,?_,?_⟩ <;> simp [go_sem,xx]
   · have h2:(((2:Int):Rat))=2:=by rfl
     rw [h2] at m1;exact (m1.raw.mono kfx).ext hx
 · refine ⟨⟨?_,?_⟩,⟨trivial,?_⟩⟩
   · simp [Tm.covered,gdm]
   · simp [Tm.bt]
   · simp [Tm.bt]
theorem xea (w:World):Calls Tryz.prog 14 #[] w (wdr true w):=by
 go_enter Tryz.func14,Tryz.ntmps14;go_wp2_with fail;obtain ⟨W,hW⟩:=n_m ((w.alloc (.cells #[.int .u32 3] 108)).alloc (.cells #[.iface 73 (.agg #[.string ⟨#[120]⟩]),.int .i64 1,.iface 110 (.agg #[.bool false,.slice (some ⟨w.heap.size,0,none⟩) 1 1])] 77));have hWx:Ext w W:=by rw [<- hW]; exact ((Ext.refl w).alloc _).alloc _
 have hWs:W.heap.size=w.heap.size+1+1:=by rw [<- hW]; simp
 have hd:W.cell? ⟨w.heap.size,0,none⟩=some (.int .u32 3):=by rw [<- hW]; simp [go_sem]
 have HB:Hid (∀ W',Ext W W'->(Ext W W'/\W'.cell? ⟨w.heap.size+1,0,none⟩=some (.iface 73 (.agg #[.string ⟨#[120]⟩]))/\W'.cell? ⟨w.heap.size+1,1,none⟩=some (.int .i64 1)/\W'.cell? ⟨w.heap.size+1,2,none⟩=some (.iface 110 (.agg #[.bool false,.slice (some ⟨w.heap.size,0,none⟩) 1 1])))):=by
  intro W' hx;obtain ⟨hc,hf⟩:=hx.cells;refine ⟨hx,?_,?_,?_⟩ <;> (rw [hc _ _ (by omega),<- hW]; simp [go_sem])
 have HFV:Hid (FmV W 1 f3 (.iface 77 (.agg #[.iface 73 (.agg #[.string ⟨#[120]⟩]),.int .i64 1,.iface 110 (.agg #[.bool false,.slice (some ⟨w.heap.size,0,none⟩) 1 1])]))):=by
  refine ⟨_,_,rfl,rfl,⟨_,rfl,false,_,[3],rfl,⟨some ⟨w.heap.size,0,none⟩,1,rfl,by simp,by simp,?_,?_⟩,?_,by simp⟩⟩
  · exact kdk.cons (by decide) kdk.nil
  · intro _;refine ⟨_,rfl,by show w.heap.size < _; omega,fun j hj=>?_⟩;have:j=0:=by simp at hj; omega
    subst this;rw [kdo]; exact hd
  · simp [sgn,val]
 have HWX:=hid hWx;rw [hW];clear hW hd hWx hWs;have y0:Ext W W.drew:=(Ext.refl W).drew;have Y0:=hid y0;clear y0
 go_region_held3 (fun W' => Ext W W' /\ W'.cell? ⟨w.heap.size + 1, 0, none⟩ = some (.iface 73 (.agg #[.string ⟨#[120]⟩])) /\ W'.cell? ⟨w.heap.size + 1, 1, none⟩ = some (.int .i64 1) /\ W'.cell? ⟨w.heap.size + 1, 2, none⟩ = some (.iface 110 (.agg #[.bool false, .slice (some ⟨w.heap.size, 0, none⟩) 1 1])))
  (first | with_reducible exact HB.out _ Y0.out | with_reducible exact HB.out _ y1 | with_reducible exact HB.out _ (y1.alloc _) | with_reducible exact HB.out _ y2)
  (first
    | (go_at_call 43
       refine (uef 2 _ (by omega) (by omega)).mono ?_;rintro e v1 ⟨z1,rfl,m1,x1⟩;obtain ⟨b1,A1,n1,c1,B1,k1,d1,rfl⟩:=m1.unpack
       have y1:Ext W v1:=Ext.trans Y0.out x1)
    | (go_at_call 18
       refine (vfk m1 (HFV.out.ext y1)).mono ?_;rintro e v2 ⟨rfl,x2⟩
       have y2:Ext W v2:=Ext.trans (y1.alloc _) x2))
 all_goals
  have X2:=hid (HWX.out.trans y2);clear y1 y2 x1 x2 m1 HB HWX Y0 HFV;go_wp2_with fail;refine (jel 1 (-5) _).mono ?_;rintro e w3 ⟨rfl,rfl⟩;go_wp2_with fail;go_ret;exact ⟨rfl,X2.out⟩
theorem ufo {w:World} {p:Nat->Prop} {s:Value} {l:List Vr} (t:Tr) (v:Value) (term:Bool) (h:TrV w p t v) (hvs:VsW w s l):Calls Tryz.prog 15 #[v,.bool term,s] w (wdr (t.zb 100 && t.is term && jdy l) w):=by
 have HT:=hid h;have HVS:=hid hvs;obtain ⟨res,aed⟩:=n_m ((t.zb 100 && t.is term && jdy l));rw [aed];have apu:=hid aed;clear aed;obtain ⟨As,cs,rfl,hs1,hs2,-⟩:=hvs;obtain ⟨A0,n0,c0,A,c,rfl,-,hl1,hl2,h4⟩:=h.open_;clear h h4;unfold ndV;unfold ndV at HT;obtain ⟨W,hW⟩:=n_m (w.alloc (.cells #[.int .i64 t.d.kind,.bool t.d.neg,.slice A0 n0 c0,.string t.d.name,.int .i64 t.d.exp,.int .i64 t.d.rel,.bool t.d.truth,.bool t.d.all,.slice A t.ks.length c] 29));have hWx:Ext w W:=by rw [<- hW]; exact (Ext.refl w).alloc _
 have hWs:W.heap.size=w.heap.size+1:=by rw [<- hW]; simp
 have hbx:jd1 W w.heap.size t.d (.slice A0 n0 c0) (.slice A t.ks.length c):=by rw [<- hW]; exact jd1.new w t.d _ _ _
 obtain ⟨b0,b1,b2,b3,b4,b5,b6,b7,b8⟩:=id hbx;have HBX:=hid hbx;have HWX:=hid hWx;have HFW:=hid (ge6 t _ (HT.out.ext hWx) 100 (by omega));clear hWx hbx;go_enter Tryz.func15,Tryz.ntmps15;go_wp2_with fail;clear hW b0 b1 b2 b3 b4 b5 b6 b7 b8;refine HFW.out.mono ?_;rintro e w1 ⟨rfl,x1⟩;have hx1:=HWX.out.trans x1;have aAz:=x1.size;obtain ⟨b0,b1,b2,b3,b4,b5,b6,b7,b8⟩:=HBX.out.ext x1 (by omega);have HIS:=hid (ugo t _ w1 term (HT.out.ext hx1));have X1:=hid hx1;clear x1 hx1 HFW
 by_cases h1:t.zb 100=true
 · rw [h1];have HR1:=hid h1;clear h1;go_wp2_with fail;clear b0 b1 b2 b3 b4 b5 b6 b7 b8;refine HIS.out.mono ?_;rintro e w2 ⟨rfl,x2⟩;have X2:=hid (X1.out.trans x2);clear x2 HIS
   by_cases h2:t.is term=true
   · rw [h2];have HV:Hid (res=jdy l):=by
      have:res=jdy l:=by rw [<- apu.out,HR1.out,h2]; rfl
      exact this
     clear h2;go_wp2_with fail;refine (vgg (HVS.out.ext X2.out)).mono ?_;rintro e w3 ⟨rfl,x3⟩;have X3:=hid (X2.out.trans x3);clear x3;generalize jdy l=fl at *;go_wp2_with fail;go_ret;exact ⟨by rw [HV.out]; rfl,X3.out⟩
   · have h2':t.is term=false:=by simpa using h2
     rw [h2'];have HV:Hid (res=false):=by
      have:res=false:=by rw [<- apu.out,h2',Bool.and_false,Bool.false_and]
      exact this
     clear h2 h2';go_wp2_with fail;go_ret;exact ⟨by rw [HV.out]; rfl,X2.out⟩
 · have h1':t.zb 100=false:=by simpa using h1
   rw [h1'];have HV:Hid (res=false):=by
    have:res=false:=by rw [<- apu.out,h1',Bool.false_and,Bool.false_and]
    exact this
   clear h1 h1';go_wp2_with fail;go_ret;exact ⟨by rw [HV.out]; rfl,X1.out⟩
theorem ke3 {m:Tm} (h:m.qP=false) (hs:m.sz<=100):m.bt 20<=1000000000000:=by
 unfold Tm.qP at h;simp only [uQ,decide_eq_false_iff_not] at h;have h1:=m.ju 20 (by omega);have hw:=m.qx;have h2:(m.sz:Int) * m.wt<=100 * 320:=tQ (by omega) (by omega) (by omega) (by omega);omega
theorem kgg (g:ByteArray->Option Rat) (f:Fm) (hs:f.sz<=100) (hc:ydl g f.qM=true) (hb:f.pre.any Fm.bad=false):f.xt g 20:=by
 have two:∀ f h:Fm,(f.sz<=100->ydl g f.qM=true->f.pre.any Fm.bad=false->f.xt g 20)->(h.sz<=100->ydl g h.qM=true->h.pre.any Fm.bad=false->h.xt g 20)->f.sz+h.sz+1<=100->ydl g (f.qM ++ h.qM)=true->(f.pre ++ h.pre).any Fm.bad=false->f.xt g 20/\h.xt g 20:=by
  intro f h ihf ihh hs hc hb;rw [udl,pj] at hc;rw [uq,uQ] at hb;exact ⟨ihf (by omega) hc.1 hb.1,ihh (by omega) hc.2 hb.2⟩
 have tail:∀ (x:Fm) (l:List Fm),(x :: l).any Fm.bad=false->l.any Fm.bad=false:=by
  intro x l h;rw [tG,uQ] at h;exact h.2
 induction f with
 | truth b=>exact trivial
 | atom l r k =>
   simp only [Fm.sz] at hs;simp only [Fm.qM,udl,pj] at hc;simp only [Fm.pre,tG,List.any_nil,Bool.or_false,Fm.bad,uQ] at hb;exact ⟨⟨(Tm.qU g l).1 hc.1,ke3 hb.1 (by omega)⟩,⟨(Tm.qU g k).1 hc.2,ke3 hb.2 (by omega)⟩⟩
 | not f ih=>simp only [Fm.sz] at hs; exact ih (by omega) hc (tail _ _ hb)
 | and f h ihf ihh=>exact two f h ihf ihh hs hc (tail _ _ hb)
 | or f h ihf ihh=>exact two f h ihf ihh hs hc (tail _ _ hb)
 | imp f h ihf ihh=>exact two f h ihf ihh hs hc (tail _ _ hb)
 | iff f h ihf ihh=>exact two f h ihf ihh hs hc (tail _ _ hb)
 | quant a s f ih=>exact trivial
theorem wey {t:Tm} (h:t.lim=true):t.qP=false:=by
 simp only [Tm.lim,pj,uI,decide_eq_false_iff_not] at h;simp [Tm.qP,h.1.1,h.1.2]
theorem xge (f:Fm):f.lim=true->f.pre.any Fm.bad=false:=by
 induction f with
 | truth b=>exact fun _=>rfl
 | atom l r k =>
   intro h;simp only [Fm.lim,pj] at h;simp [Fm.pre,Fm.bad,wey h.1,wey h.2]
 | not f ih=>intro h; rw [Fm.pre,tG,ih h]; rfl
 | and f g ihf ihg =>
   intro h;simp only [Fm.lim,pj] at h;rw [Fm.pre,tG,uq,ihf h.1,ihg h.2]; rfl
 | or f g ihf ihg =>
   intro h;simp only [Fm.lim,pj] at h;rw [Fm.pre,tG,uq,ihf h.1,ihg h.2]; rfl
 | imp f g ihf ihg =>
   intro h;simp only [Fm.lim,pj] at h;rw [Fm.pre,tG,uq,ihf h.1,ihg h.2]; rfl
 | iff f g ihf ihg =>
   intro h;simp only [Fm.lim,pj] at h;rw [Fm.pre,tG,uq,ihf h.1,ihg h.2]; rfl
 | quant a s f ih=>intro h; rw [Fm.pre,tG,ih h]; rfl
theorem xfm {l:List ByteArray} (hn:l.Nodup) (hl:l.length<=4) (x:List Rat):∀ s q,gdm (gdv l x l.length) s=some q->1<=jd7 l l.length s/\jd7 l l.length s<=4/\rho x (jd7 l l.length s)=q:=by
 intro s q h;obtain ⟨i,hi,rfl,rfl⟩:=we0 l x s l.length q h;rw [pB,pq hi,Option.getD_some,ufd hn i hi l.length hi (pf _)];refine ⟨by omega,by omega,?_⟩;unfold rho;rw [show ((i:Int)+1 - 1).toNat=i by omega]
theorem qex (l:List ByteArray) (x:List Rat):ydl (gdm (gdv l x l.length)) l=true:=by
 unfold ydl;rw [List.all_eq_true];intro s hs;obtain ⟨i,hi,rfl⟩:=List.getElem_of_mem hs;have:=uei l x l.length i hi
 rwa [pB,pq hi,Option.getD_some] at this
theorem wgc (g:ByteArray->Option Rat) (f:Fm):ydl g f.qM=true->f.yg g:=by
 induction f with
 | truth b=>exact fun _=>trivial
 | atom l r k =>
   intro h;simp only [Fm.qM,udl,pj] at h;exact ⟨(Tm.qU g l).1 h.1,(Tm.qU g k).1 h.2⟩
 | not f ih=>exact ih
 | and f h ihf ihh=>intro e; simp only [Fm.qM,udl,pj] at e; exact ⟨ihf e.1,ihh e.2⟩
 | or f h ihf ihh=>intro e; simp only [Fm.qM,udl,pj] at e; exact ⟨ihf e.1,ihh e.2⟩
 | imp f h ihf ihh=>intro e; simp only [Fm.qM,udl,pj] at e; exact ⟨ihf e.1,ihh e.2⟩
 | iff f h ihf ihh=>intro e; simp only [Fm.qM,udl,pj] at e; exact ⟨ihf e.1,ihh e.2⟩
 | quant a s f ih=>exact ih
theorem wfq {f:Fm} (x:List Rat) (hb:f.bound=[]) (hc:f.zd=0) :
 f.yg (gdm (gdv f.free x f.free.length))/\(zc2 f true f.st).1.tv (rho x)=f.tv (gdm (gdv f.free x f.free.length)):=by
 obtain ⟨h1,-,-⟩:=kei hb hc;have ar1:=wgc (gdm (gdv f.free x f.free.length)) f (by rw [<- Fm.xX _ f hb]; exact qex f.free x);refine ⟨ar1,?_⟩;rw [yge (xfm f.zJ h1 x) f f.st true rfl (xd7 f hb).1 ar1];cases f.tv (gdm (gdv f.free x f.free.length)) <;> rfl
theorem kfb {f:Fm} (x:List Rat) (hb:f.bound=[]) (hc:f.zd=0) :
 zdz f (gdv f.free x f.free.length)=(f.tv (gdm (gdv f.free x f.free.length)),0)/\(zc2 f true f.st).1.tv (rho x)=f.tv (gdm (gdv f.free x f.free.length)):=by
 refine ⟨?_,(wfq x hb hc).2⟩;unfold zdz;rw [hb,if_neg (by simp),if_neg (by rw [qex f.free x]; simp),if_neg (by rw [xge f (kei hb hc).2.1]; simp)]
def Tr.xG (t:Tr):Nat:=(t.list.filter fun x=>x.d.kind == 14).length
theorem zet {α:Type} (l:List α) (f:α->Bool) (k:Nat) (hk:k < l.length):((l.take (k+1)).filter f).length=((l.take k).filter f).length+(if f l[k] then 1 else 0):=by
 rw [pg hk,tz,pz];cases h:f l[k] <;> simp [h]
theorem vfg {w:World} {p:Nat->Prop} (t:Tr) (v:Value) (h:TrV w p t v) (n k0:Nat) (hn:n<=1000):Calls Tryz.prog 16 #[v,.int .i64 n,.int .i64 k0] w (wdr (t.zb n && decide (t.xG<=k0)) w):=by
 have HT:=hid h;obtain ⟨A0,n0,c0,A,c,rfl,-,hl1,hl2,h4⟩:=h.open_;clear h h4;unfold ndV;unfold ndV at HT;obtain ⟨W,hW⟩:=n_m (w.alloc (.cells #[.int .i64 t.d.kind,.bool t.d.neg,.slice A0 n0 c0,.string t.d.name,.int .i64 t.d.exp,.int .i64 t.d.rel,.bool t.d.truth,.bool t.d.all,.slice A t.ks.length c] 29));have hWx:Ext w W:=by rw [<- hW]; exact (Ext.refl w).alloc _
 have hWs:W.heap.size=w.heap.size+1:=by rw [<- hW]; simp
 have hbx:jd1 W w.heap.size t.d (.slice A0 n0 c0) (.slice A t.ks.length c):=by rw [<- hW]; exact jd1.new w t.d _ _ _
 obtain ⟨b0,b1,b2,b3,b4,b5,b6,b7,b8⟩:=id hbx;have HBX:=hid hbx;have HWX:=hid hWx;have HRM:=hid (ge6 t _ (HT.out.ext hWx) n hn);have HFS:=hid (fun h=>(xei (t:=t) (n:=n) h).1);clear hWx hbx;generalize t.zb n=fw at *;go_enter Tryz.func16,Tryz.ntmps16;go_wp2_with fail;clear hW b0 b1 b2 b3 b4 b5 b6 b7 b8;refine HRM.out.mono ?_;rintro e w1 ⟨rfl,x1⟩;have X1:=hid x1;clear HRM;cases fw
 case false =>
  clear x1;go_wp2_with fail;go_ret;exact ⟨rfl,HWX.out.trans X1.out⟩
 obtain ⟨b0,b1,b2,b3,b4,b5,b6,b7,b8⟩:=HBX.out.ext x1 (by omega);have hsz:=HFS.out rfl;have HLI:=hid (ve5 t _ (HT.out.ext (HWX.out.trans x1)) (by omega));have hlp:0 < t.list.length:=by rw [t.qI]; exact t.zg
 have hll:t.list.length<=1000:=by rw [t.qI]; omega
 have HF:Hid (t.xG=(t.list.filter fun x=>x.d.kind == 14).length):=rfl;generalize t.xG=tif at *;clear x1 HFS;generalize hls:t.list=ls at *;have HLS:=hid hls;clear hls;go_wp2_with fail;refine HLI.out.mono ?_;rintro e w2 ⟨v2,u2,rfl,l2,i2,-,x2⟩;obtain ⟨ad,cap,rfl,hc1,hc2,hat⟩:=l2.jj hlp;obtain ⟨g',cap',rfl,-,-⟩:=i2.pos hlp;have L2:=hid hat;have X2:=hid x2;clear b0 b1 b2 b3 b4 b5 b6 b7 b8 l2 i2 hat x2 HLI HBX HT;go_wp2_with fail
 go_loopw [7,22] (fun cv iv wr=>∃ k:Nat,k<=ls.length/\iv=.int .i64 k/\Hid (∃ j:Nat,cv=.int .i64 j/\j<=k/\((ls.take k).filter fun x=>x.d.kind == 14).length=j/\Ext w2 wr)) (fun _ iv _=>ls.length - (intOf iv).toNat)
 case atStart=>exact ⟨0,pM _,rfl,⟨0,rfl,pf _,by simp,Ext.refl w2⟩⟩
 case round =>
  obtain ⟨k,hk,rfl,⟨j,rfl,hjk,hal,hx⟩⟩:=hrel;have HA:=hid hal;have HX:=hid hx
  by_cases hlt:k < ls.length
  · obtain ⟨A0,c0,A1,c1,⟨e0,e1,e2,e3,e4,e5,e6,e7,e8⟩,ht⟩:=L2.out wr hx k hlt;have HTK:=hid (zet ls (fun x=>x.d.kind == 14) k hlt);clear ht hal hx e1 e2 e3 e4 e5 e6 e7 e8;generalize ls[k].d.kind=kd at *
    by_cases h14:(kd == 14)=true
    · have HN:Hid (((ls.take (k+1)).filter fun x=>x.d.kind == 14).length=j+1):=by
       have:((ls.take (k+1)).filter fun x=>x.d.kind == 14).length=j+1:=by rw [HTK.out,HA.out,if_pos h14]
       exact this
      go_wp2_with fail
      go_roundw
      case rel=>exact ⟨k+1,by omega,by go_num,⟨j+1,by go_num,by omega,HN.out,HX.out⟩⟩
      case measure=>simp [intOf]; omega
    · have HN:Hid (((ls.take (k+1)).filter fun x=>x.d.kind == 14).length=j):=by
       have:((ls.take (k+1)).filter fun x=>x.d.kind == 14).length=j:=by rw [HTK.out,HA.out,if_neg h14]; simp
       exact this
      have aBW:(kd == 14)=false:=by simpa using h14
      clear h14;go_wp2_with fail
      go_roundw
      case rel=>exact ⟨k+1,by omega,by go_num,⟨j,rfl,by omega,HN.out,HX.out⟩⟩
      case measure=>simp [intOf]; omega
  · have hke:k=ls.length:=by omega
    have HJ:Hid (tif=j):=by
     have:tif=j:=by rw [HF.out,<- HA.out,hke,pw]
     exact this
    clear hal hx;go_wp2_with fail;go_ret;refine ⟨?_,HWX.out.trans (X1.out.trans (X2.out.trans HX.out))⟩;rw [HJ.out];simp
theorem ggf (L:Nat) (f:Fm):∀ t,vdq L f t->f.qv<=t.xG:=by
 have step:∀ {l:List Tr} {t:Tr},t.list=t :: l->t.xG=(if t.d.kind == 14 then 1 else 0)+(l.filter fun x=>x.d.kind == 14).length:=by
  intro l t e;unfold Tr.xG;rw [e,ri]
  split
  · rw [py]; omega
  · omega
 have two:∀ {x y t:Tr},t.list=t :: (x.list ++ y.list)->t.xG=(if t.d.kind == 14 then 1 else 0)+(x.xG+y.xG):=by
  intro x y t e;rw [step e,tz,pz]
  rfl
 refine wes L (fun f t=>f.qv<=t.xG) ?_ ?_ ?_ ?_ ?_ ?_ ?_ ?_ f
 · intro b t _ _ _; exact pM _
 · intro l r k t x y _ _ _ _ _ _ _; exact pM _
 · intro f t x _ e ih; rw [step e]; simp only [Fm.qv]; unfold Tr.xG at ih; omega
 · intro f g t x y _ e ih1 ih2; rw [two e]; simp only [Fm.qv]; omega
 · intro f g t x y _ e ih1 ih2; rw [two e]; simp only [Fm.qv]; omega
 · intro f g t x y _ e ih1 ih2; rw [two e]; simp only [Fm.qv]; omega
 · intro f g t x y hk e ih1 ih2; rw [two e,if_pos (by rw [hk]; rfl)]; simp only [Fm.qv]; omega
 · intro f t x _ e ih; rw [step e]; simp only [Fm.qv]; unfold Tr.xG at ih; omega
theorem ufj:(Tryz.prog.info? 67).map (fun i=>(i.zero,i.size,i.bytes))=some (some (.agg #[.string ByteArray.empty,.bool false,.slice none 0 0,.slice none 0 0]),4,72):=by kernel_rfl
theorem kfm : vee 65 67 4 72 (.agg #[.string ByteArray.empty, .bool false, .slice none 0 0, .slice none 0 0]) where
 und:=Tryz.underlying65
 info:=ufj
 cells:=rfl
 pos:=by omega
 nodig:=by
  intro u hu;simp only [Value.cells] at hu;simp only [pI,rM,or_false] at hu;rcases hu with rfl | rfl | rfl | rfl <;> rfl
abbrev VaR:=(ByteArray × Rat) × Bool × Value × Value
def vaC (r:VaR):List Value:=[.string r.1.1,.bool r.2.1,r.2.2.1,r.2.2.2]
def yeb (rs:List VaR):List Value:=rs.flatMap vaC
theorem ke6 (a b:List VaR):yeb (a ++ b)=yeb a ++ yeb b:=by simp [yeb]
theorem jfs (rs:List VaR) (k:Nat) (hk:k < rs.length) (j:Nat) (hj:j < 4):(yeb rs)[k * 4+j]?=(vaC rs[k])[j]?:=by
 induction rs generalizing k with
 | nil=>simp at hk
 | cons r rs ih =>
   have hl:(vaC r).length=4:=rfl;simp only [yeb,rG];cases k with
   | zero=>simp only [tc,pH,pR]; rw [List.getElem?_append_left (by omega)]
   | succ k =>
     rw [vc (by omega),hl,show (k+1) * 4+j - 4=k * 4+j by omega];exact ih k (by simpa using hk)
def gd4 (base L:Nat) (W:World) (v:Value) (l:List (ByteArray × Rat)):Prop:=
 ∃ rs:List VaR,rs.map (fun r=>r.1)=l/\vdm 67 4 base W v rs.length (yeb rs)/\∀ r ∈ rs,(∃ A1 n1 c1 A2 n2 c2,r.2.2=(.slice A1 n1 c1,.slice A2 n2 c2))/\kdp W (.agg #[.bool r.2.1,r.2.2.1,r.2.2.2]) r.1.2 L
theorem kdp.nat {w w':World} {v:Value} {q:Rat} {L:Nat} (h:kdp w v q L) (hn:∀ v ds,zb1 w v ds->zb1 w' v ds):kdp w' v q L:=by
 obtain ⟨neg,s1,s2,ds,es,e,h1,h2,h3,h4,h5⟩:=h;exact ⟨neg,s1,s2,ds,es,e,hn _ _ h1,hn _ _ h2,h3,h4,h5⟩
section
variable {base L:Nat} {W W':World} {v:Value} {l:List (ByteArray × Rat)}
theorem gd4.nil (base L:Nat) (W:World):gd4 base L W (.slice none 0 0) []:=⟨[],rfl,vdm.nil _ _ _ _,by simp⟩
theorem gd4.ext (h:gd4 base L W v l) (hx:Ext W W'):gd4 base L W' v l:=by
 obtain ⟨rs,e,g,f⟩:=h;exact ⟨rs,e,g.ext hx,fun r hr=>⟨(f r hr).1,(f r hr).2.ext hx⟩⟩
theorem gd4.own (h:gd4 base L W v l) {R:Nat} (hR:v.ownBlock=some R):base<=R/\R < W.heap.size:=by
 obtain ⟨rs,-,g,-⟩:=h;exact g.own hR
theorem gd4.len (h:gd4 base L W v l):∃ A c,v=.slice A l.length c/\l.length<=c/\c<=9223372036854775807:=by
 obtain ⟨rs,rfl,g,-⟩:=h;rw [pC];exact g.len
theorem gd4.push (h:gd4 base L W v l) (adW:base<=W.heap.size) {s:ByteArray} {q:Rat} {bb:Bool} {A1 A2:Option Addr} {n1 c1 n2 c2:Nat} (hx:kdp W (.agg #[.bool bb,.slice A1 n1 c1,.slice A2 n2 c2]) q L) (hlen:l.length+1<=1000000000) (ty:TypeId) :
 ∃ v4 w4,(Builtin.append_ #[65,65] ty #[v,.slice (some ⟨W.heap.size,0,none⟩) 1 1]).run Tryz.prog (W.alloc (.cells #[.string s,.bool bb,.slice A1 n1 c1,.slice A2 n2 c2] 67))=.ok v4 w4/\gd4 base L w4 v4 (l ++ [(s,q)])/\W.grownBy w4 v.ownBlock:=by
 obtain ⟨rs,rfl,g,f⟩:=h;rw [pC] at hlen;obtain ⟨v4,w4,ab3,r1,r2,r3,r4⟩:=g.push kfm adW (vaC ((s,q),bb,.slice A1 n1 c1,.slice A2 n2 c2)) rfl (by
  intro u hu;simp only [vaC,pI,rM,or_false] at hu
  rcases hu with rfl | rfl | rfl | rfl <;> exact ⟨rfl,rfl⟩) (by omega) (by omega) ty
 refine ⟨v4,w4,ab3,⟨rs ++ [((s,q),bb,.slice A1 n1 c1,.slice A2 n2 c2)],by simp,?_,fun r hr=>?_⟩,r2⟩
 · rw [ke6,pz];have:yeb [((s,q),bb,Value.slice A1 n1 c1,Value.slice A2 n2 c2)]=vaC ((s,q),bb,.slice A1 n1 c1,.slice A2 n2 c2):=by simp [yeb]
   rw [this];exact r1
 · rcases rq.1 hr with hr | hr
   · exact ⟨(f r hr).1,(f r hr).2.nat r3⟩
   · rw [rb.1 hr];exact ⟨⟨_,_,_,_,_,_,rfl⟩,hx.nat r3⟩
theorem gd4.jy (h:gd4 base L W v l):VsV W L v l:=by
 obtain ⟨rs,rfl,g,f⟩:=h;obtain ⟨A,c,rfl,h1,h2⟩:=g.len;refine ⟨A,c,by rw [pC],by rw [pC]; exact h1,h2,fun k hk=>?_⟩;rw [pC] at hk;obtain ⟨b,c',e',-,-,hbg,hlt,-⟩:=g.pos (by omega);injection e' with e1 e2 e3
 subst e1 e3;have abZ:∀ j,j < 4->W.cell? ⟨b,k * 4+j,none⟩=(vaC rs[k])[j]?:=by
  intro j hj;rw [g.cell (k * 4+j) (by omega)];exact jfs rs k hk j hj
 obtain ⟨⟨A1,n1,c1,A2,n2,c2,er⟩,hp⟩:=f rs[k] (pt hk);refine ⟨⟨b,0,none⟩,rs[k].2.1,A1,n1,c1,A2,n2,c2,rfl,hlt,?_,?_⟩
 · rw [kdo,pH,rJ];have k2:=abZ 2 (by omega);have k3:=abZ 3 (by omega);simp only [vaC,er,sP,sD] at k2 k3;exact ⟨abZ 0 (by omega),abZ 1 (by omega),k2,k3⟩
 · rw [rJ];rw [er] at hp;exact hp
end
end Go.Proofs.YtheefiaoimbeiaaGreatDoor
