/- Layer 34: what a formula counts as; its canonical tree is its tree. -/
import Derived.Test.YtheefiaoimbeiaaGreatDoorPlain
import Derived.Test.YtheefiaoimbeiaaGreatDoorMp41
set_option linter.unusedSimpArgs false
set_option linter.unusedVariables false

namespace Go.Proofs.YtheefiaoimbeiaaGreatDoor
open Lib (hid)
def Tm.norm : Tm -> Tm
 | .num z=>.num z
 | .name s=>.name s
 | .add a b=>.add a.norm b.norm
 | .sub a b=>.sub a.norm b.norm
 | .mul a b=>.mul a.norm b.norm
 | .neg a=>.neg a.norm
 | .pow a e=>.pow a.norm (wdj e 0)
def Fm.norm : Fm -> Fm
 | .truth b=>.truth b
 | .atom l r k=>.atom l.norm (yd8 r) k.norm
 | .not f=>.not f.norm
 | .and f g=>.and f.norm g.norm
 | .or f g=>.or f.norm g.norm
 | .imp f g=>.imp f.norm g.norm
 | .iff f g=>.iff f.norm g.norm
 | .quant a s f=>.quant a s f.norm
theorem TmV.jr {w:World} {L:Nat} {t:Tm} {v:Value} (h:TmV w L t v):wdq L t.norm t.plain:=by
 induction t generalizing v with
 | num z =>
   obtain ⟨x,e,h⟩:=h;exact ⟨rfl,rfl,by show z=sgn (decide (z < 0)) (val (dg z.natAbs)); rw [zdk,gd2],h.len⟩
 | name s=>exact ⟨rfl,rfl,rfl⟩
 | add a b iha ihb=>obtain ⟨x,y,e,h,k⟩:=h; exact ⟨rfl,_,_,rfl,iha h,ihb k⟩
 | sub a b iha ihb=>obtain ⟨x,y,e,h,k⟩:=h; exact ⟨rfl,_,_,rfl,iha h,ihb k⟩
 | mul a b iha ihb=>obtain ⟨x,y,e,h,k⟩:=h; exact ⟨rfl,_,_,rfl,iha h,ihb k⟩
 | neg a iha=>obtain ⟨x,e,h⟩:=h; exact ⟨rfl,_,rfl,iha h⟩
 | pow a n iha=>obtain ⟨x,e,h⟩:=h; exact ⟨rfl,rfl,by unfold wdj; split <;> omega,_,rfl,iha h⟩
theorem FmV.jA {w:World} {L:Nat} {t:Fm} {v:Value} (h:FmV w L t v):vdq L t.norm t.plain:=by
 induction t generalizing v with
 | truth b=>exact ⟨rfl,rfl,rfl⟩
 | atom l r k=>obtain ⟨x,y,e,h,k⟩:=h; exact ⟨rfl,rfl,by unfold yd8; split <;> omega,by unfold yd8; split <;> omega,_,_,rfl,h.jr,k.jr⟩
 | not f ihf=>obtain ⟨x,e,h⟩:=h; exact ⟨rfl,_,rfl,ihf h⟩
 | and f g ihf ihg=>obtain ⟨x,y,e,h,k⟩:=h; exact ⟨rfl,_,_,rfl,ihf h,ihg k⟩
 | or f g ihf ihg=>obtain ⟨x,y,e,h,k⟩:=h; exact ⟨rfl,_,_,rfl,ihf h,ihg k⟩
 | imp f g ihf ihg=>obtain ⟨x,y,e,h,k⟩:=h; exact ⟨rfl,_,_,rfl,ihf h,ihg k⟩
 | iff f g ihf ihg=>obtain ⟨x,y,e,h,k⟩:=h; exact ⟨rfl,_,_,rfl,ihf h,ihg k⟩
 | quant a s f ihf=>obtain ⟨x,e,h⟩:=h; exact ⟨rfl,rfl,rfl,_,rfl,ihf h⟩
end Go.Proofs.YtheefiaoimbeiaaGreatDoor

set_option maxRecDepth 100000
set_option maxHeartbeats 8000000
namespace Go.Proofs.YtheefiaoimbeiaaGreatDoor
open Lib (hid)
open Go.RowKit Go.Shelf
theorem yfs {w:World} {L:Nat} (hL:L<=35184372088000) (f:Fm) {v:Value} (h:FmV w L f v):Calls Tryz.prog 88 #[v] w fun e w'=>∃ v',e=.returned v'/\FmV w' L f.norm v'/\Ext w w':=by
 have H:=hid h;obtain ⟨T,x,rfl⟩:=h.iface;clear h;go_enter Tryz.func88,Tryz.ntmps88;go_wp2_with fail;refine (qfp hL f _ _ (Ext.refl w) H.out).mono ?_;rintro e w1 ⟨z,rfl,m1,x1⟩;have M1:=hid m1;have X1:=hid x1;obtain ⟨A0,n0,c0,A1,c1,rfl,-⟩:=m1.open_;clear m1 x1;go_wp2_with fail;refine (zfe hL f.norm f.plain H.out.jA _ _ M1.out.jC).mono ?_;rintro e w2 ⟨v2,rfl,f2,x2⟩;have F2:=hid f2;have X2:=hid (X1.out.trans x2);obtain ⟨T2,u2,rfl⟩:=f2.iface;clear f2 x2;go_wp2_with fail;go_ret;exact ⟨_,rfl,F2.out,X2.out⟩
def kfu (L:Nat) (f:Fm) (w:World) (e:Ending) (w':World):Prop:=∃ B v,e=.returned (.func (.func 89) #[] #[.pointer (some ⟨B,0,none⟩)])/\w'.cell? ⟨B,0,none⟩=some v/\B < w'.heap.size/\FmV w' L f v/\Ext w w'
theorem FmV.box {w:World} {L:Nat} {a:Addr} {u:Value} (ha:w.cell? a=some u) (hu:wdo u=false) (u':Value) {t:Fm} {v:Value} (h:FmV w L t v):FmV (w.setCell a u') L t v:=by
 induction t generalizing v with
 | truth b=>exact h
 | atom l r k=>obtain ⟨x,y,e,h,k⟩:=h; exact ⟨x,y,e,h.box ha hu u',k.box ha hu u'⟩
 | not f ihf=>obtain ⟨x,e,h⟩:=h; exact ⟨x,e,ihf h⟩
 | and f g ihf ihg=>obtain ⟨x,y,e,h,k⟩:=h; exact ⟨x,y,e,ihf h,ihg k⟩
 | or f g ihf ihg=>obtain ⟨x,y,e,h,k⟩:=h; exact ⟨x,y,e,ihf h,ihg k⟩
 | imp f g ihf ihg=>obtain ⟨x,y,e,h,k⟩:=h; exact ⟨x,y,e,ihf h,ihg k⟩
 | iff f g ihf ihg=>obtain ⟨x,y,e,h,k⟩:=h; exact ⟨x,y,e,ihf h,ihg k⟩
 | quant a s f ihf=>obtain ⟨x,e,h⟩:=h; exact ⟨x,e,ihf h⟩
theorem ufp {w:World} {L:Nat} (hL:L<=35184372088000) (f:Fm) {v:Value} (h:FmV w L f v):Calls Tryz.prog 51 #[v] w (kfu L f.norm w):=by
 have H:=hid h;obtain ⟨T,x,rfl⟩:=h.iface;clear h;have hX:Ext w (w.alloc (.cells #[.iface T x] 37)):=(Ext.refl w).alloc _;have HXA:=hid hX;have HC:Hid ((w.alloc (.cells #[.iface T x] 37)).cell? ⟨w.heap.size,0,none⟩=some (.iface T x)/\(w.alloc (.cells #[.iface T x] 37)).frozen? ⟨w.heap.size,0,none⟩=false/\w.heap.size < (w.alloc (.cells #[.iface T x] 37)).heap.size):=⟨by simp [go_sem],by simp [go_sem],by simp⟩;clear hX;go_enter Tryz.func51,Tryz.ntmps51;go_wp2_with fail;refine (yfs hL f (H.out.ext HXA.out)).mono ?_;rintro e w1 ⟨v1,rfl,f1,x1⟩;obtain ⟨T1,u1,rfl⟩:=f1.iface;have c1:w1.cell? ⟨w.heap.size,0,none⟩=some (.iface T x):=(x1.cell (p:=⟨w.heap.size,0,none⟩) HC.out.2.2).trans HC.out.1;have c2:w1.frozen? ⟨w.heap.size,0,none⟩=false:=(x1.frozen (p:=⟨w.heap.size,0,none⟩) HC.out.2.2).trans HC.out.2.1
 have HF:Hid (kfu L f.norm w (.returned (.func (.func 89) #[] #[.pointer (some ⟨w.heap.size,0,none⟩)])) (w1.setCell ⟨w.heap.size,0,none⟩ (.iface T1 u1))):=
  ⟨_,_,rfl,World.cell?_setCell_same' _ _ _ (by rw [c1]; rfl),by have:=x1.size; have:=HC.out.2.2; simp; omega,f1.box c1 rfl _,(HXA.out.trans x1).setCell (pf _) _⟩
 clear f1 x1 HC HXA H;go_wp2_with fail;go_ret;exact HF.out
theorem qfa {w:World} {L:Nat} (f:Fm) {v:Value} (hv:FmV w L f v) (B:Nat) (hB:B < w.heap.size) (hc:w.cell? ⟨B,0,none⟩=some v) (hs:f.sz<=4611686018427387904) (n:Nat) :
 SeqStopsK Fence.wide n Tryz.prog 89 #[.pointer (some ⟨B,0,none⟩)] (It.jx (w0:=w) (L:=L)) qdm (fun xs=>xs.map It.f=f.pre) (fun xs=>xs.map It.f <+: f.pre) f.pre.length w:=by
 intro l J Jx W hW hJ hJx hY h0;have aqJ:=wfu l f.pre.length J Jx (fun pre W W' h hx=>hJ pre W W' none h hx.xW (fun r e=>by cases e)) (fun m pre x W1 h1 h2=>YieldAt.xY rfl m (hY pre x W1 h1 h2)) (f.sz+1) f v;have c0:W.cell? ⟨B,0,none⟩=some v:=(hW.cell (p:=⟨B,0,none⟩) hB).trans hc;obtain ⟨T,x,rfl⟩:=hv.iface;have HV:=hid hv;have awE:=hid aqJ;have H0:=hid h0;clear hv aqJ hY hJ hJx h0;have hdd:∀ k:Nat,(Fence.wide.depth.isSome=true->1<=k):=fun k h=>by cases h
 refine callsIn_of_wp Tryz.func89 rfl trivial ?_ rfl;simp only [Tryz.ntmps89,List.size_toArray,py,pQ,Nat.reduceAdd,Nat.reduceSub,Array.replicate_succ,Array.replicate_zero,List.push_toArray,List.append_toArray,uj,rj]
 gi_wp2_with fail
 refine ⟨trivial,hdd _,?_⟩;refine (awE.out _ 0 [] W (pO _) HV.out H0.out (by simp) (by omega) (by omega)).mono ?_;rintro e W1 (⟨rfl,q,hq,hJ1,-⟩ | ⟨rfl,q,hq,hx1⟩)
 · have HQ:=hid hq;have HJ1:=hid hJ1;clear hq hJ1
   gi_wp2_with fail
   go_end0
   exact ⟨⟨_,rfl⟩,.inl ⟨q,HQ.out,HJ1.out⟩⟩
 · have HQ:=hid hq;have HX1:=hid hx1;clear hq hx1
   gi_wp2_with fail
   go_end0
   exact ⟨⟨_,rfl⟩,.inr ⟨q,HQ.out,HX1.out⟩⟩
attribute [local go_sem] Oper.semAt_some
attribute [local go_sem] uds ydr qdt kds zdt wds vds ydp xdr gds xdt udv qdn ydt xdp
def Fm.bad : Fm -> Bool
 | .atom l _ k=>l.qP || k.qP
 | _=>false
def zdz (f:Fm) (vals:List (ByteArray × Rat)):Bool × Int:=
 if 0 < f.bound.length then (false,9) else if ydl (gdm vals) f.free=false then (false,7) else if f.pre.any Fm.bad then (false,8) else (f.tv (gdm vals),0)
def ue0 (r:Bool × Int) (w:World) (e:Ending) (w':World):Prop:=e=.returned (.tuple #[.bool r.1,.int .i64 r.2])/\Ext w w'
theorem VsV.rlen {w:World} {L:Nat} {v:Value} {l:List (ByteArray × Rat)} (h:VsV w L v l) (hL:1<=L):∀ s q,gdm l s=some q->rlen q<=L:=by
 obtain ⟨A,c,-,-,-,h3⟩:=h;have key:∀ x ∈ l,Go.Proofs.YtheefiaoimbeiaaGreatDoor.rlen x.2<=L:=fun x hx=>by
  obtain ⟨j,hj,rfl⟩:=List.getElem_of_mem hx;obtain ⟨ad,bb,A1,n1,c1,A2,n2,c2,-,-,-,hr⟩:=h3 j hj;exact hr.zP hL
 clear h3
 induction l with
 | nil=>intro s q h; cases h
 | cons x r ih =>
   intro s q h;obtain ⟨k,q'⟩:=x;unfold gdm at h
   by_cases hs:s=k
   · rw [if_pos hs] at h;injection h with h
     rw [<- h];exact key (k,q') rB
   · rw [if_neg hs] at h;exact ih (fun y hy=>key y (rk _ hy)) s q h
theorem KeepsOthers.qo {W W':World} (h:Ext W W'):KeepsOthers W W':=KeepsOthers.of_grownBy h.xW (fun j o e=>by cases e)
def Fm.jw : Fm -> Bool
 | .atom _ _ _=>true
 | _=>false
theorem FmV.yL {w:World} {L:Nat} {t:Fm} {v:Value} (h:FmV w L t v) (hn:t.jw=false):∃ T x,v=.iface T x/\¬ T=77:=by
 cases t <;> (simp only [FmV] at h) <;> first | (cases hn; done) | exact ⟨_,_,h,by decide⟩ | (obtain ⟨_,e,_⟩:=h; exact ⟨_,_,e,by decide⟩) | (obtain ⟨_,_,e,_⟩:=h; exact ⟨_,_,e,by decide⟩)
def xeu {w0:World} {L:Nat} (w w5:World) (cc:Code) (pre:List (It w0 L)) (W:World):Prop:=
 cc=.ret/\(∃ y ∈ pre,y.f.bad=true)/\Ext w W/\w5.heap.size<=W.heap.size/\W.heap[w.heap.size]?=some (.cells #[.bool false] 4 (0,0))/\W.heap[w.heap.size+1]?=some (.cells #[.int .i64 8] 38 (0,0))
theorem xeu.own {w0:World} {L:Nat} {w w5:World} (cc:Code) (h:w.heap.size+1 < w5.heap.size):OwnFrom w5.heap.size (fun (pre:List (It w0 L)) W=>xeu w w5 cc pre W):=by
 rintro s W W' row ⟨h1,h2,h3,h4,h5,h6⟩ hg hr;refine ⟨h1,h2,h3.grown hg (fun k e=>by have:=(hr k e).1; omega),po h4 hg.size,?_,?_⟩
 · rw [hg.block _ (by omega) (fun e=>by have:=(hr _ e.symm).1; omega)]; exact h5
 · rw [hg.block _ (by omega) (fun e=>by have:=(hr _ e.symm).1; omega)]; exact h6
theorem qee {w : World} {L : Nat} (hL1 : 1 <= L) (hL : L <= 1000000000) (f : Fm) {v s : Value} {vals : List (ByteArray × Rat)} (h : FmV w L f v) (hvs : VsV w L s vals) (hn : f.norm = f) (hsz : f.sz <= 1000000000)
 (anX:f.bound.length=0->ydl (gdm vals) f.free=true->f.pre.any Fm.bad=false->f.xt (gdm vals) L) :
 Calls Tryz.prog 18 #[v,s] w (ue0 (zdz f vals) w):=by
 have H:=hid h;have HVS:=hid hvs;have HN:=hid hn;have atn:=hid anX;obtain ⟨T,x,rfl⟩:=h.iface;obtain ⟨A,c,rfl,-⟩:=hvs;clear h hn anX;have hdd:∀ k:Nat,(Fence.wide.depth.isSome=true->1<=k):=fun k h=>by cases h
 refine (callsIn_wide (n:=5)).1 ?_;refine callsIn_of_wp_marks Tryz.func18 rfl trivial ?_ rfl;simp only [Tryz.ntmps18,List.size_toArray,py,pQ,Nat.reduceAdd,Nat.reduceSub,Array.replicate_succ,Array.replicate_zero,List.push_toArray,List.append_toArray,uj,rj]
 gi_wp2_with fail
 obtain ⟨W,hW⟩:=n_m ((w.alloc (.cells #[.bool false] 4)).alloc (.cells #[.int .i64 0] 38));have hWx:Ext w W:=by rw [<- hW]; exact ((Ext.refl w).alloc _).alloc _
 have hWs:W.heap.size=w.heap.size+1+1:=by rw [<- hW]; simp
 have hb0:W.heap[w.heap.size]?=some (.cells #[.bool false] 4 (0,0)):=by
  rw [<- hW,Below.heap_alloc _ _ _ (by simp)]; exact heap_alloc_new w _
 have hb1:W.heap[w.heap.size+1]?=some (.cells #[.int .i64 0] 38 (0,0)):=by
  rw [<- hW];have:=heap_alloc_new (w.alloc (.cells #[.bool false] 4)) (.cells #[.int .i64 0] 38)
  rwa [pU] at this
 rw [hW];clear hW;refine ⟨trivial,?_⟩;refine (callsIn_wide.2 (yel (w0:=w) f H.out (by omega))).mono ?_;rintro e w1 ⟨s1,rfl,hr1,x1⟩;obtain ⟨A1,c1,rfl⟩:=hr1.yC.len;have X1:=hid (hWx.trans x1);have hs1:=x1.size;have B0:=hid ((x1.below.block _ (by omega)).trans hb0);have B1:=hid ((x1.below.block _ (by omega)).trans hb1);clear hr1 x1 hb0 hb1 hWx
 by_cases hbd:0 < f.bound.length
 · have c0:=cell_of_one B0.out;have c1':=cell_of_one B1.out;have f0:=free_of_one B0.out;have f1:=free_of_one B1.out;have HR:Hid (zdz f vals=(false,9)):=by
    have:zdz f vals=(false,9):=if_pos hbd;exact this
   gi_wp2_with fail
   exact ⟨.tuple #[.bool false,.int .i64 9],by simp [results,Tryz.results18,go_sem,c0,c1'],by rw [HR.out],(X1.out.setCell (pf _) _).setCell (rY _) _⟩
 · have HB0:Hid (f.bound.length=0):=by
    have:f.bound.length=0:=by omega
    exact this
   gi_wp2_with fail
   refine ⟨trivial,?_⟩;refine (callsIn_wide.2 (first_any (HVS.out.ext X1.out))).mono ?_;rintro e w2 ⟨b,rfl,hm2,x2⟩;have M2:=hid hm2;have X2:=hid (X1.out.trans x2);have hs2:=x2.size;have B02:=hid ((x2.below.block _ (by omega)).trans B0.out);have B12:=hid ((x2.below.block _ (by omega)).trans B1.out);clear hm2 x2 B0 B1
   gi_wp2_with fail
   refine ⟨trivial,?_⟩;refine (callsIn_wide.2 (yeq f H.out (by omega))).mono ?_;rintro e w3 ⟨s3,rfl,hr3,x3⟩;obtain ⟨A3,c3,rfl⟩:=hr3.yC.len;have R3:=hid hr3.yC;have M3:=hid (M2.out.ext x3);have X3:=hid (X2.out.trans x3);have hs3:=x3.size;have B03:=hid ((x3.below.block _ (by omega)).trans B02.out);have B13:=hid ((x3.below.block _ (by omega)).trans B12.out);clear hr3 x3 B02 B12 M2 X1 X2
   gi_wp2_with fail
   refine ⟨trivial,?_⟩;refine (callsIn_wide.2 (yfl M3.out R3.out)).mono ?_;rintro e w4 ⟨rfl,x4⟩;have M4:=hid (M3.out.ext x4);have X4:=hid (X3.out.trans x4);have hs4:=x4.size;have B04:=hid ((x4.below.block _ (by omega)).trans B03.out);have B14:=hid ((x4.below.block _ (by omega)).trans B13.out);clear x4 B03 B13 M3 X3 R3
   by_cases hcv:ydl (gdm vals) f.free=false
   · rw [hcv];have c0:=cell_of_one B04.out;have c1':=cell_of_one B14.out;have f0:=free_of_one B04.out;have f1:=free_of_one B14.out;have HR:Hid (zdz f vals=(false,7)):=by
      have:zdz f vals=(false,7):=by unfold zdz; rw [if_neg hbd,if_pos hcv]
      exact this
     clear hcv
     gi_wp2_with fail
     exact ⟨.tuple #[.bool false,.int .i64 7],by simp [results,Tryz.results18,go_sem,c0,c1'],by rw [HR.out],(X4.out.setCell (pf _) _).setCell (rY _) _⟩
   · have alO:ydl (gdm vals) f.free=true:=by simpa using hcv
     rw [alO];have HCV:=hid alO;clear hcv alO
     gi_wp2_with fail
     refine ⟨trivial,?_⟩;refine (callsIn_wide.2 (ufp (by omega) f (H.out.ext X4.out))).mono ?_;rintro e w5 ⟨B5,v5,rfl,hc5,hB5,hf5,x5⟩;rw [HN.out] at hf5;have M5:=hid (M4.out.ext x5);have X5:=hid (X4.out.trans x5);have hs5:=x5.size;have B05:=hid ((x5.below.block _ (by omega)).trans B04.out);have B15:=hid ((x5.below.block _ (by omega)).trans B14.out);have awL:=hid (fun n=>qfa f hf5 B5 hB5 hc5 (by omega) n);clear x5 B04 B14 M4 X4 hc5 hB5 hf5
     gi_wp2_with fail
     refine wpIn_rangeFunc_ownF rfl (by omega) (gf := 89) (lb := #[.pointer (some ⟨B5, 0, none⟩)]) rfl trivial (enters_of Tryz.func89 (by kernel_rfl) rfl) (awL.out _) qdm.trans (fun W l o o' _ h1 h2 _ => qdm.putObj W l o o' h1 h2) (Below.refl _ _) (fun _ => rfl)
      (fun pre W=>Ext w5 W/\∀ y ∈ pre,y.f.bad=false) (fun cc pre W=>xeu w w5 cc pre W)
      (fun s W W' row hs hg hr=>⟨hs.1.grown hg (fun k e=>(hr k e).1),hs.2⟩) (fun cc=>xeu.own cc (by omega)) ⟨Ext.refl _,fun y hy=>by cases hy⟩
      (fun y=>{ tmps:=#[.iface T x,.slice A vals.length c,undef,undef,.pointer (some ⟨w.heap.size,0,none⟩),.pointer (some ⟨w.heap.size+1,0,none⟩),.map (some b),undef,y.v,undef,undef,.iface T x,.slice A1 f.bound.length c1,.int .i64 f.bound.length,.bool false,.slice A vals.length c,.map (some b),.map (some b),.iface T x,.slice A3 f.free.length c3,.bool true,.bool false,.iface T x,.func (.func 89) #[] #[.pointer (some ⟨B5,0,none⟩)],.int .i64 y.depth,y.v,undef,undef,undef,undef,undef,undef,undef,undef,undef,undef,undef,undef,undef,undef,undef,undef,undef,undef,undef],defers:=[] }) ?assign ?body ?done ?stop
     case assign =>
      intro l y W K hK;simp only [It.jx]
      gi_wp2
      exact hK
     case body =>
      rintro l pre y W ⟨hxW,alQ⟩ hlen;have hyv:=y.h;have agt:=hid alQ;have HXW:=hid hxW;clear alQ hxW hlen;obtain ⟨dep,fy,vy,hfy⟩:=y;dsimp only at hyv ⊢;have HYV:=hid hyv;clear hyv;cases fy with
      | atom la ra ka =>
        obtain ⟨xl,xk,rfl,hxl,hxk⟩:=HYV.out;have HXL:=hid hxl;have HXK:=hid hxk;obtain ⟨TL,xl,rfl⟩:=hxl.iface;obtain ⟨TK,xk,rfl⟩:=hxk.iface;clear hxl hxk;obtain ⟨Wb,hWb⟩:=n_m (W.alloc (.cells #[.iface TL xl,.int .i64 ra,.iface TK xk] 77));have hxb:Ext W Wb:=by rw [<- hWb]; exact (Ext.refl W).alloc _
        have hsb:W.heap.size < Wb.heap.size:=by rw [<- hWb]; simp
        have d0:Wb.cell? ⟨W.heap.size,0,none⟩=some (.iface TL xl):=by rw [<- hWb]; simp [go_sem]
        have D2:Hid (Wb.cell? ⟨W.heap.size,2,none⟩=some (.iface TK xk)):=by
         have:Wb.cell? ⟨W.heap.size,2,none⟩=some (.iface TK xk):=by rw [<- hWb]; simp [go_sem]
         exact this
        have HL:=hid (xek (w0:=w5) (by omega) la (HXW.out.trans hxb) HXL.out);have HXB:=hid hxb;clear hxb
        by_cases hl:la.qP=true
        · rw [hl] at HL;have amf:Hid ((Fm.atom la ra ka).bad=true):=by
           have:(Fm.atom la ra ka).bad=true:=by simp [Fm.bad,hl]
           exact this
          clear hl
          gi_wp2_with fail
          refine ⟨trivial,?_⟩;refine (CallsIn.inRound l (callsIn_wide.2 HL.out)).mono ?_;rintro e W6 ⟨rfl,x6⟩;have X6:=hid (HXB.out.trans x6);clear x6 d0 hWb HL;have Q0:Hid (W6.heap[w.heap.size]?=some (.cells #[.bool false] 4 (0,0))):=((HXW.out.trans X6.out).below.block _ (by omega)).trans B05.out;have Q1:Hid (W6.heap[w.heap.size+1]?=some (.cells #[.int .i64 0] 38 (0,0))):=((HXW.out.trans X6.out).below.block _ (by omega)).trans B15.out;have c0:=cell_of_one Q0.out;have c1':=cell_of_one Q1.out;have f0:=free_of_one Q0.out;have f1:=free_of_one Q1.out
          gi_wp2_with fail
          refine ⟨trivial,?_⟩
          gi_wp2_with fail
          refine ⟨(KeepsOthers.qo X6.out).trans ((KeepsOthers.setCell _ _ _).trans (KeepsOthers.setCell _ _ _)),rfl,⟨⟨dep,.atom la ra ka,_,hfy⟩,tC _ rB,amf.out⟩,?_,?_,?_,?_⟩
          · exact ((X5.out.trans (HXW.out.trans X6.out)).setCell (pf _) _).setCell (rY _) _
          · have:=X6.out.size; have:=HXW.out.size; simp; omega
          · rw [Below.heap_setCell _ _ _ _ (by simp)]; exact one_setCell Q0.out
          · exact one_setCell ((Below.heap_setCell _ _ _ _ (by simp)).trans Q1.out)
        · have hl':la.qP=false:=by simpa using hl
          rw [hl'] at HL
          by_cases hk:ka.qP=true
          · have amf:Hid ((Fm.atom la ra ka).bad=true):=by
             have:(Fm.atom la ra ka).bad=true:=by simp [Fm.bad,hk]
             exact this
            clear hl hl'
            gi_wp2_with fail
            refine ⟨trivial,?_⟩;refine (CallsIn.inRound l (callsIn_wide.2 HL.out)).mono ?_;rintro e W6 ⟨rfl,x6⟩;have d2:W6.cell? ⟨W.heap.size,2,none⟩=some (.iface TK xk):=(x6.cell (p:=⟨W.heap.size,2,none⟩) hsb).trans D2.out;have X6:=hid (HXB.out.trans x6);have HKL:=hid (xek (w0:=w5) (by omega) ka (HXW.out.trans X6.out) HXK.out);rw [hk] at HKL;clear x6 d0 hWb HL hk
            gi_wp2_with fail
            refine ⟨trivial,?_⟩;refine (CallsIn.inRound l (callsIn_wide.2 HKL.out)).mono ?_;rintro e W7 ⟨rfl,x7⟩;have X7:=hid (X6.out.trans x7);clear x7 d2 HKL;have Q0:Hid (W7.heap[w.heap.size]?=some (.cells #[.bool false] 4 (0,0))):=((HXW.out.trans X7.out).below.block _ (by omega)).trans B05.out;have Q1:Hid (W7.heap[w.heap.size+1]?=some (.cells #[.int .i64 0] 38 (0,0))):=((HXW.out.trans X7.out).below.block _ (by omega)).trans B15.out;have c0:=cell_of_one Q0.out;have c1':=cell_of_one Q1.out;have f0:=free_of_one Q0.out;have f1:=free_of_one Q1.out
            gi_wp2_with fail
            refine ⟨(KeepsOthers.qo X7.out).trans ((KeepsOthers.setCell _ _ _).trans (KeepsOthers.setCell _ _ _)),rfl,⟨⟨dep,.atom la ra ka,_,hfy⟩,tC _ rB,amf.out⟩,?_,?_,?_,?_⟩
            · exact ((X5.out.trans (HXW.out.trans X7.out)).setCell (pf _) _).setCell (rY _) _
            · have:=X7.out.size; have:=HXW.out.size; simp; omega
            · rw [Below.heap_setCell _ _ _ _ (by simp)]; exact one_setCell Q0.out
            · exact one_setCell ((Below.heap_setCell _ _ _ _ (by simp)).trans Q1.out)
          · have hk':ka.qP=false:=by simpa using hk
            have amc:Hid ((Fm.atom la ra ka).bad=false):=by
             have:(Fm.atom la ra ka).bad=false:=by simp [Fm.bad,hl',hk']
             exact this
            clear hl hl'
            gi_wp2_with fail
            refine ⟨trivial,?_⟩;refine (CallsIn.inRound l (callsIn_wide.2 HL.out)).mono ?_;rintro e W6 ⟨rfl,x6⟩;have d2:W6.cell? ⟨W.heap.size,2,none⟩=some (.iface TK xk):=(x6.cell (p:=⟨W.heap.size,2,none⟩) hsb).trans D2.out;have X6:=hid (HXB.out.trans x6);have HKL:=hid (xek (w0:=w5) (by omega) ka (HXW.out.trans X6.out) HXK.out);rw [hk'] at HKL;clear x6 d0 hWb HL hk hk'
            gi_wp2_with fail
            refine ⟨trivial,?_⟩;refine (CallsIn.inRound l (callsIn_wide.2 HKL.out)).mono ?_;rintro e W7 ⟨rfl,x7⟩;have X7:=hid (X6.out.trans x7);clear x7 d2 HKL
            gi_wp2_with fail
            refine ⟨KeepsOthers.qo X7.out,qdm.qo X7.out,HXW.out.trans X7.out,fun z hz=>?_⟩;rcases rq.1 hz with hz | hz
            · exact agt.out z hz
            · rw [rb.1 hz]; exact amc.out
      | _ =>
        obtain ⟨TY,xy,e1,hT⟩:=HYV.out.yL rfl;subst e1
        gi_wp2_with fail
        refine ⟨trivial,?_⟩
        gi_wp2_with fail
        all_goals first
          | (exfalso; rename_i h1 h2; exact absurd h1 (by unfold undef; simp))
          | skip
        refine ⟨trivial,?_⟩
        gi_wp2_with fail
        refine ⟨KeepsOthers.alloc _ _,qdm.qo ((Ext.refl W).alloc _),HXW.out.alloc _,fun z hz=>?_⟩;rcases rq.1 hz with hz | hz
        · exact agt.out z hz
        · rw [rb.1 hz]; rfl
     case done =>
      rintro D xs W hD hxs ⟨hxW,alQ⟩ hK;have alJ:f.pre.any Fm.bad=false:=by
       rw [<- hxs,List.any_map,List.any_eq_false];intro y hy;simp only [Function.comp_apply];rw [alQ y hy]; simp
      have HR:Hid (zdz f vals=(f.tv (gdm vals),0)):=by
       have:zdz f vals=(f.tv (gdm vals),0):=by unfold zdz; rw [if_neg (by have:=HB0.out; omega),if_neg (by rw [HCV.out]; simp),if_neg (by rw [alJ]; simp)]
       exact this
      have HF:=hid (jfb (M5.out.ext hxW) hL1 (HVS.out.rlen hL1) f (atn.out HB0.out HCV.out alJ) _ W (Ext.refl W) (H.out.ext (X5.out.trans hxW)));have HXW:=hid hxW;have HKD:=hid hK;have hWD:=(rA.1 hK).1;clear alJ alQ hxs hxW hK
      gi_wp2_with fail
      refine ⟨trivial,?_⟩;refine (callsIn_wide.2 HF.out).mono ?_;rintro e W6 ⟨rfl,x6⟩;have X6:=hid (HXW.out.trans x6);have hs6:=X6.out.size;have Q0:Hid (W6.heap[w.heap.size]?=some (.cells #[.bool false] 4 (0,0))):=(X6.out.below.block _ (by omega)).trans B05.out;have Q1:Hid (W6.heap[w.heap.size+1]?=some (.cells #[.int .i64 0] 38 (0,0))):=(X6.out.below.block _ (by omega)).trans B15.out;have hD6:W6.heap[D]?=some (.deferred (some [])):=(x6.below.block _ hWD).trans HKD.out;have HD6:=hid hD6;have c0:=cell_of_one Q0.out;have c1':=cell_of_one Q1.out;have f0:=free_of_one Q0.out;have f1:=free_of_one Q1.out;clear x6 hD6 HF HKD
      gi_wp2_with fail
      have hD7:((W6.setCell ⟨w.heap.size,0,none⟩ (.bool (f.tv (gdm vals)))).setCell ⟨w.heap.size+1,0,none⟩ (.int .i64 0)).heap[D]?=some (.deferred (some [])):=by
       rw [Below.heap_setCell _ _ _ _ (by simp; omega),Below.heap_setCell _ _ _ _ (by simp; omega)]; exact HD6.out
      refine ⟨by simp,.inl ⟨_,_,rfl,run_takeDeferred hD7,?_⟩⟩;have hx7:Ext w ((W6.setCell ⟨w.heap.size,0,none⟩ (.bool (f.tv (gdm vals)))).setCell ⟨w.heap.size+1,0,none⟩ (.int .i64 0)):=((X5.out.trans X6.out).setCell (pf _) _).setCell (rY _) _;have k0:(((W6.setCell ⟨w.heap.size,0,none⟩ (.bool (f.tv (gdm vals)))).setCell ⟨w.heap.size+1,0,none⟩ (.int .i64 0)).putObj D (.deferred none)).cell? ⟨w.heap.size,0,none⟩=some (.bool (f.tv (gdm vals))):=by
       rw [ph (World.putObj_heap_other (by simp; omega))];exact cell_of_one ((Below.heap_setCell _ _ _ _ (by simp)).trans (one_setCell Q0.out))
      have k1:(((W6.setCell ⟨w.heap.size,0,none⟩ (.bool (f.tv (gdm vals)))).setCell ⟨w.heap.size+1,0,none⟩ (.int .i64 0)).putObj D (.deferred none)).cell? ⟨w.heap.size+1,0,none⟩=some (.int .i64 0):=by
       rw [ph (World.putObj_heap_other (by simp; omega))];exact cell_of_one (one_setCell ((Below.heap_setCell _ _ _ _ (by simp)).trans Q1.out))
      exact ⟨.tuple #[.bool (f.tv (gdm vals)),.int .i64 0],by simp [results,Tryz.results18,go_sem,k0,k1],by rw [HR.out],hx7.grown (grownBy_putObj' _ D _) (fun k e=>by injection e with e; omega)⟩
     case stop =>
      rintro D cc pre W hD hxs ⟨rfl,hy,hxw,auY,q0,q1⟩ hK;have HR:Hid (zdz f vals=(false,8)):=by
       have av8:f.pre.any Fm.bad=true:=by
        obtain ⟨r,hr⟩:=hxs;obtain ⟨y,hy,hb⟩:=hy;rw [<- hr,uq,List.any_map,Bool.or_eq_true];exact .inl (List.any_eq_true.2 ⟨y,hy,hb⟩)
       have:zdz f vals=(false,8):=by unfold zdz; rw [if_neg (by have:=HB0.out; omega),if_neg (by rw [HCV.out]; simp),if_pos av8]
       exact this
      have HKD:=hid hK;have HXW:=hid hxw;have Q0:=hid q0;have Q1:=hid q1;have hWD:=(rA.1 hK).1;clear hy hxs hxw q0 q1 hK
      gi_wp2_with fail
      refine ⟨by simp,.inl ⟨_,_,rfl,run_takeDeferred HKD.out,?_⟩⟩;have k0:(W.putObj D (.deferred none)).cell? ⟨w.heap.size,0,none⟩=some (.bool false):=by
       rw [ph (World.putObj_heap_other (by simp; omega))]; exact cell_of_one Q0.out
      have k1:(W.putObj D (.deferred none)).cell? ⟨w.heap.size+1,0,none⟩=some (.int .i64 8):=by
       rw [ph (World.putObj_heap_other (by simp; omega))]; exact cell_of_one Q1.out
      exact ⟨.tuple #[.bool false,.int .i64 8],by simp [results,Tryz.results18,go_sem,k0,k1],by rw [HR.out],HXW.out.grown (grownBy_putObj' _ D _) (fun k e=>by injection e with e; omega)⟩
end Go.Proofs.YtheefiaoimbeiaaGreatDoor

namespace Go.Proofs.YtheefiaoimbeiaaGreatDoor
open Lib (hid)
open Go.RowKit
section
variable {L:Nat} {p:Nat->Prop} {s:Value} {vals:List (ByteArray × Rat)}
end
def Tm.qM : Tm -> List ByteArray
 | .num _=>[]
 | .name s=>[s]
 | .add a b=>a.qM ++ b.qM
 | .sub a b=>a.qM ++ b.qM
 | .mul a b=>a.qM ++ b.qM
 | .neg a=>a.qM
 | .pow a _=>a.qM
theorem udl (g:ByteArray->Option Rat) (a b:List ByteArray):ydl g (a ++ b)=(ydl g a && ydl g b):=by unfold ydl; rw [ur]
theorem Tm.qU (g:ByteArray->Option Rat) (m:Tm):ydl g m.qM=true ↔ m.covered g:=by
 induction m with
 | num z=>simp [Tm.qM,Tm.covered,ydl]
 | name s=>simp [Tm.qM,Tm.covered,ydl]
 | add a b iha ihb=>simp only [Tm.qM,Tm.covered,udl,pj,iha,ihb]
 | sub a b iha ihb=>simp only [Tm.qM,Tm.covered,udl,pj,iha,ihb]
 | mul a b iha ihb=>simp only [Tm.qM,Tm.covered,udl,pj,iha,ihb]
 | neg a iha=>exact iha
 | pow a e iha=>exact iha
theorem zgg (l:List ByteArray) (s:ByteArray) (h:has l s=true):s ∈ l:=by
 unfold has at h;simpa using h
theorem xew (g:ByteArray->Option Rat) (a:ByteArray->Int) (s:ByteArray) (ha:a s=0) (l:List ByteArray):ydl g (vdl a s l)=(ydl g l && (g s).isSome):=by
 unfold vdl
 by_cases h:has l s=false
 · rw [if_pos ⟨ha,h⟩,udl]; simp [ydl]
 · rw [if_neg (fun e=>h e.2)];have hm:=zgg l s (by simpa using h);cases hg:(g s).isSome with
   | true=>simp
   | false =>
     have:ydl g l=false:=tn.2 ⟨s,hm,by rw [hg]; simp⟩;simp [this]
theorem Tm.xb (g:ByteArray->Option Rat) (a:ByteArray->Int) (ha:∀ s,a s=0) (m:Tm):∀ l,ydl g (m.fold (vdl a) l)=(ydl g l && ydl g m.qM):=by
 induction m with
 | num z=>intro l; simp [Tm.fold,Tm.qM,ydl]
 | name s=>intro l; rw [Tm.fold,xew g a s (ha s)]; simp [Tm.qM,ydl]
 | add x y ihx ihy=>intro l; rw [Tm.fold,ihy,ihx,Tm.qM,udl,sS]
 | sub x y ihx ihy=>intro l; rw [Tm.fold,ihy,ihx,Tm.qM,udl,sS]
 | mul x y ihx ihy=>intro l; rw [Tm.fold,ihy,ihx,Tm.qM,udl,sS]
 | neg x ihx=>intro l; rw [Tm.fold,ihx,Tm.qM]
 | pow x e ihx=>intro l; rw [Tm.fold,ihx,Tm.qM]
theorem wel {n:Int} (h:xdm n<=320):n<=320/\xdm n=n:=by unfold xdm at *; split at h <;> rename_i hh <;> simp [hh] <;> omega
theorem Tm.ju (L:Nat) (m:Tm) (h:m.wt<=320):(m.bt L:Int)<=(L+1) * (m.sz * m.wt):=by
 have mono:∀ (a b c d:Int),0<=a->a<=c->0<=b->b<=d->a * b<=c * d:=fun a b c d h1 h2 h3 h4=>tQ h2 h4 h3 (by omega)
 have pos:∀ m:Tm,1<=(m.sz:Int):=by intro m; cases m <;> simp only [Tm.sz] <;> omega
 have asy:∀ a b:Tm,xdm (wdj a.wt b.wt+1)<=320->(a.wt<=320->(a.bt L:Int)<=(L+1) * (a.sz * a.wt))->(b.wt<=320->(b.bt L:Int)<=(L+1) * (b.sz * b.wt))->((a.bt L+b.bt L+1:Nat):Int)<=(L+1) * ((a.sz+b.sz+1:Nat) * xdm (wdj a.wt b.wt+1)):=by
  intro a b h iha ihb;obtain ⟨h1,h2⟩:=wel h;rw [h2];have hm:a.wt<=wdj a.wt b.wt/\b.wt<=wdj a.wt b.wt:=by unfold wdj; split <;> omega
  have ha:=iha (by omega);have hb:=ihb (by omega);have wa:=a.qx;have wb:=b.qx;have e1:(a.sz:Int) * a.wt<=a.sz * (wdj a.wt b.wt+1):=pZ (by omega) (by omega);have e2:(b.sz:Int) * b.wt<=b.sz * (wdj a.wt b.wt+1):=pZ (by omega) (by omega);have e3:((a.sz+b.sz+1:Nat):Int) * (wdj a.wt b.wt+1)=a.sz * (wdj a.wt b.wt+1)+b.sz * (wdj a.wt b.wt+1)+(wdj a.wt b.wt+1):=by
   rw [sW,sW,Int.add_mul,Int.add_mul]; simp
  rw [e3];have e4:((L:Int)+1) * (a.sz * a.wt)+(L+1) * (b.sz * b.wt)+(L+1)<=(L+1) * (a.sz * (wdj a.wt b.wt+1)+b.sz * (wdj a.wt b.wt+1)+(wdj a.wt b.wt+1)):=by
   have:((L:Int)+1) * (a.sz * a.wt)+(L+1) * (b.sz * b.wt)+(L+1)=(L+1) * (a.sz * a.wt+b.sz * b.wt+1):=by rw [Int.mul_add,Int.mul_add,Int.mul_one]
   rw [this];exact pZ (by omega) (by omega)
  simp only [sW,Int.natCast_one];omega
 induction m with
 | num z =>
   have hw:=(Tm.num z).qx;simp only [Tm.bt,Tm.sz];have:((L:Int)+1) * 1<=(L+1) * ((1:Nat) * (Tm.num z).wt):=pZ (by simp; omega) (by omega);omega
 | name s=>simp only [Tm.bt,Tm.sz,Tm.wt]; simp; omega
 | add a b iha ihb=>exact asy a b h iha ihb
 | sub a b iha ihb=>exact asy a b h iha ihb
 | mul a b iha ihb =>
   simp only [Tm.wt] at h ⊢;obtain ⟨h1,h2⟩:=wel h;rw [h2];have wa:=a.qx;have wb:=b.qx;have ha:=iha (by omega);have hb:=ihb (by omega);simp only [Tm.bt,Tm.sz];have e1:(a.sz:Int) * a.wt<=a.sz * (a.wt+b.wt):=pZ (by omega) (by omega);have e2:(b.sz:Int) * b.wt<=b.sz * (a.wt+b.wt):=pZ (by omega) (by omega);have e3:((a.sz+b.sz+1:Nat):Int) * (a.wt+b.wt)=a.sz * (a.wt+b.wt)+b.sz * (a.wt+b.wt)+(a.wt+b.wt):=by
    rw [sW,sW,Int.add_mul,Int.add_mul]; simp
   rw [e3];have e4:((L:Int)+1) * (a.sz * a.wt)+(L+1) * (b.sz * b.wt)<=(L+1) * (a.sz * (a.wt+b.wt)+b.sz * (a.wt+b.wt)+(a.wt+b.wt)):=by
    rw [<- Int.mul_add];exact pZ (by omega) (by omega)
   simp only [sW];omega
 | neg a iha =>
   have ha:=iha h;have wa:=a.qx;simp only [Tm.bt,Tm.sz,Tm.wt];have e1:(a.sz:Int) * a.wt<=((a.sz+1:Nat):Int) * a.wt:=sM (by omega) (by omega);have e2:((L:Int)+1) * (a.sz * a.wt)<=(L+1) * (((a.sz+1:Nat):Int) * a.wt):=pZ e1 (by omega);omega
 | pow a e iha =>
   have wa:=a.qx;have hb1:=Int.natCast_nonneg (a.bt L);simp only [Tm.wt] at h ⊢;have hx:1<=wdj e 1:=by unfold wdj; split <;> omega
   obtain ⟨hp,hw⟩:wdj e 1 * a.wt=kdx (wdj e 1) a.wt/\a.wt<=320:=by
    have hpI:kdx (wdj e 1) a.wt=xdm (xdm (wdj e 1) * xdm a.wt):=rfl;rw [hpI] at h ⊢;obtain ⟨q1,q2⟩:=wel h;have c1:=(kdy hx).1;have c2:xdm a.wt=a.wt:=by unfold xdm; rw [if_pos (by omega)]
    rw [c2] at q1 q2 ⊢;have k1:xdm (wdj e 1) * 1<=xdm (wdj e 1) * a.wt:=pZ (by omega) (by omega);have k2:1 * a.wt<=xdm (wdj e 1) * a.wt:=sM (by omega) (by omega);have c3:=(wel (n:=wdj e 1) (by omega)).2;have c4:a.wt<=320:=by omega
    rw [c3] at q2 ⊢;exact ⟨q2.symm,c4⟩
   rw [<- hp];have ha:=iha hw;simp only [Tm.bt,Tm.sz];have hmx:((max e.toNat 1:Nat):Int)=wdj e 1:=by unfold wdj; split <;> omega
   rw [uZ,hmx];have e0:wdj e 1 * (a.bt L:Int)<=wdj e 1 * ((L+1) * (a.sz * a.wt)):=pZ ha (by omega);have e1:wdj e 1 * (((L:Int)+1) * (a.sz * a.wt))=(L+1) * (a.sz * (wdj e 1 * a.wt)):=by
    rw [Int.mul_left_comm,Int.mul_left_comm (wdj e 1)]
   have hq:0<=wdj e 1 * a.wt:=Int.mul_nonneg (by omega) (by omega);have e2:(a.sz:Int) * (wdj e 1 * a.wt)<=((a.sz+1:Nat):Int) * (wdj e 1 * a.wt):=sM (by omega) hq;have e3:((L:Int)+1) * (a.sz * (wdj e 1 * a.wt))<=(L+1) * (((a.sz+1:Nat):Int) * (wdj e 1 * a.wt)):=pZ e2 (by omega);omega
end Go.Proofs.YtheefiaoimbeiaaGreatDoor
