/- Layer 20: sparse.Content. -/
import Derived.Test.YtcepajijiabkmaaGreatMp40
import Derived.Test.YtcepajijiabkmaaGreatMp45
set_option linter.unusedSimpArgs false
set_option linter.unusedVariables false

set_option maxRecDepth 100000
set_option maxHeartbeats 8000000
namespace Go.Proofs.YtcepajijiabkmaaGreat
open Lib (hid)
open Go.RowKit Go.Shelf
attribute [local go_sem] Oper.semAt_some
theorem xbu {l:Sp} {L:Nat} (h:∀ x ∈ l,(dg x.1.natAbs).length<=L):(dg ((snc l:Nat):Int).natAbs).length<=L:=by
 rw [uL]
 by_cases hx:∃ x ∈ l,x.1 ≠ 0
 · obtain ⟨x,hx,h0⟩:=hx;exact py (yu (xck hx h0)) (h x hx)
 · have:snc l<=0:=wc9 l 0 fun x iY=>by
    have:¬ x.1 ≠ 0:=fun h=>hx ⟨x,iY,h⟩
    omega
   rw [show snc l=0 by omega];simp [dg]
theorem ul.kept {W W':World} {row:Option Nat} (hg:W.grownBy W' row) (hr:∀ r,row=some r->∃ o:Obj,W.heap[r]?=some o/\o.isCells=false) {x:Value} {z:Int} (h:ul W x z):ul W' x z:=by
 obtain ⟨v,e,hv⟩:=h;exact ⟨v,e,kat hg hr hv⟩
theorem gp.qaU (T:Nat) (W:World) {u0 u1:Value} (v0 v1:Value) (h0:W.cell? ⟨T,0,none⟩=some u0) (h1:W.cell? ⟨T,1,none⟩=some u1) (d0:jo u0=false) (d1:jo u1=false):gp T W ((W.setCell ⟨T,0,none⟩ v0).setCell ⟨T,1,none⟩ v1):=by
 have k1:(W.setCell ⟨T,0,none⟩ v0).cell? ⟨T,1,none⟩=some u1:=by rw [ph _ _ _ _ (by simp),h1]
 exact ⟨by simp [World.setCell],fun i o hi ho _=>by rw [Below.heap_setCell _ _ _ i hi,Below.heap_setCell _ _ _ i hi]; exact ho,fun _ _ hx=>(hx.box h0 d0 v0).box k1 d1 v1⟩
theorem gc3 {W:World} {T:Nat} {u0 u1 v0 v1:Value} {t:TypeId} (h:W.heap[T]?=some (.cells #[u0,u1] t (0,0))):((W.setCell ⟨T,0,none⟩ v0).setCell ⟨T,1,none⟩ v1).heap[T]?=some (.cells #[v0,v1] t (0,0)):=by
 simp only [World.setCell,RE,h,if_true,Option.map_some]
 rfl
theorem jb7 {w:World} {v:Value} {l:Sp} (h:SpV w none v l) (hc:xg l=l) (gZ:∀ x ∈ l,(dg x.1.natAbs).length<=1099511627776) (hL:(dg (zg l)).length<=1099511627776) (hlen:l.length<=1099511627776):Calls Tryz.prog 69 #[v] w (vah ((snc l:Nat):Int) w):=by
 have nM:=hid gZ;have MM:=hid (fun (W':World) (hx:Ext w W')=>xcj (h.ext hx) gZ hL hlen);rw [hc] at MM;obtain ⟨A0,k0,rfl,-⟩:=h;obtain ⟨l0,lV⟩:=n_m (l.length);rw [lV] at MM;rw [lV];clear hc gZ hL;have nH:∀ k:Nat,(Fence.wide.depth.isSome=true->1<=k):=fun k h=>by cases h
 obtain ⟨W0,FP⟩:=n_m ((w.alloc (.cells #[.bool false,.slice none 0 0] 30)));have aC:Ext w W0:=by rw [<- FP]; exact (Ext.refl w).alloc _
 have iT:W0.heap.size=w.heap.size+1:=by rw [<- FP]; simp
 have Uj:W0.heap[w.heap.size]?=some (.cells #[.bool false,.slice none 0 0] 30 (0,0)):=by rw [<- FP]; exact heap_alloc_new w _
 have ay:=hid aC;have HBR:=hid Uj;clear aC Uj;refine (callsIn_wide (n:=5)).1 ?_;refine callsIn_of_wp_marks Tryz.func69 rfl trivial ?_ rfl;simp only [Tryz.ntmps69,tP,pL,r8,Nat.reduceAdd,Nat.reduceSub,uW,uR,Pb,we,tI,rI]
 gi_wp2_with fail
 clear FP;refine ⟨trivial,?_⟩;refine (callsIn_wide.2 (of_int 0 W0 (by omega) (by omega))).mono ?_;rintro e w1 ⟨v1,rfl,i1,x1⟩;obtain ⟨d0,B1,n1,c1,rfl⟩:=i1.unpack;have bW:=x1.size;obtain ⟨W1,aV⟩:=n_m ((w1.alloc (.cells #[.bool d0,.slice B1 n1 c1] 30)));have hx1:Ext w1 W1:=by rw [<- aV]; exact (Ext.refl w1).alloc _
 have rW:W1.heap.size=w1.heap.size+1:=by rw [<- aV]; simp
 have FM:W1.heap[w1.heap.size]?=some (.cells #[.bool d0,.slice B1 n1 c1] 30 (0,0)):=by rw [<- aV]; exact heap_alloc_new w1 _
 have tK:=hid ((ay.out.trans x1).trans hx1);have Gt:=hid FM;have I1:=hid (i1.ext hx1);have Wx:=hid (((x1.trans hx1).below.block _ (by omega)).trans HBR.out);obtain ⟨T,hT⟩:=n_m (w1.heap.size);rw [hT] at Gt rW;have hT0:w.heap.size < T:=by omega
 have hT1:T < W1.heap.size:=by omega
 clear FM i1 x1 hx1 HBR ay
 gi_wp2_with fail
 clear aV hT;refine ⟨trivial,?_⟩;refine (callsIn_wide.2 (MM.out W1 tK.out)).mono ?_;rintro e w2 ⟨B2,v2,rfl,dO,qW,xH,⟨A2,k2,rfl,yY,hk2,aK⟩,x2⟩;have X2:=hid (tK.out.trans x2);have WI:=hid ((x2.below.block _ (by omega)).trans Gt.out);have BR2:=hid ((x2.below.block _ (by have:=tK.out.size; omega)).trans Wx.out);have I2:=hid (I1.out.ext x2);have jG:=x2.size;have hBT:B2 ≠ T:=by omega
 have hTw:w.heap.size < T:=by omega
 have Uo:∀ ad,A2=some ad->0 < l.length->ad.block ≠ T:=fun ad e hl he=>by
  obtain ⟨ad',b,B,n,c,e2,lI,⟨h0,h1,h2,-⟩,-⟩:=aK 0 hl;rw [e] at e2;injection e2 with e2
  subst e2;rw [sY] at h2;have hc:=pB (w:=w2) (w':=w2) (a:=⟨(ad.add 0).block,(ad.add 0).off+2,none⟩) rfl;rw [World.cell?] at h2;simp only [ja,he,WI.out] at h2
  revert h2
  split
  · intro h2; cases h2
  · intro h2;obtain ⟨h5,-⟩:=rB.1 h2;simp at h5;omega
 have vV:=hid (fun n=>kbn T yY hk2 aK Uo (fun x hx=>nM.out x hx) B2 xH hBT dO n);clear x2 dO aK Uo MM tK Gt Wx I1
 gi_wp2_with fail
 refine xbv (by omega) (gf := 52) (lb := #[.pointer (some ⟨B2, 0, none⟩)]) rfl (enters_of Tryz.func52 (by kernel_rfl) rfl) (vV.out _) gp.trans (fun W l o o' _ h1 h2 _ => gp.putObj _ W l o o' h1 h2) (Below.refl _ _) (fun _ => rfl)
  (fun k W=>Ext w W/\w2.heap.size<=W.heap.size/\W.heap[w.heap.size]?=some (.cells #[.bool false,.slice none 0 0] 30 (0,0))/\∃ d B n c,W.heap[T]?=some (.cells #[.bool d,.slice B n c] 30 (0,0))/\ul W (.agg #[.bool d,.slice B n c]) ((snc (l.take k):Nat):Int))
  ?ownI ?startI
  (fun k x a' W=>(∃ g b A n c,a'={ tmps:=#[.slice A0 l0 k0,undef,.pointer (some ⟨w.heap.size,0,none⟩),.pointer (some ⟨T,0,none⟩),undef,.pointer (some ⟨g,0,none⟩),.agg #[.bool d0,.slice B1 n1 c1],.slice A0 l0 k0,.func (.func 52) #[] #[.pointer (some ⟨B2,0,none⟩)],.agg #[.int .i64 x.1.a,.int .i64 x.1.b,.int .i64 x.1.c,.int .i64 x.1.d],x.2,undef,undef,undef,undef],defers:=[] }/\w2.heap.size<=g/\x.2=.agg #[.bool b,.slice A n c]/\W.heap[g]?=some (.cells #[.bool b,.slice A n c] 30 (0,0)))/\(∃ h:k < l.length,ul W x.2 l[k].1)/\Ext w W/\w2.heap.size<=W.heap.size/\W.heap[w.heap.size]?=some (.cells #[.bool false,.slice none 0 0] 30 (0,0))/\∃ d B n c,W.heap[T]?=some (.cells #[.bool d,.slice B n c] 30 (0,0))/\ul W (.agg #[.bool d,.slice B n c]) ((snc (l.take k):Nat):Int))
  ?ownA ?assign ?body ?done
 case ownI =>
  rintro k W W' row ⟨h1,h2,h3,d,B,n,c,h4,h5⟩ hg hr;have fJ:=fun r e=>(hr r e).2
  exact ⟨Below.grown h1.below hg h1.size (fun r e=>by have:=(hr r e).1; have:=h1.size; have:=X2.out.size; omega),py h2 hg.size,cells_kept hg fJ h3,d,B,n,c,cells_kept hg fJ h4,h5.kept hg fJ⟩
 case startI=>exact ⟨X2.out,pj _,BR2.out,d0,B1,n1,c1,WI.out,I2.out⟩
 case ownA =>
  rintro k x a' s W W' row ⟨⟨g,b,A,n,c,ha,jT,dR,sO⟩,⟨hk,hz⟩,h1,h2,h3,d,B,n',c',h4,h5⟩ hg hr;have fJ:=fun r e=>(hr r e).2
  exact ⟨⟨g,b,A,n,c,ha,jT,dR,cells_kept hg fJ sO⟩,⟨hk,hz.kept hg fJ⟩,Below.grown h1.below hg h1.size (fun r e=>by have:=(hr r e).1; have:=h1.size; have:=X2.out.size; omega),py h2 hg.size,cells_kept hg fJ h3,d,B,n',c',cells_kept hg fJ h4,h5.kept hg fJ⟩
 case assign =>
  rintro lp k ⟨mk,xv⟩ W K hk ⟨h1,h2,h3,d,B,n,c,h4,h5⟩ ⟨lW,hm,hz⟩ hK;dsimp only at hm hz;obtain ⟨b,A,n',c',rfl⟩:=hz.unpack;have hx1:Ext W (W.alloc (.cells #[.bool b,.slice A n' c'] 30)):=(Ext.refl W).alloc _;have hTW:T < W.heap.size:=by omega
  have HK:=hK { tmps:=#[.slice A0 l0 k0,undef,.pointer (some ⟨w.heap.size,0,none⟩),.pointer (some ⟨T,0,none⟩),undef,.pointer (some ⟨W.heap.size,0,none⟩),.agg #[.bool d0,.slice B1 n1 c1],.slice A0 l0 k0,.func (.func 52) #[] #[.pointer (some ⟨B2,0,none⟩)],.agg #[.int .i64 mk.a,.int .i64 mk.b,.int .i64 mk.c,.int .i64 mk.d],.agg #[.bool b,.slice A n' c'],undef,undef,undef,undef],defers:=[] } _ (xas hx1) (gp.q9 _ hx1) ⟨⟨W.heap.size,b,A,n',c',rfl,h2,rfl,heap_alloc_new W _⟩,⟨lW,hz.ext hx1⟩,h1.trans hx1,py h2 hx1.size,(hx1.below.block _ (by omega)).trans h3,d,B,n,c,(hx1.below.block _ hTW).trans h4,h5.ext hx1⟩;have PH:=hid HK;clear HK hK h1 h2 h3 h4 h5 hx1 hz hm;simp only [xbs,moV]
  gi_wp2
  exact PH.out
 case body =>
  rintro lp k ⟨mk,xv⟩ a' W hk ⟨⟨g,b,A,n,c,rfl,jT,rQ,dR⟩,⟨lW,hz⟩,h1,h2,h3,d,B,n',c',h4,h5⟩;dsimp only at rQ;subst rQ;dsimp only at hz;have qB:(dg (((snc (l.take k):Nat):Int)).natAbs).length<=1099511627776:=xbu (fun x hx=>nM.out x (tl hx));have HG:=hid (uc7 _ _ _ _ _ _ W h5.raw hz.raw (by omega) (by have:=nM.out _ (pt lW); omega));rw [uL,<- yct lW] at HG;obtain ⟨m0,m1⟩:=zb2 dR;obtain ⟨t0,t1⟩:=zb2 h4;have H1:=hid h1;have H3:=hid h3;have H4:=hid h4;have hTW:T < W.heap.size:=by omega
  have tf:∀ i,W.frozen? ⟨T,i,none⟩=false:=fun i=>by simp [World.frozen?,h4]
  clear h1 h3 h4 h5 hz dR qB
  gi_wp2_with fail
  clear m0 m1 t0 t1;refine ⟨trivial,?_⟩;refine (callsIn_wide.2 HG.out).mono ?_;rintro e w3 ⟨v3,rfl,i3,x3⟩;obtain ⟨d3,B3,n3,c3,rfl⟩:=i3.unpack;have Yc:=(x3.below.block _ hTW).trans H4.out;obtain ⟨t0,t1⟩:=zb2 Yc;have tf3:∀ i,w3.frozen? ⟨T,i,none⟩=false:=fun i=>by simp [World.frozen?,Yc]
  have DY:=x3.size;have bT:Hid (∀ V,((w3.setCell ⟨T,0,none⟩ (.bool d3)).setCell ⟨T,1,none⟩ (.slice B3 n3 c3))=V->KeepsFrom w2.heap.size W V/\gp T W V/\Ext w V/\w2.heap.size<=V.heap.size/\V.heap[w.heap.size]?=some (.cells #[.bool false,.slice none 0 0] 30 (0,0))/\∃ d B n c,V.heap[T]?=some (.cells #[.bool d,.slice B n c] 30 (0,0))/\ul V (.agg #[.bool d,.slice B n c]) ((snc (l.take (k+1)):Nat):Int)):=hid (by
   rintro V rfl;have k1:(w3.setCell ⟨T,0,none⟩ (.bool d3)).cell? ⟨T,1,none⟩=some (.slice B n' c'):=by rw [ph _ _ _ _ (by simp),t1]
   have hsz:((w3.setCell ⟨T,0,none⟩ (.bool d3)).setCell ⟨T,1,none⟩ (.slice B3 n3 c3)).heap.size=w3.heap.size:=by simp [World.setCell]
   have QY:∀ i,i ≠ T->((w3.setCell ⟨T,0,none⟩ (.bool d3)).setCell ⟨T,1,none⟩ (.slice B3 n3 c3)).heap[i]?=w3.heap[i]?:=fun i hi=>by rw [Below.heap_setCell _ _ _ i hi,Below.heap_setCell _ _ _ i hi]
   refine ⟨⟨by omega,fun i o hi ho _=>?_⟩,(gp.q9 T x3).trans (gp.qaU T w3 _ _ t0 t1 rfl rfl),((H1.out.trans x3).setCell (by show w.heap.size<=T; omega) _).setCell (by show w.heap.size<=T; omega) _,by omega,?_,d3,B3,n3,c3,gc3 Yc,(i3.box t0 rfl _).box k1 rfl _⟩
   · rw [QY i (by omega)]; exact (x3.below.block i (rB.1 ho).1).trans ho
   · rw [QY _ (by omega)]; exact (x3.below.block _ (by omega)).trans H3.out)
  clear i3 x3 Yc HG
  gi_wp2_with fail
  simp only [ga6];exact bT.out _ rfl
 case done =>
  rintro D W hD ⟨h1,h2,h3,d,B,n,c,h4,h5⟩ hK;rw [pP] at h5;obtain ⟨t0,t1⟩:=zb2 h4;obtain ⟨r0,r1⟩:=zb2 h3;have rf:∀ i,W.frozen? ⟨w.heap.size,i,none⟩=false:=fun i=>by simp [World.frozen?,h3]
  have WS:w.heap.size < W.heap.size:=(rB.1 h3).1;have iM:=hid (kw (g:=w.heap.size) h1 (pj _) r0 r1 rfl rfl h5);have PI:=hid hK;have yH:=X2.out.size;clear h1 h2 h3 h4 h5 hK
  gi_wp2_with fail
  obtain ⟨V,hV⟩:=n_m (((W.setCell ⟨w.heap.size,0,none⟩ (.bool d)).setCell ⟨w.heap.size,1,none⟩ (.slice B n c)));have hDV:V.heap[D]?=some (.deferred (some [])):=by
   rw [<- hV,Below.heap_setCell _ _ _ D (by show D ≠ w.heap.size; omega),Below.heap_setCell _ _ _ D (by show D ≠ w.heap.size; omega)]; exact PI.out
  have c0:V.cell? ⟨w.heap.size,0,none⟩=some (.bool d):=by
   rw [<- hV,ph _ _ _ _ (by simp)]; exact pN _ _ _ r0
  have c1:V.cell? ⟨w.heap.size,1,none⟩=some (.slice B n c):=by
   rw [<- hV]; exact pN _ _ _ (u:=.slice none 0 0) (by rw [ph _ _ _ _ (by simp)]; exact r1)
  have hf:=iM.out;rw [hV] at hf ⊢;obtain ⟨xv,ex,ix,xx⟩:=hf;injection ex with ex
  subst ex;refine ⟨by simp,.inl ⟨_,_,rfl,run_takeDeferred hDV,?_⟩⟩;have jS:=grownBy_putObj' V D (.deferred none);have ax:w.heap.size ≠ D:=by omega
  have cc:∀ j,(V.putObj D (.deferred none)).cell? ⟨w.heap.size,j,none⟩=V.cell? ⟨w.heap.size,j,none⟩:=fun j=>pB (World.putObj_heap_other ax)
  refine ⟨.agg #[.bool d,.slice B n c],by simp [results,Tryz.results69,go_sem,cc,c0,c1],_,rfl,ix.kept jS (fun r e=>⟨_,by injection e with e; subst e; exact hDV,rfl⟩),Below.grown xx.below jS xx.size (fun k e=>by injection e with e; omega)⟩
end Go.Proofs.YtcepajijiabkmaaGreat

namespace Go.Proofs.YtcepajijiabkmaaGreat
open Lib (hid)
open Go.RowKit
def zb3 (q r:Int) (w:World) (e:Ending) (w':World):Prop:=
 ∃ x,e=.returned (.tuple #[x,.int .i64 (if r=0 then 0 else 3)])/\ul w' x (if r=0 then q else 0)/\Ext w w'
theorem qbc {w W:World} {g:Nat} {q r:Int} {b s u0 u1:Value} (hx:Ext w W) (hg:w.heap.size<=g) (h0:W.cell? ⟨g,0,none⟩=some u0) (h1:W.cell? ⟨g,1,none⟩=some u1) (d0:jo u0=false) (d1:jo u1=false) (n:Int) (hN:ul W (.agg #[b,s]) (if r=0 then q else 0)) (hn:n=if r=0 then 0 else 3) :
 zb3 q r w (.returned (.tuple #[.agg #[b,s],.int .i64 n])) ((W.setCell ⟨g,0,none⟩ b).setCell ⟨g,1,none⟩ s):=by
 have k1:(W.setCell ⟨g,0,none⟩ b).cell? ⟨g,1,none⟩=some u1:=by rw [ph _ _ _ _ (by simp),h1]
 subst hn;exact ⟨_,rfl,(hN.box h0 d0 _).box k1 d1 _,(hx.setCell (by simpa using hg) _).setCell (by simpa using hg) _⟩
theorem gbp (x y:Value) (a b:Int) (L M:Nat) (w:World) (h:jm w x a L) (k:jm w y b M) (hs:L<=17592186044416) (BM:M<=17592186044416) (aX:b ≠ 0) :
 Calls Tryz.prog 72 #[x,y] w (zb3 (a.tdiv b) (a.tmod b) w):=by
 have H:=hid h;have K:=hid k;obtain ⟨neg,v,ds,rfl,⟨A,c,rfl,-,-,-⟩,-,-⟩:=h;obtain ⟨aI,v',ds',rfl,⟨A',c',rfl,-,-,-⟩,-,-⟩:=k;go_enter Tryz.func72,Tryz.ntmps72;go_wp2_with fail;generalize hW:((w.alloc (Obj.cells #[.bool neg,.slice A ds.length c] 30)).alloc (Obj.cells #[.bool aI,.slice A' ds'.length c'] 30)).alloc (Obj.cells #[.bool false,.slice none 0 0] 30)=W;have ay:Hid (Ext w W):=by
  have:Ext w W:=by rw [<- hW]; exact (((Ext.refl w).alloc _).alloc _).alloc _
  exact this
 have qF:Hid (W.heap.size=w.heap.size+1+1+1):=by
  have:W.heap.size=w.heap.size+1+1+1:=by rw [<- hW]; simp
  exact this
 have HR:Hid (∀ W',Ext W W'->(W'.cell? ⟨w.heap.size+1+1,0,none⟩=some (.bool false)/\W'.cell? ⟨w.heap.size+1+1,1,none⟩=some (.slice none 0 0)/\W'.frozen? ⟨w.heap.size+1+1,0,none⟩=false/\W'.frozen? ⟨w.heap.size+1+1,1,none⟩=false)):=by
  intro W' hx;obtain ⟨hc,hf⟩:=hx.cells;have hsz:=qF.out;refine ⟨?_,?_,?_,?_⟩ <;> first | (rw [hc _ _ (by omega),<- hW]; simp [go_sem]; done) | (rw [hf _ _ (by omega),<- hW]; simp [go_sem]; done)
 clear hW;refine (xc6 _ _ a b L M _ (H.out.ext ay.out) (K.out.ext ay.out) hs BM aX).mono ?_;rintro e w1 ⟨xq,xr,rfl,iq,ir,y1⟩;have Y1:=hid y1;have IQ:=hid iq;have IR:=hid ir;obtain ⟨vq,rfl,Aq,cq,rfl,-⟩:=iq;obtain ⟨vr,rfl,Ar,cr,rfl,-⟩:=ir;clear y1 H K;generalize a.tdiv b=q at *;generalize a.tmod b=r at *;go_wp2_with fail;have x2:Ext w1 ((w1.alloc (Obj.cells #[.bool (decide (q < 0)),.slice Aq (dg q.natAbs).length cq] 30)).alloc (Obj.cells #[.bool (decide (r < 0)),.slice Ar (dg r.natAbs).length cr] 30)):=((Ext.refl w1).alloc _).alloc _;have q0:∀ i,((w1.alloc (Obj.cells #[.bool (decide (q < 0)),.slice Aq (dg q.natAbs).length cq] 30)).alloc (Obj.cells #[.bool (decide (r < 0)),.slice Ar (dg r.natAbs).length cr] 30)).cell? ⟨w1.heap.size,i,none⟩=(#[Value.bool (decide (q < 0)),.slice Aq (dg q.natAbs).length cq])[i]?:=by intro i; simp [go_sem]
 have oW:w1.heap.size < ((w1.alloc (Obj.cells #[.bool (decide (q < 0)),.slice Aq (dg q.natAbs).length cq] 30)).alloc (Obj.cells #[.bool (decide (r < 0)),.slice Ar (dg r.natAbs).length cr] 30)).heap.size:=by simp; omega
 generalize (w1.alloc (Obj.cells #[.bool (decide (q < 0)),.slice Aq (dg q.natAbs).length cq] 30)).alloc (Obj.cells #[.bool (decide (r < 0)),.slice Ar (dg r.natAbs).length cr] 30)=w2 at *;refine (kbi _ r _ w2 ((IR.out.ext x2).raw)).mono ?_;rintro e w3 ⟨rfl,x3⟩;have c0:w3.cell? ⟨w1.heap.size,0,none⟩=some (.bool (decide (q < 0))):=(x3.cell (p:=⟨w1.heap.size,0,none⟩) oW).trans (q0 0);have c1:w3.cell? ⟨w1.heap.size,1,none⟩=some (.slice Aq (dg q.natAbs).length cq):=(x3.cell (p:=⟨w1.heap.size,1,none⟩) oW).trans (q0 1);obtain ⟨r0,r1,f0,f1⟩:=HR.out w3 (Y1.out.trans (x2.trans x3));have rU:=ay.out.trans (Y1.out.trans (x2.trans x3))
 by_cases hr:r=0
 · have HF:=hid (qbc (q:=q) (r:=r) (g:=w.heap.size+1+1) rU (by omega) r0 r1 rfl rfl 0 (by rw [if_pos hr]; exact IQ.out.ext (x2.trans x3)) (by rw [if_pos hr]));have JV:(r == 0)=true:=by simpa using hr
   rw [JV];clear x2 x3 rU hr JV q0 IR IQ;go_wp2_with fail;exact bodyPost_ret (v:=.tuple #[.agg #[.bool (decide (q < 0)),.slice Aq (dg q.natAbs).length cq],.int .i64 0]) (by simp [results,Tryz.results72,go_sem,r0,r1]) rfl HF.out
 · have HF:=hid (qbc (q:=q) (r:=r) (g:=w.heap.size+1+1) (b:=.bool false) (s:=.slice none 0 0) rU (by omega) r0 r1 rfl rfl 3 (by rw [if_neg hr]; exact ⟨_,rfl,by show jc _ _ (dg 0); rw [qm]; exact jc.nil _⟩) (by rw [if_neg hr]));have JV:(r == 0)=false:=by simpa using hr
   rw [JV];clear x2 x3 rU hr JV q0 IR IQ;go_wp2_with fail;exact bodyPost_ret (v:=.tuple #[.agg #[.bool false,.slice none 0 0],.int .i64 3]) (by simp [results,Tryz.results72,go_sem,r0,r1]) rfl HF.out
theorem zal (d:Int) (l:Sp):(zab d l).length=l.length:=by unfold zab; rw [px]
theorem zcu (d:Int) (l:Sp) (k:Nat) (h:k < l.length) (h':k < (zab d l).length):(zab d l)[k]=(l[k].1.tdiv d,l[k].2):=by simp [zab]
theorem uc5 (z:Int):decide (sgI z < 0)=decide (z < 0):=by
 unfold sgI jh
 split
 · simp_all
 · split
   · simp; omega
   · simp; omega
theorem wct {l:Sp} (h:0 < l.length):sdv l=if l[0].1 < 0 then -(snc l:Int) else (snc l:Int):=by
 cases l with
 | nil=>simp at h
 | cons x r=>rfl
theorem yda {l:Sp} {D:Nat} (h:∀ x ∈ l,(dg x.1.natAbs).length<=D) (hl:l ≠ []):(dg (sdv l).natAbs).length<=D:=by
 have:=xbu h;rw [uL] at this;rw [wbk hl]; exact this
theorem ubt {w:World} {l:Sp} {D:Nat} (v:Value) (h:SpV w none v l) (pU:xg l=l) (gZ:∀ x ∈ l,(dg x.1.natAbs).length<=D) (wV:∀ x ∈ l,x.1 ≠ 0) (J9:(dg (zg l)).length<=D) (hlen:l.length<=1099511627776) (hD:D<=1099511627776):Calls Tryz.prog 43 #[v] w (ya4 (ssn l) w):=by
 have HV:=hid h;obtain ⟨A0,c0,rfl,-,-,-⟩:=h;have nM:=hid gZ;have HNZ:=hid wV;have SK:∀ z:Int,(∃ x ∈ l,x.1=z)->(none:Option Nat).getD (dg z.natAbs).length<=D:=fun z ⟨x,hx,e⟩=>by rw [<- e]; exact gZ x hx
 have Es:=hid (ga5 D HV.out SK (by omega) hlen);rw [pU] at Es;have Ez:=hid (fun (W':World) (u:Value) (hu:SpV W' none u l)=>jb7 hu pU (fun x hx=>by have:=gZ x hx; omega) (by omega) hlen);have MO:=hid (And.intro pU J9);clear SK pU J9 gZ wV;go_enter Tryz.func43,Tryz.ntmps43;go_wp2_with fail;refine Es.out.mono ?_;rintro e w2 ⟨v2,rfl,s2,x2⟩;obtain ⟨A2,c2,rfl,dO,Ot,-⟩:=id s2.1;have S2:=hid s2;have X2:=hid x2;have jG:=x2.size;clear Es s2 x2
 by_cases hl:l.length=0
 · have HF:Hid (SpV w2 none (.slice A2 l.length c2) (ssn l)):=hid (by
    have:l=[]:=rL hl;subst this
    exact S2.out.1)
   rw [hl] at HF ⊢;clear hl;go_wp2_with fail;go_ret;exact ⟨_,rfl,HF.out,X2.out⟩
 have lV:¬ (l.length:Int)=0:=by omega
 have Ff:0 < l.length:=by omega
 have jQ:l ≠ []:=fun e=>by rw [e] at Ff; simp at Ff
 go_wp2_with fail;refine (Ez.out _ _ S2.out.1).mono ?_;rintro e w3 ⟨v3,rfl,i3,x3⟩;obtain ⟨b3,B3,n3,d3,rfl⟩:=i3.unpack;obtain ⟨W,hW⟩:=n_m ((w3.alloc (.cells #[.bool b3,.slice B3 n3 d3] 30)));obtain ⟨o,ho⟩:=n_m (w3.heap.size);have qI:Ext w3 W:=by rw [<- hW]; exact (Ext.refl w3).alloc _
 have o0:W.cell? ⟨o,0,none⟩=some (.bool b3)/\W.cell? ⟨o,1,none⟩=some (.slice B3 n3 d3)/\(∀ i,W.frozen? ⟨o,i,none⟩=false):=by rw [<- hW,<- ho]; exact ⟨by simp [go_sem],by simp [go_sem],fun i=>by simp [go_sem]⟩
 have iW:ul W (.agg #[.bool b3,.slice B3 n3 d3]) ((snc l:Nat):Int):=i3.ext qI;have Ze:∀ W',Ext w2 W'->SpO w.heap.size W' (.slice A2 l.length c2) l:=fun W' hx=>by
  refine ⟨S2.out.1.ext hx,fun hp=>?_⟩;obtain ⟨g',c',e,h4,h5,h6⟩:=S2.out.2 hp;exact ⟨g',c',e,h4,pw h5 hx.size,fun i hi=>(hx.frozen (p:=⟨g',i,none⟩) h5).trans (h6 i hi)⟩
 obtain ⟨g,cg,eg,Ic,lK,Tn⟩:=S2.out.2 Ff;injection eg with e1 e2 e3
 subst e1 e3;have CE:g < o:=by have:=x3.size; omega
 have ab7:w2.heap.size<=o:=by have:=x3.size; omega
 have how:o < W.heap.size:=by rw [<- hW]; simp; omega
 have Dl:=hid (x3.trans qI);have SOW:=hid Ze;have IW:=hid iW;have HO0:=hid o0;obtain ⟨Aq,cq,e,-,-,aK⟩:=(Ze W (x3.trans qI)).1;injection e with e1 e2' e3
 subst e1 e3;obtain ⟨ad,bz,Bz,nz,dz,e,ah,kN,eF⟩:=aK 0 Ff;injection e with e
 subst e;rw [zu,rh] at kN;obtain ⟨t0,t1,-⟩:=kN;simp only [sY,rh] at t0 t1;have IZ:=hid (show ul W (.agg #[.bool bz,.slice Bz nz dz]) l[0].1 from eF);have HSD:=hid (wct Ff);have Vo:=hid (yda nM.out jQ);obtain ⟨z0,iV⟩:=n_m (l[0].1);rw [iV] at IZ HSD;have HZ0:=hid iV;have aji:¬ g=o:=by omega
 clear i3 x3 qI o0 iW Ze e2 e2' aK eF ah iV;go_wp2_with fail
 try rw [ho]
 clear hW ho t0 t1;refine (vau _ z0 _ W IZ.out.raw).mono ?_;rintro e w4 ⟨rfl,x4⟩;have W9:=uc5 z0;obtain ⟨p0,p1,pf⟩:=HO0.out;have kH:w4.cell? ⟨o,0,none⟩=some (.bool b3):=(x4.cell (p:=⟨o,0,none⟩) how).trans p0;have D7:w4.cell? ⟨o,1,none⟩=some (.slice B3 n3 d3):=(x4.cell (p:=⟨o,1,none⟩) how).trans p1;have pV:∀ i,w4.frozen? ⟨o,i,none⟩=false:=fun i=>(x4.frozen (p:=⟨o,i,none⟩) how).trans (pf i)
 have I4:=hid (IW.out.ext x4);have X4:=hid (Dl.out.trans x4);have nC:o < w4.heap.size:=by have:=x4.size; omega
 clear x4 p0 p1 pf HO0 IW Dl IZ
 by_cases vH:z0 < 0
 case' pos =>
  have hd:decide (sgI z0 < 0)=true:=by rw [W9]; simpa using vH
  have Ny:Hid (-((snc l:Nat):Int)=sdv l):=hid (by rw [HSD.out,if_pos vH]);have Nb:=hid (gc6 _ _ _ w4 I4.out.raw (by have:=xbu nM.out; omega));rw [Ny.out] at Nb;generalize sgI z0=sg at *;clear vH W9;go_wp2_with fail;refine Nb.out.mono ?_;rintro e w5 ⟨v5,rfl,i5,x5⟩;obtain ⟨bd,Bd,nd,dd,rfl⟩:=i5.unpack;have hr0:=(x5.cell (p:=⟨o,0,none⟩) nC).trans kH;have qL:=(x5.cell (p:=⟨o,1,none⟩) nC).trans D7;have JS:∀ i,w5.frozen? ⟨o,i,none⟩=false:=fun i=>(x5.frozen (p:=⟨o,i,none⟩) nC).trans (pV i)
  obtain ⟨V,hV⟩:=n_m (((w5.setCell ⟨o,0,none⟩ (.bool bd)).setCell ⟨o,1,none⟩ (.slice Bd nd dd)));have k1:(w5.setCell ⟨o,0,none⟩ (.bool bd)).cell? ⟨o,1,none⟩=some (.slice B3 n3 d3):=by rw [ph _ _ _ _ (by simp),qL]
  have HS:Hid (Ext w2 V/\(V.cell? ⟨o,0,none⟩=some (.bool bd)/\V.cell? ⟨o,1,none⟩=some (.slice Bd nd dd))/\ul V (.agg #[.bool bd,.slice Bd nd dd]) (sdv l)):=hid (by
   have h2o:w2.heap.size<=o:=ab7;rw [<- hV]
   exact ⟨((X4.out.trans x5).setCell h2o _).setCell h2o _,⟨by rw [ph _ _ _ _ (by simp)]; exact pN _ _ _ hr0,pN _ _ _ k1⟩,(i5.box hr0 rfl _).box k1 rfl _⟩)
  have x5s:=x5.size;clear kH D7 pV i5 x5 k1 Nb;have hwo:o < V.heap.size:=by rw [<- hV]; simp only [World.setCell,Array.size_modify]; have:=x5s; omega
  go_wp2_with fail;clear hV hr0 qL JS
 case' neg =>
  have hd:decide (sgI z0 < 0)=false:=by rw [W9]; simpa using vH
  have Ny:Hid (((snc l:Nat):Int)=sdv l):=hid (by rw [HSD.out,if_neg vH]);rw [Ny.out] at I4;generalize sgI z0=sg at *;clear vH W9;obtain ⟨V,rfl⟩:∃ V,V=w4:=⟨_,rfl⟩;obtain ⟨bd,rfl⟩:∃ x,x=b3:=⟨_,rfl⟩;obtain ⟨Bd,rfl⟩:∃ x,x=B3:=⟨_,rfl⟩;obtain ⟨nd,rfl⟩:∃ x,x=n3:=⟨_,rfl⟩;obtain ⟨dd,rfl⟩:∃ x,x=d3:=⟨_,rfl⟩;have HS:=hid (And.intro X4.out (And.intro (And.intro kH D7) I4.out));have hwo:=nC;clear kH D7 pV;go_wp2_with fail
 all_goals
  have lC:∀ k,((zab (sdv l) l).take k ++ l.drop k).length=l.length:=fun k=>wbl (zal _ l) k
  have Bg:=hid lC;have ah0:=X2.out.size
  go_loopw [24] (fun iv wr=>∃ k:Nat,k<=l.length/\iv=.int .i64 k/\Hid (SpO w.heap.size wr (.slice (some ⟨g,0,none⟩) l.length c2) ((zab (sdv l) l).take k ++ l.drop k)/\Ext w wr/\V.heap.size<=wr.heap.size/\(wr.cell? ⟨o,0,none⟩=some (.bool bd)/\wr.cell? ⟨o,1,none⟩=some (.slice Bd nd dd))/\ul wr (.agg #[.bool bd,.slice Bd nd dd]) (sdv l))) (fun iv _=>l.length - (intOf iv).toNat)
  case atStart=>exact ⟨0,pS _,rfl,hid ⟨by simpa using SOW.out _ HS.out.1,X2.out.trans HS.out.1,pj _,HS.out.2.1,HS.out.2.2⟩⟩
  case round =>
   obtain ⟨k,hk,rfl,HI⟩:=hrel
   by_cases af:k < l.length
   · obtain ⟨WZ,iR,hvs,⟨r0,r1⟩,hdiv⟩:=HI.out;have hlen:=Bg.out k;obtain ⟨Aq,cq,e,-,-,aK⟩:=WZ.1;rw [hlen] at e;injection e with e1 e2 e3
     subst e1 e3;obtain ⟨g',c',e,CG,KF,KG⟩:=WZ.2 (by rw [hlen]; omega);rw [hlen] at e;injection e with e1 e2' e3
     injection e1 with e1
     injection e1 with e1
     subst e1 e3;obtain ⟨ad,b0,B0,n0,d0,e,ah,kN,eF⟩:=aK k (by rw [hlen]; exact af);injection e with e
     subst e;rw [zbm (zal _ l) k af] at kN eF;rw [zu,rh] at kN;obtain ⟨t0,t1,-⟩:=kN;simp only at t0 t1;have hq6:(⟨g,0,none⟩:Addr).add (k * 6)=⟨g,k * 6,none⟩:=by rw [zu,rh]
     have bI:=KG (k * 6) (by rw [hlen]; omega);have jT:=KG (k * 6+1) (by rw [hlen]; omega);have SI:k < (zab (sdv l) l).length:=by rw [zal]; exact af
     have dS:=hid (zca (zal (sdv l) l) k af SI);rw [zcu _ l k af] at dS;have HGT:=hid (zbm (zal (sdv l) l) k af (by rw [hlen]; exact af));have hdk:=nM.out l[k] (pt af);have hzk:=HNZ.out l[k] (pt af);have TL:=gbk l[k] (pt af);have QK:=zda HNZ.out;have qB:=Vo.out;have mF:=hid (fun W' (hx:Ext wr W')=>gbp (.agg #[.bool b0,.slice B0 n0 d0]) (.agg #[.bool bd,.slice Bd nd dd]) l[k].1 (sdv l) _ _ W' (ul.raw (ul.ext (show ul wr (.agg #[.bool b0,.slice B0 n0 d0]) l[k].1 from eF) hx)) (ul.raw (hdiv.ext hx)) (by omega) (by omega) QK);rw [Int.tmod_eq_zero_of_dvd TL] at mF;obtain ⟨z,hz⟩:=n_m (l[k].1);rw [hz] at mF dS;obtain ⟨q,hq⟩:=n_m (z.tdiv (sdv l));rw [hq] at mF dS;have Hl:Hid ((((zab (sdv l) l).take k ++ l.drop k).set k (q,(((zab (sdv l) l).take k ++ l.drop k)[k]'(by rw [hlen]; exact af)).2))=(zab (sdv l) l).take (k+1) ++ l.drop (k+1)):=hid (by rw [HGT.out]; exact dS.out);have ajh:g ≠ o:=by omega
     have jL:o < wr.heap.size:=by omega
     have bY:Hid (∀ (w3:World) (x3:Value),ul w3 x3 q->Ext wr w3->∃ b3 A3 n3 c3,x3=.agg #[.bool b3,.slice A3 n3 c3]/\(w3.cell? ⟨o,0,none⟩=some (.bool bd)/\w3.cell? ⟨o,1,none⟩=some (.slice Bd nd dd))/\(w3.cell? ⟨g,k * 6,none⟩=some (.bool b0)/\w3.cell? ⟨g,k * 6+1,none⟩=some (.slice B0 n0 d0)/\w3.frozen? ⟨g,k * 6,none⟩=false/\w3.frozen? ⟨g,k * 6+1,none⟩=false)/\(SpO w.heap.size ((w3.setCell ⟨g,k * 6,none⟩ (.bool b3)).setCell ⟨g,k * 6+1,none⟩ (.slice A3 n3 c3)) (.slice (some ⟨g,0,none⟩) l.length c2) ((zab (sdv l) l).take (k+1) ++ l.drop (k+1))/\Ext w ((w3.setCell ⟨g,k * 6,none⟩ (.bool b3)).setCell ⟨g,k * 6+1,none⟩ (.slice A3 n3 c3))/\V.heap.size<=((w3.setCell ⟨g,k * 6,none⟩ (.bool b3)).setCell ⟨g,k * 6+1,none⟩ (.slice A3 n3 c3)).heap.size/\(((w3.setCell ⟨g,k * 6,none⟩ (.bool b3)).setCell ⟨g,k * 6+1,none⟩ (.slice A3 n3 c3)).cell? ⟨o,0,none⟩=some (.bool bd)/\((w3.setCell ⟨g,k * 6,none⟩ (.bool b3)).setCell ⟨g,k * 6+1,none⟩ (.slice A3 n3 c3)).cell? ⟨o,1,none⟩=some (.slice Bd nd dd))/\ul ((w3.setCell ⟨g,k * 6,none⟩ (.bool b3)).setCell ⟨g,k * 6+1,none⟩ (.slice A3 n3 c3)) (.agg #[.bool bd,.slice Bd nd dd]) (sdv l))):=hid (by
      intro w3 x3 hn hx;obtain ⟨b3,A3,n3,c3,rfl⟩:=hn.unpack;have ev:∀ i,w3.cell? ⟨g,i,none⟩=wr.cell? ⟨g,i,none⟩:=fun i=>hx.cell (p:=⟨g,i,none⟩) KF
      have eo:∀ i,w3.cell? ⟨o,i,none⟩=wr.cell? ⟨o,i,none⟩:=fun i=>hx.cell (p:=⟨o,i,none⟩) jL
      have ZL:SpO w.heap.size w3 (.slice (some ⟨g,0,none⟩) ((zab (sdv l) l).take k ++ l.drop k).length c2) ((zab (sdv l) l).take k ++ l.drop k):=by
       have h3:=HI.out.1;rw [<- hlen] at h3;refine ⟨h3.1.ext hx,fun hp=>?_⟩;obtain ⟨g',c',e,h4,h5,h6⟩:=h3.2 hp;exact ⟨g',c',e,h4,pw h5 hx.size,fun i hi=>(hx.frozen (p:=⟨g',i,none⟩) h5).trans (h6 i hi)⟩
      have hs:=ZL.xD k (by rw [hlen]; exact af) hn;rw [Hl.out,hlen] at hs;have N7:∀ i,((w3.setCell ⟨g,k * 6,none⟩ (.bool b3)).setCell ⟨g,k * 6+1,none⟩ (.slice A3 n3 c3)).cell? ⟨o,i,none⟩=w3.cell? ⟨o,i,none⟩:=fun i=>pB (a:=⟨o,i,none⟩) (by rw [Below.heap_setCell _ _ _ o (by show o ≠ g; omega),Below.heap_setCell _ _ _ o (by show o ≠ g; omega)])
      have SY:=HI.out.2.2.2.2;obtain ⟨y,ey,hy⟩:=SY.ext hx
      refine ⟨b3,A3,n3,c3,rfl,⟨(eo 0).trans r0,(eo 1).trans r1⟩,⟨(ev _).trans t0,(ev _).trans t1,(hx.frozen (p:=⟨g,k * 6,none⟩) KF).trans bI,(hx.frozen (p:=⟨g,k * 6+1,none⟩) KF).trans jT⟩,hs.1,((iR.trans hx).setCell Ic _).setCell Ic _,by simp only [World.setCell,Array.size_modify]; have:=hx.size; omega,⟨(N7 0).trans ((eo 0).trans r0),(N7 1).trans ((eo 1).trans r1)⟩,y,ey,hs.2 _ _ hy⟩)
     have y0:Ext wr wr.drew:=(Ext.refl wr).drew;have Y0:=hid y0;clear WZ iR aK eF ah KG dS HGT hz hq Hl TL hzk hdk qB QK hdiv y0 e2 e2' SI HI lC;go_upto_region 10 with fail
     go_region_law (first
      | (go_simp
         go_at_call 72
         refine (mF.out _ Y0.out).mono ?_;rintro e w3 ⟨x3,rfl,Qg,y3⟩;rw [if_pos rfl] at Qg;rw [if_pos rfl];obtain ⟨b3,A3,n3,c3,rfl,⟨G0,G1⟩,⟨T0,T1,TF0,TF1⟩,aS⟩:=bY.out _ _ Qg (Y0.out.trans y3);have bT:=hid aS
         clear Qg y3 aS))
     all_goals
      clear G0 G1 T0 T1 TF0 TF1 r0 r1 t0 t1 bY bI jT mF;go_wp2_with fail
      go_roundw
      case rel=>exact ⟨k+1,by omega,by go_num,bT.out⟩
      case measure=>simp [intOf]; omega
   · have df:k=l.length:=by omega
     have HF:Hid (SpV wr none (.slice (some ⟨g,0,none⟩) l.length c2) (ssn l)/\Ext w wr):=hid (by
      have h1:=HI.out.1.1;rw [df,List.drop_length,si,<- zal (sdv l) l,pP] at h1;rw [zal] at h1
      exact ⟨h1,HI.out.2.1⟩)
     clear HI df lC;go_wp2_with fail;go_ret;exact ⟨_,rfl,HF.out⟩
theorem xc5 {w:World} {q:Nat->Prop} {p:Pl} {E D:Nat} (v:Value) (h0:PlV w q p v) (hp:Fit p E D) (hE:E<=170) (hD:D<=1099511627776):Calls Tryz.prog 60 #[v] w (uf (fun b=>w.heap.size<=b) (snP p) w):=by
 have H0:=hid h0;obtain ⟨A0,m0,e0,B0,f0,rfl,-⟩:=h0.open_;obtain ⟨Ej,W,fV,jK,iT,aC,bW,hx1,aX,hz⟩:=b_y w p (.slice A0 m0 e0) (.slice B0 p.cs.length f0);have HZ:=hid hz;have HX:=hid (aC.trans hx1);have dJ:=hid aX;have fO:W.heap.size=w.heap.size+1+1:=bW;clear h0 aC hx1 aX hz;have HT:=hid (fun (W':World) (hx:Ext w W')=>zcj p _ (H0.out.ext hx) (hp.small hE) (by have:=hp.dm; omega));have ZM:=py hp.Kd (jbl (show E<=900 by omega));have HS:=hid (fun (W':World) (u:Value) (hu:SpV W' none u p.sp)=>ubt u hu p.vl hp.qaB (ybl _ p.ki) (yf hp.vy) (by omega) hD);have HO:=hid (fun (W':World) (u:Value) (hu:SpV W' none u (snP p).sp)=>yb9 u hu (ual hp) (by omega) (by omega));obtain ⟨b0,b1,b2,b3⟩:=dJ.out;unfold plV at HT ⊢;clear hp ZM;go_enter Tryz.func60,Tryz.ntmps60;go_wp2_with fail;clear fV jK;clear b0 b1 b2 b3;refine (HT.out _ HX.out).mono ?_;rintro e w1 ⟨v1,rfl,s1,x1⟩;have hs:=HS.out _ _ (show SpV w1 none v1 p.sp from s1);obtain ⟨A1,c1,rfl,-⟩:=s1;have X1:=hid (HX.out.trans x1);have eX:=hid (HZ.out.ext x1 (by omega));have bW:=x1.size;clear x1 HT HZ;go_wp2_with fail;refine hs.mono ?_;rintro e w2 ⟨v2,rfl,s2,x2⟩;have ho:=HO.out _ _ (by rw [qck]; exact s2);obtain ⟨A2,c2,rfl,-⟩:=s2;have X2:=hid (X1.out.trans x2);have nY:=hid (eX.out.ext x2 (by omega));have jG:=x2.size;clear x2 hs eX;go_wp2_with fail;refine ho.mono ?_;rintro e w3 ⟨v3,rfl,p3,x3⟩;obtain ⟨C0,j0,k0,C1,k1,rfl,-⟩:=id p3.open_;have aQ:=nY.out.ext x3 (by omega);have iM:=hid (qf (q':=fun b=>w.heap.size<=b) (X2.out.trans x3) (by omega) aQ p3 (fun b _ hb=>⟨by omega,by omega⟩));obtain ⟨⟨z0,z1,z2,z3⟩,zf⟩:=aQ;obtain ⟨P,hP⟩:=n_m (snP p);rw [hP] at iM ⊢;have Dx:=hid hP;clear p3 x3 ho hP HO;unfold plV;go_wp2_with fail;obtain ⟨v9,e9,q3,q4⟩:=iM.out;injection e9 with e9
 subst e9;exact bodyPost_ret (v:=plV P (.slice C0 j0 k0) (.slice C1 P.cs.length k1)) (by simp [results,Tryz.results60,go_sem,z0,z1,z2,z3,plV]) rfl (by rw [Dx.out]; exact ⟨_,rfl,q3,q4⟩)
end Go.Proofs.YtcepajijiabkmaaGreat
