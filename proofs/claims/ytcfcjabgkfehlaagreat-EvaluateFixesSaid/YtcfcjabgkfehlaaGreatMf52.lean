/- Layer 40: awake: x < 3 at x = 2. -/
import Derived.Test.YtcfcjabgkfehlaaGreatMf46
import Derived.Test.YtcfcjabgkfehlaaGreatMf50
import Derived.Test.YtcfcjabgkfehlaaGreatMf47
import Derived.Test.YtcfcjabgkfehlaaGreatMf42
import Derived.Test.YtcfcjabgkfehlaaGreatMf51
import Derived.Test.YtcfcjabgkfehlaaGreatMf40
import Derived.Test.YtcfcjabgkfehlaaGreatMf48
import Derived.Deep.CutBlock
set_option linter.unusedSimpArgs false
set_option linter.unusedVariables false
set_option maxRecDepth 100000
set_option maxHeartbeats 8000000
namespace Go.Proofs.YtcfcjabgkfehlaaGreat
open Go.RowKit
def xx:ByteArray:=⟨#[120]⟩
def f3:Fm:=.atom (.name xx) 1 (.num 3)
theorem qcq:f3.free=[xx]:=by simp [f3,Fm.free,Fm.fold,Tm.fold,qaf,has]
theorem yci:kac (yw [(xx,2)]) f3.free=true:=by rw [qcq]; simp [kac,yw]
theorem zcw:f3.pre.any Fm.bad=false:=by
 have h:yal 3=1:=wa1 (by decide);simp [f3,Fm.pre,Fm.bad,Tm.large,Tm.deg,Tm.wt,h,zab]
theorem kcy:f3.tv (yw [(xx,2)])=true:=by
 simp [f3,Fm.tv,Tm.val,yw,yad,wa0]
 decide
theorem jcq:qai f3 [(xx,2)]=(true,0):=by
 unfold qai;rw [if_neg (by simp [f3,Fm.bound]),if_neg (by rw [yci]; simp),if_neg (by rw [zcw]; simp),kcy]
theorem zcd:rlen (2:Rat)<=1:=by
 have h:(dg 2).length=1:=by rw [jap (by decide) (by decide)]; rfl
 have:=uag 2 (L:=1) (by show (dg 2).length<=1; omega) (by omega);simpa using this
theorem kbz {W:World} {v:Value} {b1:Bool} {A1 B1:Option Addr} {n1 c1 k1 d1:Nat} (m1:kab W (.agg #[.bool b1,.slice A1 n1 c1,.slice B1 k1 d1]) ((2:Int):Rat)) (hf:FmV W 1 f3 v) :
 Calls Tryz.prog 78 #[v,.slice (some ⟨W.heap.size,0,none⟩) 1 1] (W.alloc (.cells #[.string ⟨#[120]⟩,.bool b1,.slice A1 n1 c1,.slice B1 k1 d1] 113)) (wbf (true,0) (W.alloc (.cells #[.string ⟨#[120]⟩,.bool b1,.slice A1 n1 c1,.slice B1 k1 d1] 113))):=by
 rw [<- jcq];have hx:Ext W (W.alloc (.cells #[.string ⟨#[120]⟩,.bool b1,.slice A1 n1 c1,.slice B1 k1 d1] 113)):=(Ext.refl W).alloc _;refine qa9 (L:=1) (vals:=[(xx,2)]) (by omega) (by omega) f3 (hf.ext hx) ?_ rfl (by simp [f3,Fm.sz,Tm.sz]) (fun _ _ _=>?_)
 · refine ⟨_,1,rfl,by simp,by simp,fun j hj=>?_⟩;have:j=0:=by simp at hj; omega
   subst this;refine ⟨_,b1,A1,n1,c1,B1,k1,d1,rfl,by simp,?_,?_⟩
   · rw [jq];refine ⟨?_,?_,?_,?_⟩ <;> simp [go_sem,xx]
   · have h2:(((2:Int):Rat))=2:=by rfl
     rw [h2] at m1;exact (m1.raw.mono zcd).ext hx
 · refine ⟨⟨?_,?_⟩,⟨trivial,?_⟩⟩
   · simp [Tm.covered,yw]
   · simp [Tm.bt]
   · simp [Tm.bt]
theorem ya1 (w:World):Calls Tryz.prog 35 #[] w (jab true w):=by
 go_enter Tryz.func35,Tryz.ntmps35;go_wp2_with fail;obtain ⟨W,hW⟩:∃ W,(w.alloc (.cells #[.int .u32 3] 103)).alloc (.cells #[.iface 102 (.agg #[.string ⟨#[120]⟩]),.int .i64 1,.iface 105 (.agg #[.bool false,.slice (some ⟨w.heap.size,0,none⟩) 1 1])] 109)=W:=⟨_,rfl⟩;have hWx:Ext w W:=by rw [<- hW]; exact ((Ext.refl w).alloc _).alloc _
 have hWs:W.heap.size=w.heap.size+1+1:=by rw [<- hW]; simp
 have hd:W.cell? ⟨w.heap.size,0,none⟩=some (.int .u32 3):=by rw [<- hW]; simp [go_sem]
 have HB:Hid (∀ W',Ext W W'->(Ext W W'/\W'.cell? ⟨w.heap.size+1,0,none⟩=some (.iface 102 (.agg #[.string ⟨#[120]⟩]))/\W'.cell? ⟨w.heap.size+1,1,none⟩=some (.int .i64 1)/\W'.cell? ⟨w.heap.size+1,2,none⟩=some (.iface 105 (.agg #[.bool false,.slice (some ⟨w.heap.size,0,none⟩) 1 1])))):=by
  intro W' hx;obtain ⟨hc,hf⟩:=hx.cells;refine ⟨hx,?_,?_,?_⟩ <;> (rw [hc _ _ (by omega),<- hW]; simp [go_sem])
 have HFV:Hid (FmV W 1 f3 (.iface 109 (.agg #[.iface 102 (.agg #[.string ⟨#[120]⟩]),.int .i64 1,.iface 105 (.agg #[.bool false,.slice (some ⟨w.heap.size,0,none⟩) 1 1])]))):=by
  refine ⟨_,_,rfl,rfl,⟨_,rfl,false,_,[3],rfl,⟨some ⟨w.heap.size,0,none⟩,1,rfl,by simp,by simp,?_,?_⟩,?_,by simp⟩⟩
  · exact jf.cons (by decide) jf.nil
  · intro _;refine ⟨_,rfl,by show w.heap.size < _; omega,fun j hj=>?_⟩;have:j=0:=by simp at hj; omega
    subst this;rw [jq]; exact hd
  · simp [sgn,val]
 have HWX:=Lib.hid hWx;rw [hW];clear hW hd hWx hWs;have y0:Ext W W.drew:=(Ext.refl W).drew;have Y0:=Lib.hid y0;clear y0
 go_region_held3 (fun W' => Ext W W' /\ W'.cell? ⟨w.heap.size + 1, 0, none⟩ = some (.iface 102 (.agg #[.string ⟨#[120]⟩])) /\ W'.cell? ⟨w.heap.size + 1, 1, none⟩ = some (.int .i64 1) /\ W'.cell? ⟨w.heap.size + 1, 2, none⟩ = some (.iface 105 (.agg #[.bool false, .slice (some ⟨w.heap.size, 0, none⟩) 1 1])))
  (first | with_reducible exact HB.out _ Y0.out | with_reducible exact HB.out _ y1 | with_reducible exact HB.out _ (y1.alloc _) | with_reducible exact HB.out _ y2)
  (first
    | (go_at_call 79
       refine (jav 2 _ (by omega) (by omega)).mono ?_;rintro e v1 ⟨z1,rfl,m1,x1⟩;obtain ⟨b1,A1,n1,c1,B1,k1,d1,rfl⟩:=m1.unpack
       have y1:Ext W v1:=Ext.trans Y0.out x1)
    | (go_at_call 78
       refine (kbz m1 (HFV.out.ext y1)).mono ?_;rintro e v2 ⟨rfl,x2⟩
       have y2:Ext W v2:=Ext.trans (y1.alloc _) x2))
 all_goals
  have X2:=Lib.hid (HWX.out.trans y2);clear y1 y2 x1 x2 m1 HB HWX Y0 HFV;go_wp2_with fail;refine (va1 1 (-5) _).mono ?_;rintro e w3 ⟨rfl,rfl⟩;go_wp2_with fail;go_ret;exact ⟨rfl,X2.out⟩
/- Law 40: EvaluateFixes answers true. -/
set_option maxRecDepth 100000
set_option maxHeartbeats 8000000
def MxB (W:World) (g:Nat) (m:Mx) (V:World):Prop:=Ext W V/\W.heap.size<=g/\g < V.heap.size/\∃ A0 n0 c0 A1 n1 c1 K c,zt V g m (.slice A0 n0 c0) (.slice A1 n1 c1) (.slice K m.ks.length c)/\MxV V (fun _=>True) m (mxV m (.slice A0 n0 c0) (.slice A1 n1 c1) (.slice K m.ks.length c))
theorem gco {W w7:World} {m:Mx} {q:Nat->Prop} {A0 A1 K:Option Addr} {n0 c0 n1 c1 c:Nat} (hx:Ext W w7) (hm:MxV w7 q m (mxV m (.slice A0 n0 c0) (.slice A1 n1 c1) (.slice K m.ks.length c))) (T:TypeId):MxB W w7.heap.size m (w7.alloc (.cells #[.int .i64 m.kind,.int .i64 m.rel,.int .i64 m.p.lv,.bool m.p.neg,.slice A0 n0 c0,.slice A1 n1 c1,.slice K m.ks.length c] T)):=
 ⟨hx.alloc _,hx.size,by simp,A0,n0,c0,A1,n1,c1,K,c,zt.new w7 m _ _ _ _,(hm.ext ((Ext.refl w7).alloc _)).mono fun _ _=>trivial⟩
theorem kb6 {W w7:World} {g:Nat} {m:Mx} {q:Nat->Prop} {A0 A1 K:Option Addr} {n0 c0 n1 c1 c:Nat} (hx:Ext W w7) (hg:W.heap.size<=g) (hl:g < w7.heap.size) (hz:wab w7 g) (hm:MxV w7 q m (mxV m (.slice A0 n0 c0) (.slice A1 n1 c1) (.slice K m.ks.length c))) (hq:∀ b,q b->b ≠ g) :
 MxB W g m (((((((w7.setCell ⟨g,0,none⟩ (.int .i64 m.kind)).setCell ⟨g,1,none⟩ (.int .i64 m.rel)).setCell ⟨g,2,none⟩ (.int .i64 m.p.lv)).setCell ⟨g,3,none⟩ (.bool m.p.neg)).setCell ⟨g,4,none⟩ (.slice A0 n0 c0)).setCell ⟨g,5,none⟩ (.slice A1 n1 c1)).setCell ⟨g,6,none⟩ (.slice K m.ks.length c)):=by
 obtain ⟨v,e,h1,h2⟩:=jaf (q':=fun _=>True) hx hg hz hm (fun b _ hb=>⟨hq b hb,trivial⟩);injection e with e
 subst e;refine ⟨h2,hg,by simpa [World.setCell] using hl,A0,n0,c0,A1,n1,c1,K,c,?_,h1⟩;obtain ⟨⟨z0,z1,z2,z3,z4,z5,z6⟩,-⟩:=hz;have k1:(w7.setCell ⟨g,0,none⟩ (.int .i64 m.kind)).cell? ⟨g,1,none⟩=some (.int .i64 0):=by
  iterate 1 rw [World.cell?_setCell_other _ _ _ _ (by simp)]
  exact z1
 have k2:((w7.setCell ⟨g,0,none⟩ (.int .i64 m.kind)).setCell ⟨g,1,none⟩ (.int .i64 m.rel)).cell? ⟨g,2,none⟩=some (.int .i64 0):=by
  iterate 2 rw [World.cell?_setCell_other _ _ _ _ (by simp)]
  exact z2
 have k3:(((w7.setCell ⟨g,0,none⟩ (.int .i64 m.kind)).setCell ⟨g,1,none⟩ (.int .i64 m.rel)).setCell ⟨g,2,none⟩ (.int .i64 m.p.lv)).cell? ⟨g,3,none⟩=some (.bool false):=by
  iterate 3 rw [World.cell?_setCell_other _ _ _ _ (by simp)]
  exact z3
 have k4:((((w7.setCell ⟨g,0,none⟩ (.int .i64 m.kind)).setCell ⟨g,1,none⟩ (.int .i64 m.rel)).setCell ⟨g,2,none⟩ (.int .i64 m.p.lv)).setCell ⟨g,3,none⟩ (.bool m.p.neg)).cell? ⟨g,4,none⟩=some (.slice none 0 0):=by
  iterate 4 rw [World.cell?_setCell_other _ _ _ _ (by simp)]
  exact z4
 have k5:(((((w7.setCell ⟨g,0,none⟩ (.int .i64 m.kind)).setCell ⟨g,1,none⟩ (.int .i64 m.rel)).setCell ⟨g,2,none⟩ (.int .i64 m.p.lv)).setCell ⟨g,3,none⟩ (.bool m.p.neg)).setCell ⟨g,4,none⟩ (.slice A0 n0 c0)).cell? ⟨g,5,none⟩=some (.slice none 0 0):=by
  iterate 5 rw [World.cell?_setCell_other _ _ _ _ (by simp)]
  exact z5
 have k6:((((((w7.setCell ⟨g,0,none⟩ (.int .i64 m.kind)).setCell ⟨g,1,none⟩ (.int .i64 m.rel)).setCell ⟨g,2,none⟩ (.int .i64 m.p.lv)).setCell ⟨g,3,none⟩ (.bool m.p.neg)).setCell ⟨g,4,none⟩ (.slice A0 n0 c0)).setCell ⟨g,5,none⟩ (.slice A1 n1 c1)).cell? ⟨g,6,none⟩=some (.slice none 0 0):=by
  iterate 6 rw [World.cell?_setCell_other _ _ _ _ (by simp)]
  exact z6
 refine ⟨?_,?_,?_,?_,?_,?_,?_⟩
 · iterate 6 rw [World.cell?_setCell_other _ _ _ _ (by simp)]
   exact World.cell?_setCell_same _ _ _ z0
 · iterate 5 rw [World.cell?_setCell_other _ _ _ _ (by simp)]
   exact World.cell?_setCell_same _ _ _ k1
 · iterate 4 rw [World.cell?_setCell_other _ _ _ _ (by simp)]
   exact World.cell?_setCell_same _ _ _ k2
 · iterate 3 rw [World.cell?_setCell_other _ _ _ _ (by simp)]
   exact World.cell?_setCell_same _ _ _ k3
 · iterate 2 rw [World.cell?_setCell_other _ _ _ _ (by simp)]
   exact World.cell?_setCell_same _ _ _ k4
 · iterate 1 rw [World.cell?_setCell_other _ _ _ _ (by simp)]
   exact World.cell?_setCell_same _ _ _ k5
 · exact World.cell?_setCell_same _ _ _ k6
theorem gcc {w:World} {L:Nat} {A:Option Addr} {c:Nat} {l:List Rat} (h:RsV w L (.slice A l.length c) l) (n:Nat) (hn:n<=l.length):RsV w L (.slice A (l.take n).length c) (l.take n):=by
 obtain ⟨A',c',e,h1,h2,h3⟩:=h;simp only [Value.slice.injEq,true_and] at e;obtain ⟨rfl,rfl⟩:=e;refine ⟨_,_,rfl,by rw [List.length_take]; omega,h2,fun j hj=>?_⟩;rw [List.length_take] at hj;rw [List.getElem_take];exact h3 j (by omega)
theorem xbw (a:Addr) (n:Nat) (hn:n<=4) (w:World):(Instr.sliceAt 66 (.pointer (some a)) none (some (.int .i64 n)) none).run Tryz.prog w=.ok (.slice (some a) n 4) w:=by
 have ha:Tryz.prog.arrayLen 66=4:=by kernel_rfl
 have hu:Tryz.prog.underlying 66=some (.array (Tryz.prog.arrayLen 66) (Tryz.prog.elem 66)):=by kernel_rfl
 have he:Tryz.prog.elem 66=65:=by kernel_rfl
 rw [run_sliceAt_array_h w _ _ hu .i64 n (by omega) (by rw [ha]; omega),he];have hs:(sizeOf 65).run Tryz.prog w=.ok 3 w:=by kernel_rfl
 rw [hs];simp only [Result.andThen,slicedAt,ha];simp;cases a; rfl
def PlB (W:World) (g:Nat) (p:Pl) (V:World):Prop:=Ext W V/\W.heap.size<=g/\g < V.heap.size/\(∀ i,V.frozen? ⟨g,i,none⟩=false)/\∃ A0 n0 c0 A1 n1 c1,uf V g p (.slice A0 n0 c0) (.slice A1 n1 c1)/\PlV V (fun b=>b ≠ g) p (plV p (.slice A0 n0 c0) (.slice A1 n1 c1))
theorem PlB.ext {W V V':World} {g:Nat} {p:Pl} (h:PlB W g p V) (hx:Ext V V'):PlB W g p V':=by
 obtain ⟨h1,h2,h4,h5,A0,n0,c0,A1,n1,c1,h6,h7⟩:=h;exact ⟨h1.trans hx,h2,Nat.lt_of_lt_of_le h4 hx.size,fun i=>(hx.frozen (p:=⟨g,i,none⟩) h4).trans (h5 i),A0,n0,c0,A1,n1,c1,h6.ext hx h4,h7.ext hx⟩
theorem PlB.store {W V:World} {g:Nat} {p p':Pl} (h:PlB W g p V) {q:Nat->Prop} {A0 A1:Option Addr} {n0 c0 n1 c1:Nat} (hp:PlV V q p' (plV p' (.slice A0 n0 c0) (.slice A1 n1 c1))) (hq:∀ b,q b->b ≠ g) :
 PlB W g p' ((((V.setCell ⟨g,0,none⟩ (.int .i64 p'.lv)).setCell ⟨g,1,none⟩ (.bool p'.neg)).setCell ⟨g,2,none⟩ (.slice A0 n0 c0)).setCell ⟨g,3,none⟩ (.slice A1 n1 c1)):=by
 obtain ⟨h1,h2,h4,h5,B0,m0,d0,B1,m1,d1,h6,h7⟩:=h;exact ⟨(((h1.setCell h2 _).setCell h2 _).setCell h2 _).setCell h2 _,h2,by simpa [World.setCell] using h4,fun i=>by simp only [World.frozen?_setCell]; exact h5 i,_,_,_,_,_,_,h6.set,h6.keep _ _ _ _ hp fun b _ hb=>⟨hq b hb,hq b hb⟩⟩
theorem ybl {w:World} {q:Nat->Prop} {kk:Int} {cs:Array Value} {x0 x1 x2 x3:Fr} (hk0:0<=kk) (hk1:kk < 256) (t:Mx) (v:Value) (h:MxV w q t v) (hr:zb1 w cs.toList x0 x1 x2 x3):Calls Tryz.prog 8 #[v,.agg cs,.int .u8 kk] w (jab true w):=by
 have HT:=Lib.hid h;have hdig:=HT.out.dig;obtain ⟨A0,n0,c0,A,n1,c1,MK,c,rfl,-,hl1,hl2,-⟩:=h.open_;have HR4:=Lib.hid hr;obtain ⟨XA0,xc0,XB0,xd0,XA1,xc1,XB1,xd1,XA2,xc2,XB2,xd2,XA3,xc3,XB3,xd3,e,-⟩:=hr;obtain rfl:cs=#[.bool x0.neg,.slice XA0 x0.ds.length xc0,.slice XB0 x0.es.length xd0,.bool x1.neg,.slice XA1 x1.ds.length xc1,.slice XB1 x1.es.length xd1,.bool x2.neg,.slice XA2 x2.ds.length xc2,.slice XB2 x2.es.length xd2,.bool x3.neg,.slice XA3 x3.ds.length xc3,.slice XB3 x3.es.length xd3]:=Array.toList_inj.1 e;clear h e;unfold mxV;unfold mxV at HT;obtain ⟨W,hW⟩:∃ W,(w.alloc (.cells #[.int .i64 t.kind,.int .i64 t.rel,.int .i64 t.p.lv,.bool t.p.neg,.slice A0 n0 c0,.slice A n1 c1,.slice MK t.ks.length c] 63)).alloc (.cells #[.bool x0.neg,.slice XA0 x0.ds.length xc0,.slice XB0 x0.es.length xd0,.bool x1.neg,.slice XA1 x1.ds.length xc1,.slice XB1 x1.es.length xd1,.bool x2.neg,.slice XA2 x2.ds.length xc2,.slice XB2 x2.es.length xd2,.bool x3.neg,.slice XA3 x3.ds.length xc3,.slice XB3 x3.es.length xd3] 66)=W:=⟨_,rfl⟩;have hWx:Ext w W:=by rw [<- hW]; exact ((Ext.refl w).alloc _).alloc _
 have hWs:W.heap.size=w.heap.size+1+1:=by rw [<- hW]; simp
 have hbx:zt W w.heap.size t (.slice A0 n0 c0) (.slice A n1 c1) (.slice MK t.ks.length c):=by rw [<- hW]; exact (zt.new w t _ _ _ _).ext ((Ext.refl _).alloc _) (by simp)
 have hbw:W.heap[w.heap.size+1]?=some (.cells #[.bool x0.neg,.slice XA0 x0.ds.length xc0,.slice XB0 x0.es.length xd0,.bool x1.neg,.slice XA1 x1.ds.length xc1,.slice XB1 x1.es.length xd1,.bool x2.neg,.slice XA2 x2.ds.length xc2,.slice XB2 x2.es.length xd2,.bool x3.neg,.slice XA3 x3.ds.length xc3,.slice XB3 x3.es.length xd3] 66 (0,0)):=by
  rw [<- hW];have:=heap_alloc_new (w.alloc (.cells #[.int .i64 t.kind,.int .i64 t.rel,.int .i64 t.p.lv,.bool t.p.neg,.slice A0 n0 c0,.slice A n1 c1,.slice MK t.ks.length c] 63)) (.cells #[.bool x0.neg,.slice XA0 x0.ds.length xc0,.slice XB0 x0.es.length xd0,.bool x1.neg,.slice XA1 x1.ds.length xc1,.slice XB1 x1.es.length xd1,.bool x2.neg,.slice XA2 x2.ds.length xc2,.slice XB2 x2.es.length xd2,.bool x3.neg,.slice XA3 x3.ds.length xc3,.slice XB3 x3.es.length xd3] 66)
  rwa [World.size_alloc] at this
 have HXS:=Lib.hid (zcz HR4.out hbw hWx);have HWX:=Lib.hid hWx;have HBX:Hid (∀ W',Ext W W'->W'.cell? ⟨w.heap.size,0,none⟩=some (.int .i64 t.kind)/\W'.cell? ⟨w.heap.size,1,none⟩=some (.int .i64 t.rel)/\W'.cell? ⟨w.heap.size,2,none⟩=some (.int .i64 t.p.lv)/\W'.cell? ⟨w.heap.size,3,none⟩=some (.bool t.p.neg)/\W'.cell? ⟨w.heap.size,4,none⟩=some (.slice A0 n0 c0)/\W'.cell? ⟨w.heap.size,5,none⟩=some (.slice A n1 c1)/\W'.cell? ⟨w.heap.size,6,none⟩=some (.slice MK t.ks.length c)):=Lib.hid (fun W' hx=>hbx.ext hx (by omega));have HARR:Hid (∀ W',Ext W W'->W'.heap[w.heap.size+1]?=some (.cells #[.bool x0.neg,.slice XA0 x0.ds.length xc0,.slice XB0 x0.es.length xd0,.bool x1.neg,.slice XA1 x1.ds.length xc1,.slice XB1 x1.es.length xd1,.bool x2.neg,.slice XA2 x2.ds.length xc2,.slice XB2 x2.es.length xd2,.bool x3.neg,.slice XA3 x3.ds.length xc3,.slice XB3 x3.es.length xd3] 66 (0,0))):=Lib.hid (fun W' hx=>(hx.below.block _ (by omega)).trans hbw);obtain ⟨n,hn⟩:∃ n:Nat,kk.tmod 5=n:=⟨(kk.tmod 5).toNat,by have:=Int.tmod_nonneg 5 hk0; omega⟩;have hn4:n<=4:=by have:=Int.tmod_lt_of_pos kk (show (0:Int) < 5 by omega); omega
 have HN:=Lib.hid hn;clear hWx hbx hbw HR4 hn;go_enter Tryz.func8,Tryz.ntmps8;go_wp2_with fail;clear hW;refine (ya1 _).mono ?_;rintro e w1 ⟨rfl,y1⟩;have X1:=Lib.hid y1;obtain ⟨b0,b1,b2,b3,b4,b5,b6⟩:=HBX.out _ y1;clear y1;have HFE:=Lib.hid (xb8 60 (by omega) t _ w1 (HT.out.ext (HWX.out.trans X1.out)));go_wp2_with fail;refine HFE.out.mono ?_;rintro e w2 ⟨rfl,y2⟩;have X2:=Lib.hid (X1.out.trans y2);clear y2 HFE b0 b1 b2 b3 b4 b5 b6;obtain ⟨b0,b1,b2,b3,b4,b5,b6⟩:=HBX.out _ X2.out;have hbw:=HARR.out _ X2.out
 by_cases hf:t.few 60=true
 case neg =>
  rw [show t.few 60=false by simpa using hf];clear hf hbw;clear b0 b1 b2 b3 b4 b5 b6;go_wp2_with fail;refine (ya1 _).mono ?_;rintro e w9 ⟨rfl,x9⟩;have X9:=Lib.hid (HWX.out.trans (X2.out.trans x9));clear x9;go_wp2_with fail;go_ret;exact ⟨rfl,X9.out⟩
 rw [hf];obtain ⟨hsz,hsm⟩:=Mx.few_le hf;have HFA:=Lib.hid (fun (W':World) (hx:Ext W W')=>jb8 (HXS.out.ext hx));clear hf;go_wp2_with fail;refine (HFA.out _ X2.out).mono ?_;rintro e w3 ⟨rfl,y3⟩;have X3:=Lib.hid (X2.out.trans y3);clear y3 HFA b0 b1 b2 b3 b4 b5 b6 hbw
 by_cases hg:kaf [x0,x1,x2,x3]=true
 case neg =>
  rw [show kaf [x0,x1,x2,x3]=false by simpa using hg];clear hg;obtain ⟨b0,b1,b2,b3,b4,b5,b6⟩:=HBX.out _ X3.out;clear b0 b1 b2 b3 b4 b5 b6;go_wp2_with fail;refine (ya1 _).mono ?_;rintro e w9 ⟨rfl,x9⟩;have X9:=Lib.hid (HWX.out.trans (X3.out.trans x9));clear x9;go_wp2_with fail;go_ret;exact ⟨rfl,X9.out⟩
 rw [hg];obtain ⟨xs,hxs⟩:∃ xs,[x0,x1,x2,x3].map Fr.q=xs:=⟨_,rfl⟩;have hlen:xs.length=4:=by rw [<- hxs]; rfl
 have HRS:Hid (RsV W 3 (.slice (some ⟨w.heap.size+1,0,none⟩) 4 4) xs):=Lib.hid (by rw [<- hxs]; exact HXS.out.few hg);obtain ⟨ys,hys⟩:∃ ys,xs.take n=ys:=⟨_,rfl⟩;have hyl:ys.length=n:=by rw [<- hys,List.length_take]; omega
 have hy3:∀ y ∈ ys,rlen y<=3:=fun y hy=>by
  rw [<- hys] at hy;obtain ⟨i,hi,e⟩:=List.getElem_of_mem (List.mem_of_mem_take hy);have h:=wbs (L:=3) (by omega) HRS.out ((i:Int)+1);unfold rho at h;rw [show (((i:Int)+1) - 1).toNat=i by omega,List.getD_eq_getElem?_getD,List.getElem?_eq_getElem hi,Option.getD_some,e] at h;exact h
 have hρy:∀ i:Nat,i < ys.length->rho xs ((i:Int)+1)=ys.getD i 0:=fun i hi=>by
  unfold rho;rw [show (((i:Int)+1) - 1).toNat=i by omega,List.getD_eq_getElem?_getD,List.getD_eq_getElem?_getD,<- hys,List.getElem?_take_of_lt (by omega)]
 have HYS:Hid (RsV W 3 (.slice (some ⟨w.heap.size+1,0,none⟩) ys.length 4) ys):=Lib.hid (by
  have h:=HRS.out;rw [<- hlen] at h;have:=gcc (c:=4) (by rw [hlen] at h ⊢; exact h) n (by omega)
  rwa [hys] at this)
 rw [hyl] at HYS;obtain ⟨F,hF⟩:∃ F,t.fix ys=F:=⟨_,rfl⟩;have HFF:=Lib.hid (Mx.fix_fit hsm hdig hy3 (by omega));have HFZ:Hid (F.sz<=60):=Lib.hid (by rw [<- hF]; exact Nat.le_trans (t.fix_sz ys) hsz);have HFT:Hid (F.tv (rho xs)=t.tv (rho xs)):=Lib.hid (by rw [<- hF]; exact Mx.fix_tv hρy t);have HFN:Hid (F.nrm=F):=Lib.hid (by rw [<- hF]; exact t.fix_nrm ys);have HFP:Hid (F.pols=t.pols.map fun p=>qo ys p n):=Lib.hid (by rw [<- hF,t.fix_pols ys,hyl]);rw [hF] at HFF;have HFB:Hid (F.each wap):=Lib.hid (Mx.each_mono (fun p hp=>hp.bigN (by omega) (by omega)) F HFF.out);have HFE3:Hid (F.each fun p=>p.eb 3<=1099511627776):=Lib.hid (Mx.each_mono (fun p hp=>hp.eb_ (by omega)) F HFF.out);have HFS:Hid (F.each fun p=>p.sz<=1099511627776):=Lib.hid (Mx.each_mono (fun p hp=>by have:=hp.small (by omega); omega) F HFF.out);have hlv:=Mx.lvl_4 (t.sz+1) t (Nat.lt_succ_self _);have hlvF:=Mx.lvl_4 (F.sz+1) F (Nat.lt_succ_self _);have HAT:=Lib.hid (fun (W':World) (hx:Ext W W')=>kcp (L:=3) (by omega) (by omega) (HRS.out.ext hx) t _ (by omega) hsm (Mx.small_fit hsm) (HT.out.ext (HWX.out.trans hx)));rw [hlen,if_pos (show t.lvl<=((4:Nat):Int) by omega)] at HAT;have HAF:=Lib.hid (fun (W':World) (v':Value) (hx:Ext W W') (hm:MxV W' (fun _=>True) F v')=>ubt (L:=3) (by omega) (by omega) (HRS.out.ext hx) F v' (by have:=HFZ.out; omega) HFB.out HFE3.out hm);rw [hlen,if_pos (show F.lvl<=((4:Nat):Int) by omega),HFT.out] at HAF;have HPO:=Lib.hid (fun (W':World) (hx:Ext W W')=>zce t _ W' (by omega) hsm (HT.out.ext (HWX.out.trans hx)));have HPF:=Lib.hid (fun (W':World) (v':Value) (hm:MxV W' (fun _=>True) F v')=>kbj F v' W' (by have:=HFZ.out; omega) HFB.out hm);rw [HFP.out] at HPF;have HNF:=Lib.hid (fun (W':World) (v':Value) (hm:MxV W' (fun _=>True) F v')=>vb6 F v' W' (by have:=HFZ.out; omega) HFB.out hm);rw [HFN.out] at HNF;have HEQ:=Lib.hid (fun (W':World) (v' u':Value) (q':Nat->Prop) (hm:MxV W' (fun _=>True) F v') (hu:MxV W' q' F u')=>jcp F F v' u' (by have:=HFZ.out; omega) HFS.out hm hu);rw [show eqB F F=true from qao rfl] at HEQ;have HFX:Hid (∀ W',Ext W W'->Calls Tryz.prog 38 #[mxV t (.slice A0 n0 c0) (.slice A n1 c1) (.slice MK t.ks.length c),.slice (some ⟨w.heap.size+1,0,none⟩) n 4] W' (uaa (fun b=>W'.heap.size<=b) F W')):=Lib.hid (fun W' hx=>by
  have h:=xcq (L:=3) (xs:=ys) (by omega) (by omega) (by omega) t _ (by omega) (Mx.each_mono (fun p hp=>⟨hp.2,Fit.of_raw hp.1.2 hp.1.1.1 hp.1.1.2 (by decide)⟩) t (t.each_and (t.each_and (t.small_each hsm) hdig) (Mx.small_bigN hsm))) (HT.out.ext (HWX.out.trans hx)) (by rw [hyl]; exact HYS.out.ext hx);rw [hF,hyl] at h
  exact h)
 have HPK:Hid (∀ p ∈ t.pols,∀ j,Fit (qo ys p j) 40 (5+3 * 40 * j)):=Lib.hid (fun p hp j=>by
  obtain ⟨p0,⟨⟨hsz,hdm⟩,hdg⟩,rfl⟩:=t.pols_of (t.each_and (t.small_each hsm) hdig) p hp
  exact xax hy3 (by omega) (Fit.of_raw hdg hsz hdm (by decide)) j)
 unfold mxV at HPO HFX;obtain ⟨tv,htv⟩:∃ tv,t.tv (rho xs)=tv:=⟨_,rfl⟩;rw [htv] at HAT HAF;have HSS:Hid (∀ W',Ext W W'->(Ext W W'/\W'.cell? ⟨w.heap.size,0,none⟩=some (.int .i64 t.kind)/\W'.cell? ⟨w.heap.size,1,none⟩=some (.int .i64 t.rel)/\W'.cell? ⟨w.heap.size,2,none⟩=some (.int .i64 t.p.lv)/\W'.cell? ⟨w.heap.size,3,none⟩=some (.bool t.p.neg)/\W'.cell? ⟨w.heap.size,4,none⟩=some (.slice A0 n0 c0)/\W'.cell? ⟨w.heap.size,5,none⟩=some (.slice A n1 c1)/\W'.cell? ⟨w.heap.size,6,none⟩=some (.slice MK t.ks.length c))):=Lib.hid (fun W' hx=>⟨hx,HBX.out _ hx⟩);have HYL:=Lib.hid hyl;clear hg hxs hlv hlvF hsm hdig HXS HT hsz htv hρy hy3 hys hyl hF hlen HFF HFB HFE3 HFS HFN HFT HFP HRS;have Y0:=Lib.hid (X3.out.drew);have hN:=HN.out;go_upto_region 4 with fail;clear hN
 go_cut [8] from 34 to 37 (fun s8 wc=>∃ g,s8=.pointer (some ⟨g,0,none⟩)/\Hid (MxB W g F wc))
 case first =>
  refine wp_region_held_drew (S:=fun W'=>Ext W W') (by kernel_rfl) Y0.out (fun hHeld=>?_);refine tk 0 ?_ (hy:=Or.inl ⟨by rfl,by intro w' hSw; obtain ⟨b0,b1,b2,b3,b4,b5,b6⟩:=HBX.out w' hSw; go_simp; (try (with_reducible rfl))⟩);refine tk 1 ?_;refine tk 2 ?_ (hy:=Or.inl ⟨by rfl,by intro w' hSw; (have hsl:=xbw ⟨w.heap.size+1,0,none⟩ n hn4 w'); go_simp; (try (with_reducible rfl))⟩);refine wpAnyH_ready (rs:=[3,4]) (by kernel_rfl) (by simp) ?_;refine AllReadyH.cons rfl (fun K hK=>?cF) (AllReadyH.cons rfl (fun K hK=>?aF) AllReadyH.nil)
  case cF =>
   go_simp
   go_at_call 38
   refine (HFX.out _ Y0.out).mono ?_;rintro e w7 ⟨v7,rfl,m7,x7⟩;obtain ⟨C0,j0,f0,C1,j1,f1,C2,f2,rfl,-⟩:=id m7.open_;have z1:Ext W w7:=Y0.out.trans x7;refine hK.out _ _ z1 (fun hHeld=>?_);clear hK K
   try simp only [Act.put,List.getElem_toArray,List.getElem_cons_zero,List.getElem_cons_succ,List.setIfInBounds_toArray,List.set_cons_zero,List.set_cons_succ]
   refine wpAnyH_ready (rs:=[4]) (by kernel_rfl) (by simp) ?_;refine AllReadyH.cons rfl (fun K hK=>?_) AllReadyH.nil;go_simp;refine hK.out _ _ (z1.alloc _) (fun hHeld=>?_);clear hK K
   try simp only [Act.put,List.getElem_toArray,List.getElem_cons_zero,List.getElem_cons_succ,List.setIfInBounds_toArray,List.set_cons_zero,List.set_cons_succ]
   refine wpAnyH_ready (rs:=[5]) (by kernel_rfl) (by simp) ?_;refine AllReadyH.cons rfl (fun K hK=>?_) AllReadyH.nil;unfold mxV;go_simp;refine (?g1:∀ V,MxB W w7.heap.size F V->K _ V) _ (gco z1 m7 _);intro V hV;refine hK.out _ _ hV.1 (fun hHeld=>?_);clear hK K
   try simp only [Act.put,List.getElem_toArray,List.getElem_cons_zero,List.getElem_cons_succ,List.setIfInBounds_toArray,List.set_cons_zero,List.set_cons_succ]
   refine wpAnyH_done (by kernel_rfl) ?_ _;clear m7 x7 z1 hHeld;go_wp2_with fail
   go_meet
   exact ⟨_,rfl,hV⟩
  case aF =>
   go_simp;refine hK.out _ _ (Y0.out.alloc _) (fun hHeld=>?_);clear hK K
   try simp only [Act.put,List.getElem_toArray,List.getElem_cons_zero,List.getElem_cons_succ,List.setIfInBounds_toArray,List.set_cons_zero,List.set_cons_succ]
   refine wpAnyH_ready (rs:=[3]) (by kernel_rfl) (by simp) ?_;refine AllReadyH.cons rfl (fun K hK=>?_) AllReadyH.nil;go_simp
   go_at_call 38
   refine (HFX.out _ (Y0.out.alloc _)).mono ?_;rintro e w7 ⟨v7,rfl,m7,x7⟩;obtain ⟨C0,j0,f0,C1,j1,f1,C2,f2,rfl,-⟩:=id m7.open_;have z1:Ext W w7:=(Y0.out.alloc _).trans x7;have hl7:w3.heap.size < w7.heap.size:=by have:=x7.size; simp at this; omega
   have hz:wab w7 w3.heap.size:=by
    have:=(wab.new w3.drew 63).ext x7 (by simp);simpa using this
   refine hK.out _ _ z1 (fun hHeld=>?_);clear hK K
   try simp only [Act.put,List.getElem_toArray,List.getElem_cons_zero,List.getElem_cons_succ,List.setIfInBounds_toArray,List.set_cons_zero,List.set_cons_succ]
   refine wpAnyH_ready (rs:=[5]) (by kernel_rfl) (by simp) ?_;refine AllReadyH.cons rfl (fun K hK=>?_) AllReadyH.nil;have hV0:=kb6 z1 (by have:=X3.out.size; omega) hl7 hz m7 (fun b hb=>by
    have hb':_<=b:=hb;simp at hb'
    omega)
   obtain ⟨⟨z00,z01,z02,z03,z04,z05,z06⟩,zf⟩:=hz;simp only [Mx.kind,Mx.rel,Mx.p,Pl.zero,Pl.lv,Pl.neg] at z00 z01 z02 z03;unfold mxV;go_simp;refine (?g2:∀ V,MxB W w3.heap.size F V->K _ V) _ hV0;intro V hV;refine hK.out _ _ hV.1 (fun hHeld=>?_);clear hK K hV0 z00 z01 z02 z03 z04 z05 z06 zf
   try simp only [Act.put,List.getElem_toArray,List.getElem_cons_zero,List.getElem_cons_succ,List.setIfInBounds_toArray,List.set_cons_zero,List.set_cons_succ]
   refine wpAnyH_done (by kernel_rfl) ?_ _;clear m7 x7 z1 hHeld hl7;go_wp2_with fail
   go_meet
   exact ⟨_,rfl,hV⟩
 case rest =>
 obtain ⟨g,rfl,hVh⟩:=hcut;obtain ⟨V,rfl⟩:∃ V,V=wc:=⟨wc,rfl⟩;obtain ⟨hV1,hV2,hV3,G0,g0n,g0c,G1,g1n,g1c,GK,gkc,hgb,hgm⟩:=hVh.out;have HV1:=Lib.hid hV1;have HGB:Hid (∀ W',Ext V W'->W'.cell? ⟨g,0,none⟩=some (.int .i64 F.kind)/\W'.cell? ⟨g,1,none⟩=some (.int .i64 F.rel)/\W'.cell? ⟨g,2,none⟩=some (.int .i64 F.p.lv)/\W'.cell? ⟨g,3,none⟩=some (.bool F.p.neg)/\W'.cell? ⟨g,4,none⟩=some (.slice G0 g0n g0c)/\W'.cell? ⟨g,5,none⟩=some (.slice G1 g1n g1c)/\W'.cell? ⟨g,6,none⟩=some (.slice GK F.ks.length gkc)):=Lib.hid (fun W' hx=>hgb.ext hx hV3);have HGM:=Lib.hid (fun (W':World) (hx:Ext V W')=>hgm.ext hx);unfold mxV at HGM;clear hV1 hgb hgm hVh;have Y1:=Lib.hid (HV1.out.drew);go_upto_region 5 with fail
 go_region_held3 (fun W' => Ext W W' /\ W'.cell? ⟨w.heap.size, 0, none⟩ = some (.int .i64 t.kind) /\ W'.cell? ⟨w.heap.size, 1, none⟩ = some (.int .i64 t.rel) /\ W'.cell? ⟨w.heap.size, 2, none⟩ = some (.int .i64 t.p.lv) /\ W'.cell? ⟨w.heap.size, 3, none⟩ = some (.bool t.p.neg) /\ W'.cell? ⟨w.heap.size, 4, none⟩ = some (.slice A0 n0 c0) /\ W'.cell? ⟨w.heap.size, 5, none⟩ = some (.slice A n1 c1) /\ W'.cell? ⟨w.heap.size, 6, none⟩ = some (.slice MK t.ks.length c))
  (first | with_reducible exact HSS.out _ Y1.out | with_reducible exact HSS.out _ z1)
  ((go_at_call 39
    refine (HAT.out _ Y1.out).mono ?_;rintro e w5 ⟨rfl,y5⟩;have z1:Ext W w5:=Y1.out.trans y5;have z2:Ext V w5:=((Ext.refl V).drew).trans y5
    clear y5))
 all_goals
  have X5:=Lib.hid z2;clear z1 z2 HAT;have HGS:Hid (∀ W',Ext V W'->(Ext V W'/\W'.cell? ⟨g,0,none⟩=some (.int .i64 F.kind)/\W'.cell? ⟨g,1,none⟩=some (.int .i64 F.rel)/\W'.cell? ⟨g,2,none⟩=some (.int .i64 F.p.lv)/\W'.cell? ⟨g,3,none⟩=some (.bool F.p.neg)/\W'.cell? ⟨g,4,none⟩=some (.slice G0 g0n g0c)/\W'.cell? ⟨g,5,none⟩=some (.slice G1 g1n g1c)/\W'.cell? ⟨g,6,none⟩=some (.slice GK F.ks.length gkc))):=Lib.hid (fun W' hx=>⟨hx,HGB.out _ hx⟩);have Y2:=Lib.hid (X5.out.drew);go_upto_region 6 with fail
  go_region_held3 (fun W' => Ext V W' /\ W'.cell? ⟨g, 0, none⟩ = some (.int .i64 F.kind) /\ W'.cell? ⟨g, 1, none⟩ = some (.int .i64 F.rel) /\ W'.cell? ⟨g, 2, none⟩ = some (.int .i64 F.p.lv) /\ W'.cell? ⟨g, 3, none⟩ = some (.bool F.p.neg) /\ W'.cell? ⟨g, 4, none⟩ = some (.slice G0 g0n g0c) /\ W'.cell? ⟨g, 5, none⟩ = some (.slice G1 g1n g1c) /\ W'.cell? ⟨g, 6, none⟩ = some (.slice GK F.ks.length gkc))
   (first | with_reducible exact HGS.out _ Y2.out | with_reducible exact HGS.out _ z1)
   ((go_at_call 39
     refine (HAF.out _ _ (HV1.out.trans Y2.out) (HGM.out _ Y2.out)).mono ?_;rintro e w6 ⟨rfl,y6⟩;have z1:Ext V w6:=Y2.out.trans y6
     clear y6))
  all_goals
   have X6:=Lib.hid z1;clear z1 HAF;have Y3:=Lib.hid (X6.out.drew);have HGS2:Hid (∀ W',Ext V W'->(Ext V W'/\(W'.cell? ⟨g,0,none⟩=some (.int .i64 F.kind)/\W'.cell? ⟨g,1,none⟩=some (.int .i64 F.rel)/\W'.cell? ⟨g,2,none⟩=some (.int .i64 F.p.lv)/\W'.cell? ⟨g,3,none⟩=some (.bool F.p.neg)/\W'.cell? ⟨g,4,none⟩=some (.slice G0 g0n g0c)/\W'.cell? ⟨g,5,none⟩=some (.slice G1 g1n g1c)/\W'.cell? ⟨g,6,none⟩=some (.slice GK F.ks.length gkc))/\W'.cell? ⟨w.heap.size,0,none⟩=some (.int .i64 t.kind)/\W'.cell? ⟨w.heap.size,1,none⟩=some (.int .i64 t.rel)/\W'.cell? ⟨w.heap.size,2,none⟩=some (.int .i64 t.p.lv)/\W'.cell? ⟨w.heap.size,3,none⟩=some (.bool t.p.neg)/\W'.cell? ⟨w.heap.size,4,none⟩=some (.slice A0 n0 c0)/\W'.cell? ⟨w.heap.size,5,none⟩=some (.slice A n1 c1)/\W'.cell? ⟨w.heap.size,6,none⟩=some (.slice MK t.ks.length c))):=Lib.hid (fun W' hx=>⟨hx,HGB.out _ hx,HBX.out _ (HV1.out.trans hx)⟩);go_upto_region 7 with fail
   go_region_held3 (fun W' => Ext V W' /\ (W'.cell? ⟨g, 0, none⟩ = some (.int .i64 F.kind) /\ W'.cell? ⟨g, 1, none⟩ = some (.int .i64 F.rel) /\ W'.cell? ⟨g, 2, none⟩ = some (.int .i64 F.p.lv) /\ W'.cell? ⟨g, 3, none⟩ = some (.bool F.p.neg) /\ W'.cell? ⟨g, 4, none⟩ = some (.slice G0 g0n g0c) /\ W'.cell? ⟨g, 5, none⟩ = some (.slice G1 g1n g1c) /\ W'.cell? ⟨g, 6, none⟩ = some (.slice GK F.ks.length gkc)) /\ W'.cell? ⟨w.heap.size, 0, none⟩ = some (.int .i64 t.kind) /\ W'.cell? ⟨w.heap.size, 1, none⟩ = some (.int .i64 t.rel) /\ W'.cell? ⟨w.heap.size, 2, none⟩ = some (.int .i64 t.p.lv) /\ W'.cell? ⟨w.heap.size, 3, none⟩ = some (.bool t.p.neg) /\ W'.cell? ⟨w.heap.size, 4, none⟩ = some (.slice A0 n0 c0) /\ W'.cell? ⟨w.heap.size, 5, none⟩ = some (.slice A n1 c1) /\ W'.cell? ⟨w.heap.size, 6, none⟩ = some (.slice MK t.ks.length c))
    (first | with_reducible exact HGS2.out _ Y3.out | with_reducible exact HGS2.out _ z1 | with_reducible exact HGS2.out _ z2)
    (first
      | (go_at_call 40
         (fail_if_success have _:=z1)
         refine (HPF.out _ _ (HGM.out _ Y3.out)).mono ?_;rintro e w7 ⟨pv,rfl,hrow,x7⟩;obtain ⟨PA,pc,epv,hpc1,hpc2⟩:=hrow.len;rw [List.length_map] at epv hpc1;subst epv
         have z1:Ext V w7:=Y3.out.trans x7)
      | (go_at_call 40
         refine (HPO.out _ (HV1.out.trans z1)).mono ?_;rintro e w8 ⟨qv,rfl,hqrow,x8⟩;obtain ⟨QA,qc,rfl,hqc1,hqc2⟩:=hqrow.len
         have z2:Ext V w8:=z1.trans x8))
   all_goals
    have HPA:=Lib.hid (hrow.at_.ext x8);have HQA:=Lib.hid hqrow.at_;have X8:=Lib.hid z2;clear hrow hqrow x7 x8 z1 z2 HPF HPO HGS HGS2;generalize t.pols=ps at *;have Y4:=Lib.hid (X8.out.drew);have hne:(tv != tv)=false:=by simp
    have hnl:(((ps.length:Nat):Int) != ((ps.length:Nat):Int))=false:=by simp
    go_upto_region 8 with fail;refine wp_region_held_drew (S:=fun W'=>Ext V W') (by kernel_rfl) Y4.out (fun hHeld=>?_);refine tk 0 ?_;refine tk 1 ?_;refine tk 2 ?_;refine tk 3 ?_;refine tk 4 ?_;refine tk 5 ?_;refine tk 6 ?_;refine tk 7 ?_;refine tk 8 ?_;refine tk 9 ?_;refine tk 10 ?_;refine tk 11 ?_;refine tk 12 ?_;refine tk 13 ?_;refine tk 14 ?_;refine tk 15 ?_;refine tk 16 ?_;refine tk 17 ?_;refine tk 18 ?_;refine tk 19 ?_ (hy:=Or.inl ⟨by rfl,by intro w' hSw; obtain ⟨b0,b1,b2,b3,b4,b5,b6⟩:=HGB.out w' hSw; go_simp; (try (with_reducible rfl))⟩);refine tk 20 ?_ (hy:=Or.inl ⟨by rfl,by intro w' hSw; obtain ⟨b0,b1,b2,b3,b4,b5,b6⟩:=HGB.out w' hSw; go_simp; (try (with_reducible rfl))⟩);refine wpAnyH_ready (rs:=[21]) (by kernel_rfl) (by simp) ?_;refine AllReadyH.cons rfl (fun K hK=>?_) AllReadyH.nil;go_simp
    go_at_call 42
    refine (HNF.out _ _ (HGM.out _ Y4.out)).mono ?_;rintro e w9 ⟨v9,rfl,m9,x9⟩;obtain ⟨C0,j0,f0,C1,j1,f1,C2,f2,rfl,-⟩:=id m9.open_;have z1:Ext V w9:=Y4.out.trans x9;refine hK.out _ _ z1 (fun hHeld=>?_);clear hK K
    try simp only [Act.put,List.getElem_toArray,List.getElem_cons_zero,List.getElem_cons_succ,List.setIfInBounds_toArray,List.set_cons_zero,List.set_cons_succ]
    refine wpAnyH_ready (rs:=[22]) (by kernel_rfl) (by simp) ?_;refine AllReadyH.cons rfl (fun K hK=>?_) AllReadyH.nil;unfold mxV;go_simp
    go_at_call 41
    refine (HEQ.out _ _ _ _ (HGM.out _ z1) m9).mono ?_;rintro e w10 ⟨rfl,x10⟩;have z2:Ext V w10:=z1.trans x10;refine hK.out _ _ z2 (fun hHeld=>?_);clear hK K
    try simp only [Act.put,List.getElem_toArray,List.getElem_cons_zero,List.getElem_cons_succ,List.setIfInBounds_toArray,List.set_cons_zero,List.set_cons_succ]
    refine tk 23 ?_;refine tk 24 ?_;refine wpAnyH_done (by kernel_rfl) ?_ _;have HPB:=Lib.hid (HPA.out.ext (((Ext.refl w8).drew).trans (x9.trans x10)));have HQB:=Lib.hid (HQA.out.ext (((Ext.refl w8).drew).trans (x9.trans x10)));have X10:=Lib.hid z2;clear z1 z2 x9 x10 m9 hHeld HNF HEQ HGM HPA HQA;go_wp2_with fail
    go_loopw [81] (fun iv wr=>∃ k:Nat,k<=ps.length/\iv=.int .i64 k/\Hid (Ext w10 wr)) (fun iv _=>ps.length - (intOf iv).toNat)
    case atStart=>exact ⟨0,Nat.zero_le _,rfl,Ext.refl _⟩
    case round =>
     obtain ⟨k,hk,rfl,HXW⟩:=hrel
     by_cases hlt:k < ps.length
     · obtain ⟨ad,E0,E0n,E0c,E1,E1n,E1c,rfl,hadb,hat,hkt⟩:=jd.kid HQB.out k hlt;obtain ⟨ad2,D0,D0n,D0c,D1,D1n,D1c,rfl,hadb2,hat2,hkt2⟩:=jd.kid HPB.out k (by rw [List.length_map]; exact hlt);rw [List.getElem_map] at hat2 hkt2;have HFK:=Lib.hid (HPK.out ps[k] (List.getElem_mem hlt));have HDA:Hid (∀ W',Ext w10 W'->(W'.cell? (ad2.add (k * 4))=some (.int .i64 (qo ys ps[k] n).lv)/\W'.cell? ⟨(ad2.add (k * 4)).block,(ad2.add (k * 4)).off+1,none⟩=some (.bool (qo ys ps[k] n).neg)/\W'.cell? ⟨(ad2.add (k * 4)).block,(ad2.add (k * 4)).off+2,none⟩=some (.slice D0 D0n D0c)/\W'.cell? ⟨(ad2.add (k * 4)).block,(ad2.add (k * 4)).off+3,none⟩=some (.slice D1 D1n D1c))):=Lib.hid (fun W' hx=>hat2.ext hx (by rw [ja]; exact hadb2));have HDK:=Lib.hid (fun (W':World) (hx:Ext w10 W')=>hkt2.ext hx);obtain ⟨a0,a1,a2,a3⟩:(let W':=wr; W'.cell? (ad.add (k * 4))=some (.int .i64 ps[k].lv)/\W'.cell? ⟨(ad.add (k * 4)).block,(ad.add (k * 4)).off+1,none⟩=some (.bool ps[k].neg)/\W'.cell? ⟨(ad.add (k * 4)).block,(ad.add (k * 4)).off+2,none⟩=some (.slice E0 E0n E0c)/\W'.cell? ⟨(ad.add (k * 4)).block,(ad.add (k * 4)).off+3,none⟩=some (.slice E1 E1n E1c)):=hat.ext HXW.out (by rw [ja]; exact hadb);obtain ⟨V2,hV2⟩:∃ V2,wr.alloc (.cells #[.int .i64 ps[k].lv,.bool ps[k].neg,.slice E0 E0n E0c,.slice E1 E1n E1c] 35)=V2:=⟨_,rfl⟩;have hB0:PlB wr wr.heap.size ps[k] V2:=by
        have hx:Ext wr V2:=by rw [<- hV2]; exact (Ext.refl wr).alloc _
        refine ⟨hx,Nat.le_refl _,by rw [<- hV2]; simp,fun i=>by rw [<- hV2]; simp [go_sem],_,_,_,_,_,_,by rw [<- hV2]; exact uf.new wr _ _ _ _,?_⟩;exact PlV.turn_ hx.size (fun _ _ h=>h.ext hx) (fun b hb _=>⟨by omega,hx.below.block b hb⟩) (hkt.ext HXW.out)
       have HB0:=Lib.hid hB0;have HV2:=Lib.hid hV2;clear hat hkt hadb hadb2 hat2 hkt2 hB0 hV2;generalize ps[k]=pk at *;go_wp2_with fail;rw [HV2.out];clear HV2 a0 a1 a2 a3;obtain ⟨w11,rfl⟩:∃ w11,w11=wr:=⟨wr,rfl⟩
       go_loopw [89] (fun iv wi=>∃ j:Nat,j<=n/\iv=.int .i64 j/\Hid (PlB w11 w11.heap.size (qo ys pk j) wi)) (fun iv _=>n - (intOf iv).toNat)
       case atStart=>exact ⟨0,Nat.zero_le _,rfl,HB0⟩
       case round =>
        obtain ⟨j,hj,rfl,HB⟩:=hrel
        by_cases hjn:j < n
        · have hWW:Ext W wr:=HV1.out.trans (X10.out.trans (HXW.out.trans HB.out.1));obtain ⟨_,_,ev,-,-,hxat⟩:=HYS.out;simp only [Value.slice.injEq] at ev;obtain ⟨rfl,-,rfl⟩:=ev;have hjl:j < ys.length:=by rw [HYL.out]; exact hjn
          obtain ⟨xa,bb,X1,xn1,xc1,X2,xn2,xc2,hA,hadb,hx3,hxr⟩:=hxat j hjl;injection hA with hA
          subst hA;rw [jq,Nat.zero_add] at hx3;have HXC:Hid (∀ W',Ext W W'->W'.cell? ⟨w.heap.size+1,j * 3,none⟩=some (.bool bb)/\W'.cell? ⟨w.heap.size+1,j * 3+1,none⟩=some (.slice X1 xn1 xc1)/\W'.cell? ⟨w.heap.size+1,j * 3+2,none⟩=some (.slice X2 xn2 xc2)):=Lib.hid (fun W' hx=>⟨(hx.cell (p:=⟨w.heap.size+1,j * 3,none⟩) hadb).trans hx3.1,(hx.cell (p:=⟨w.heap.size+1,j * 3+1,none⟩) hadb).trans hx3.2.1,(hx.cell (p:=⟨w.heap.size+1,j * 3+2,none⟩) hadb).trans hx3.2.2⟩);have HWW:=Lib.hid hWW;obtain ⟨hB1,hB2,hB3,hfr,B0,b0n,b0c,B1,b1n,b1c,hbx4,hbp⟩:=id HB.out;have HCA:=Lib.hid (fun (W':World) (hx:Ext wr W')=>jbt (l:=(j:Int)+1) (L:=3) (E:=40) (D:=5+3 * 40 * j) (qo ys pk j) _ (by omega) (by omega) (by omega) (by omega) (by omega) (by omega) (HFK.out j) (hbp.ext hx) (hxr.ext (hWW.trans hx)));have HGD:Hid (qo ys pk (j+1)=(qo ys pk j).atQ ((j:Int)+1) ys[j].num ys[j].den):=Lib.hid (by
           rw [qo,List.getD_eq_getElem?_getD,List.getElem?_eq_getElem hjl]; rfl)
          have Y5:=Lib.hid (hB1.drew);unfold plV at HCA;generalize (qo ys pk j).atQ ((j:Int)+1) ys[j].num ys[j].den=NP at *;generalize qo ys pk j=PJ at *;clear hxat hjl hx3 hxr hadb hWW hbp hB1;have hwj:IntKind.i64.wrap ((j:Int)+1)=(j:Int)+1:=by rw [IntKind.wrap_i64]; omega
          go_upto_region 17 with fail;refine wp_region_held_drew (S:=fun W'=>Ext w11 W') (by kernel_rfl) Y5.out (fun hHeld=>?_);refine tk 1 ?_;refine tk 2 ?_;refine tk 3 ?_;refine tk 4 ?_ (hy:=Or.inl ⟨by rfl,by intro w' hSw; (have hj4:(j:Int) < 4:=by omega); go_simp; (try (with_reducible rfl))⟩);refine tk 5 ?_ (hy:=Or.inl ⟨by rfl,by intro w' hSw; obtain ⟨k0,k1,k2⟩:=HXC.out w' (HV1.out.trans (X10.out.trans (HXW.out.trans hSw))); go_simp; (try (with_reducible rfl))⟩);refine wpAnyH_ready (rs:=[0]) (by kernel_rfl) (by simp) ?_;refine AllReadyH.cons rfl (fun K hK=>?_) AllReadyH.nil;obtain ⟨g0,g1,g2,g3⟩:=hbx4;go_simp;refine hK.out _ _ Y5.out (fun hHeld=>?_);clear hK K
          try simp only [Act.put,List.getElem_toArray,List.getElem_cons_zero,List.getElem_cons_succ,List.setIfInBounds_toArray,List.set_cons_zero,List.set_cons_succ]
          refine wpAnyH_ready (rs:=[6]) (by kernel_rfl) (by simp) ?_;refine AllReadyH.cons rfl (fun K hK=>?_) AllReadyH.nil;go_simp
          go_at_call 43
          refine (HCA.out _ (Ext.refl wr).drew).mono ?_;rintro e w12 ⟨z12,rfl,m12,x12⟩;obtain ⟨C3,c3n,c3c,C4,c4c,rfl,-⟩:=id m12.open_;have x13:Ext wr w12:=((Ext.refl wr).drew).trans x12;have hI:=HB.out.ext x13;have z3:=hI.1;refine hK.out _ _ z3 (fun hHeld=>?_);clear hK K g0 g1 g2 g3
          try simp only [Act.put,List.getElem_toArray,List.getElem_cons_zero,List.getElem_cons_succ,List.setIfInBounds_toArray,List.set_cons_zero,List.set_cons_succ]
          have hst:=hI.store m12 (fun b hb=>by
           have hb':_<=b:=hb;simp at hb'
           omega)
          obtain ⟨-,-,hI3,hfr3,I0,i0n,i0c,I1,i1n,i1c,⟨g0,g1,g2,g3⟩,-⟩:=hI;have f0:=hfr3 0;have f1:=hfr3 1;have f2:=hfr3 2;have f3:=hfr3 3;refine wpAnyH_ready (rs:=[7]) (by kernel_rfl) (by simp) ?_;refine AllReadyH.cons rfl (fun K hK=>?_) AllReadyH.nil;unfold plV;go_simp;refine (?g5:∀ V,PlB w11 w11.heap.size NP V->K _ V) _ hst;intro V5 hV5;refine hK.out _ _ hV5.1 (fun hHeld=>?_);clear hK K hst g0 g1 g2 g3 f0 f1 f2 f3
          try simp only [Act.put,List.getElem_toArray,List.getElem_cons_zero,List.getElem_cons_succ,List.setIfInBounds_toArray,List.set_cons_zero,List.set_cons_succ]
          refine wpAnyH_done (by kernel_rfl) ?_ _;have HV5:=Lib.hid hV5;clear hV5 m12 x12 x13 z3 hHeld hfr hfr3 HCA;go_wp2_with fail
          go_roundw
          case rel=>exact ⟨j+1,by omega,by go_num,by rw [HGD.out]; exact HV5⟩
          case measure=>simp only [intOf]; omega
        · have hje:j=n:=by omega
          rw [hje] at HB;obtain ⟨hB1,hB2,hB3,hfr,B0,b0n,b0c,B1,b1n,b1c,hbx4,hbp⟩:=id HB.out;have hw10:=HXW.out.trans hB1;have HBP:=Lib.hid (fun (W':World) (hx:Ext wr W')=>hbp.ext hx);have HBX4:Hid (∀ W',Ext wr W'->W'.cell? ⟨w11.heap.size,0,none⟩=some (.int .i64 (qo ys pk n).lv)/\W'.cell? ⟨w11.heap.size,1,none⟩=some (.bool (qo ys pk n).neg)/\W'.cell? ⟨w11.heap.size,2,none⟩=some (.slice B0 b0n b0c)/\W'.cell? ⟨w11.heap.size,3,none⟩=some (.slice B1 b1n b1c)):=Lib.hid (fun W' hx=>hbx4.ext hx hB3);have HDA1:=Lib.hid (fun (W':World) (hx:Ext wr W')=>HDA.out W' (hw10.trans hx));have HW10:=Lib.hid hw10;have hFn:=HFK.out n;have HSP:=Lib.hid (fun (W':World) (hx:Ext wr W')=>xb3 (qo ys pk n) (qo ys pk n) _ _ (by have:=hFn.small (by omega); omega) (HDK.out W' (hw10.trans hx)) (hbp.ext hx));rw [show eqB (qo ys pk n) (qo ys pk n)=true from qao rfl] at HSP;unfold plV at HSP;have Y5:=Lib.hid ((Ext.refl wr).drew);clear hw10 hFn hbp hbx4 hje HDA HDK HFK;generalize qo ys pk n=PN at *;go_upto_region 19 with fail;refine wp_region_held_drew (S:=fun W'=>Ext wr W') (by kernel_rfl) Y5.out (fun hHeld=>?_);refine tk 0 ?_;refine tk 1 ?_;refine tk 2 ?_;refine tk 3 ?_ (hy:=Or.inl ⟨by rfl,by intro w' hSw; obtain ⟨k0,k1,k2,k3⟩:=HDA1.out w' hSw; go_simp; (try (with_reducible rfl))⟩);refine tk 4 ?_ (hy:=Or.inl ⟨by rfl,by intro w' hSw; obtain ⟨k0,k1,k2,k3⟩:=HBX4.out w' hSw; go_simp; (try (with_reducible rfl))⟩);refine wpAnyH_ready (rs:=[5]) (by kernel_rfl) (by simp) ?_;refine AllReadyH.cons rfl (fun K hK=>?_) AllReadyH.nil;go_simp
          go_at_call 44
          refine (HSP.out _ Y5.out).mono ?_;rintro e w12 ⟨rfl,x12⟩;have z3:Ext wr w12:=Y5.out.trans x12;refine hK.out _ _ z3 (fun hHeld=>?_);clear hK K
          try simp only [Act.put,List.getElem_toArray,List.getElem_cons_zero,List.getElem_cons_succ,List.setIfInBounds_toArray,List.set_cons_zero,List.set_cons_succ]
          refine tk 6 ?_;refine wpAnyH_done (by kernel_rfl) ?_ _;have HZ3:Hid (Ext w10 w12):=Lib.hid (HW10.out.trans z3);clear z3 x12 hHeld HSP HBX4 HDA1 HBP;go_wp2_with fail
          go_roundw
          case rel=>exact ⟨k+1,by omega,by go_num,HZ3⟩
          case measure=>simp only [intOf]; omega
     · have hF:Hid (Ext w wr):=Lib.hid ((HWX.out.trans HV1.out).trans (X10.out.trans HXW.out));go_wp2_with fail;go_ret;exact ⟨rfl,hF.out⟩
end Go.Proofs.YtcfcjabgkfehlaaGreat
