/- Layer 40: awake: x < 3 at x = 2. -/
import Derived.Test.YtaedbimbbeploaaGreatMz52
import Derived.OrdersHeld
import Derived.Deep.RegionHeld3
import Derived.Test.YtaedbimbbeploaaGreatMz53
import Derived.Test.YtaedbimbbeploaaGreatMz47
import Derived.Deep.CutBlock
set_option linter.unusedSimpArgs false
set_option linter.unusedVariables false
set_option maxRecDepth 100000
set_option maxHeartbeats 8000000
namespace Go.Proofs.YtaedbimbbeploaaGreat
open Go.RowKit
def xx:ByteArray:=⟨#[120]⟩
def f3:Fm:=.atom (.name xx) 1 (.num 3)
theorem qcj:f3.free=[xx]:=by simp [f3,Fm.free,Fm.fold,Tm.fold,zae,has]
theorem xcb:qab (zt [(xx,2)]) f3.free=true:=by rw [qcj]; simp [qab,zt]
theorem jco:f3.pre.any Fm.bad=false:=by
 have h:xaj 3=1:=zay (by decide);simp [f3,Fm.pre,Fm.bad,Tm.large,Tm.deg,Tm.wt,h,wz]
theorem qcq:f3.tv (zt [(xx,2)])=true:=by
 simp [f3,Fm.tv,Tm.val,zt,jac,xau]
 decide
theorem jcj:vag f3 [(xx,2)]=(true,0):=by
 unfold vag;rw [if_neg (by simp [f3,Fm.bound]),if_neg (by rw [xcb]; simp),if_neg (by rw [jco]; simp),qcq]
theorem kb6:rlen (2:Rat)<=1:=by
 have h:(dg 2).length=1:=by rw [gam (by decide) (by decide)]; rfl
 have:=zah 2 (L:=1) (by show (dg 2).length<=1; omega) (by omega);simpa using this
theorem gbt {W:World} {v:Value} {b1:Bool} {A1 B1:Option Addr} {n1 c1 k1 d1:Nat} (m1:yac W (.agg #[.bool b1,.slice A1 n1 c1,.slice B1 k1 d1]) ((2:Int):Rat)) (hf:FmV W 1 f3 v) :
 Calls Tryz.prog 19 #[v,.slice (some ⟨W.heap.size,0,none⟩) 1 1] (W.alloc (.cells #[.string ⟨#[120]⟩,.bool b1,.slice A1 n1 c1,.slice B1 k1 d1] 72)) (wbu (true,0) (W.alloc (.cells #[.string ⟨#[120]⟩,.bool b1,.slice A1 n1 c1,.slice B1 k1 d1] 72))):=by
 rw [<- jcj];have hx:Ext W (W.alloc (.cells #[.string ⟨#[120]⟩,.bool b1,.slice A1 n1 c1,.slice B1 k1 d1] 72)):=(Ext.refl W).alloc _;refine ya5 (L:=1) (vals:=[(xx,2)]) (by omega) (by omega) f3 (hf.ext hx) ?_ rfl (by simp [f3,Fm.sz,Tm.sz]) (fun _ _ _=>?_)
 · refine ⟨_,1,rfl,by simp,by simp,fun j hj=>?_⟩;have:j=0:=by simp at hj; omega
   subst this;refine ⟨_,b1,A1,n1,c1,B1,k1,d1,rfl,by simp,?_,?_⟩
   · rw [zu];refine ⟨?_,?_,?_,?_⟩ <;> simp [go_sem,xx]
   · have h2:(((2:Int):Rat))=2:=by rfl
     rw [h2] at m1;exact (m1.raw.mono kb6).ext hx
 · refine ⟨⟨?_,?_⟩,⟨trivial,?_⟩⟩
   · simp [Tm.covered,zt]
   · simp [Tm.bt]
   · simp [Tm.bt]
theorem yax (w:World):Calls Tryz.prog 5 #[] w (zaa true w):=by
 go_enter Tryz.func5,Tryz.ntmps5;go_wp2_with fail;obtain ⟨W,hW⟩:∃ W,(w.alloc (.cells #[.int .u32 3] 62)).alloc (.cells #[.iface 61 (.agg #[.string ⟨#[120]⟩]),.int .i64 1,.iface 64 (.agg #[.bool false,.slice (some ⟨w.heap.size,0,none⟩) 1 1])] 68)=W:=⟨_,rfl⟩;have hWx:Ext w W:=by rw [<- hW]; exact ((Ext.refl w).alloc _).alloc _
 have hWs:W.heap.size=w.heap.size+1+1:=by rw [<- hW]; simp
 have hd:W.cell? ⟨w.heap.size,0,none⟩=some (.int .u32 3):=by rw [<- hW]; simp [go_sem]
 have HB:Hid (∀ W',Ext W W'->(Ext W W'/\W'.cell? ⟨w.heap.size+1,0,none⟩=some (.iface 61 (.agg #[.string ⟨#[120]⟩]))/\W'.cell? ⟨w.heap.size+1,1,none⟩=some (.int .i64 1)/\W'.cell? ⟨w.heap.size+1,2,none⟩=some (.iface 64 (.agg #[.bool false,.slice (some ⟨w.heap.size,0,none⟩) 1 1])))):=by
  intro W' hx;obtain ⟨hc,hf⟩:=hx.cells;refine ⟨hx,?_,?_,?_⟩ <;> (rw [hc _ _ (by omega),<- hW]; simp [go_sem])
 have HFV:Hid (FmV W 1 f3 (.iface 68 (.agg #[.iface 61 (.agg #[.string ⟨#[120]⟩]),.int .i64 1,.iface 64 (.agg #[.bool false,.slice (some ⟨w.heap.size,0,none⟩) 1 1])]))):=by
  refine ⟨_,_,rfl,rfl,⟨_,rfl,false,_,[3],rfl,⟨some ⟨w.heap.size,0,none⟩,1,rfl,by simp,by simp,?_,?_⟩,?_,by simp⟩⟩
  · exact ve.cons (by decide) ve.nil
  · intro _;refine ⟨_,rfl,by show w.heap.size < _; omega,fun j hj=>?_⟩;have:j=0:=by simp at hj; omega
    subst this;rw [zu]; exact hd
  · simp [sgn,val]
 have HWX:=Lib.hid hWx;rw [hW];clear hW hd hWx hWs;have y0:Ext W W.drew:=(Ext.refl W).drew;have Y0:=Lib.hid y0;clear y0
 go_region_held3 (fun W' => Ext W W' /\ W'.cell? ⟨w.heap.size + 1, 0, none⟩ = some (.iface 61 (.agg #[.string ⟨#[120]⟩])) /\ W'.cell? ⟨w.heap.size + 1, 1, none⟩ = some (.int .i64 1) /\ W'.cell? ⟨w.heap.size + 1, 2, none⟩ = some (.iface 64 (.agg #[.bool false, .slice (some ⟨w.heap.size, 0, none⟩) 1 1])))
  (first | with_reducible exact HB.out _ Y0.out | with_reducible exact HB.out _ y1 | with_reducible exact HB.out _ (y1.alloc _) | with_reducible exact HB.out _ y2)
  (first
    | (go_at_call 20
       refine (jas 2 _ (by omega) (by omega)).mono ?_;rintro e v1 ⟨z1,rfl,m1,x1⟩;obtain ⟨b1,A1,n1,c1,B1,k1,d1,rfl⟩:=m1.unpack
       have y1:Ext W v1:=Ext.trans Y0.out x1)
    | (go_at_call 19
       refine (gbt m1 (HFV.out.ext y1)).mono ?_;rintro e v2 ⟨rfl,x2⟩
       have y2:Ext W v2:=Ext.trans (y1.alloc _) x2))
 all_goals
  have X2:=Lib.hid (HWX.out.trans y2);clear y1 y2 x1 x2 m1 HB HWX Y0 HFV;go_wp2_with fail;refine (uar 1 (-5) _).mono ?_;rintro e w3 ⟨rfl,rfl⟩;go_wp2_with fail;go_ret;exact ⟨rfl,X2.out⟩
/- One operation of a region taken first: its side conditions by themselves. -/
theorem tk {P : Program} {ops : Array Oper} {Q : Exit -> Act -> World -> Prop} {md : Region.Mode} {S : World -> Prop} {oi : Oper} {v : Value} {fuel : Nat} {listed l' : Array Bool} {a a' : Act} {w : World} (i : Nat) (h : wpAnyH P md ops Q S fuel l' a' w) (hi : ops[i]? = some oi := by rfl) (hs : Region.noSelect ops = true := by kernel_rfl) (hf : Region.free md ops listed i = true := by kernel_rfl) (hr : (Region.ready md ops listed).contains i = true := by kernel_rfl)
 (hy:YieldsIf P ops S oi v a:=by (first | exact Or.inl ⟨by rfl,by intro w' hSw; (try dsimp only at hSw); go_simp; (try (with_reducible rfl))⟩ | exact Or.inr ⟨by rfl,rfl⟩)) (hS:S w:=by assumption)
 (ha:a.put oi.dst v=a':=by ((try simp only [Act.put,List.getElem_toArray,List.getElem_cons_zero,List.getElem_cons_succ,List.setIfInBounds_toArray,List.set_cons_zero,List.set_cons_succ]) <;> rfl))
 (hl:listed.setIfInBounds i true=l':=by ((try simp only [List.setIfInBounds_toArray,List.set_cons_zero,List.set_cons_succ]) <;> rfl)) (hq:∀ c a w,Q (.panic c) (a.put oi.dst v) w->Q (.panic c) a w:=by exact fun _ _ _ h=>h):wpAnyH P md ops Q S (fuel+1) listed a w:=
 wpAnyH_take hi hs hf hr hq hy hS (by rw [ha,hl]; exact h)
/- Law 40: EvaluateKnows answers true. -/
set_option maxRecDepth 100000
set_option maxHeartbeats 8000000
theorem gbe {w:World} {x:Value} {q:Rat} {L:Nat} (h:jo w x q L):∃ b A n c B m d,x=.agg #[.bool b,.slice A n c,.slice B m d]:=by
 obtain ⟨neg,s1,s2,ds,es,rfl,⟨A,c,rfl,-,-,-⟩,⟨B,b,rfl,-,-,-⟩,-⟩:=h;exact ⟨_,_,_,_,_,_,_,rfl⟩
structure KnP (p : Pl) : Prop where
 nf:p.nf=p
 sz:p.sz<=3111696
 dm:p.dm<=5
 eb:p.eb 3<=1099511627776
 fit:Fit p 40 5
theorem xco {t:Mx} (hs:t.small) (hd:t.each Pl.dig):∀ p ∈ t.pols,KnP p:=by
 intro p hp;obtain ⟨-,h2,h3,h4,h5⟩:=Mx.pols_fit hs hd p hp;obtain ⟨p0,⟨⟨hsz,hdm⟩,hdg⟩,rfl⟩:=t.pols_of (t.each_and (t.small_each hs) hd) p hp;exact ⟨h2,h3,h4,h5,Fit.of_raw hdg hsz hdm (by decide)⟩
theorem gbz : ∀ (l : List Mx) (a : Int), a <= 4 -> (∀ t ∈ l, t.lvl <= 4) -> qx a l <= 4
 | [],a,h,_=>by rw [qx]; exact h
 | x :: r,a,h,hl=>by
   rw [qx];have:=hl x (by simp);exact gbz r _ (by omega) (fun t ht=>hl t (by simp [ht]))
theorem Mx.lvl_4 (n:Nat):∀ t:Mx,t.sz < n->t.lvl<=4:=by
 induction n with
 | zero=>intro t h; omega
 | succ n ih =>
   intro t h;rw [Mx.lvl_eq]
   split
   · exact (Pl.Can.lv_nonneg t.p.nf_can).2
   · split
     · refine gbz _ _ (by omega) (fun x hx=>ih x ?_);obtain ⟨i,hi,rfl⟩:=List.getElem_of_mem hx;have:=Mx.kid_le t i hi;omega
     · omega
theorem jbo {ρ:Int->Rat} {l:List Pl} (h:∀ p ∈ l,KnP p) (i:Nat) (hi:i < l.length):(ual ρ l i).1.sz<=1073741824/\(ual ρ l i).1.dm<=1099511627776:=by
 have hg:l.getD i Pl.zero=l[i]:=by rw [List.getD_eq_getElem?_getD,List.getElem?_eq_getElem hi]; rfl
 have hk:=h _ (List.getElem_mem hi);unfold ual;rw [hg]
 split
 · have ho:=hk.fit.opp;exact ⟨ho.small (by omega),Nat.le_trans ho.dm (by omega)⟩
 · exact ⟨by have:=hk.sz; simp only; omega,by have:=hk.dm; simp only; omega⟩
theorem xbq {ρ:Int->Rat} {l:List Pl} (h:∀ p ∈ l,KnP p) (b:Nat->Bool) (n:Nat) (hn:n<=l.length):kax (kab ρ l b n):=fun x hx=>by
 obtain ⟨i,hi,rfl⟩:=List.mem_map.1 hx;have:=(List.mem_filter.1 hi).1;exact jbo h i (by have:=List.mem_range.1 this; omega)
theorem xb3 (ρ:Int->Rat) (l:List Pl) (n:Nat):kab ρ l (fun _=>true) (n+1)=kab ρ l (fun _=>true) n ++ [ual ρ l n]:=by rw [qbq,if_pos rfl]
def ybv (W:World) (g:Nat) (q:Rat) (V:World):Prop:=Ext W V/\W.heap.size<=g/\g < V.heap.size/\∃ p1 P1 pn pc P2 pm pd,V.cell? ⟨g,0,none⟩=some (.bool p1)/\V.cell? ⟨g,1,none⟩=some (.slice P1 pn pc)/\V.cell? ⟨g,2,none⟩=some (.slice P2 pm pd)/\jo V (.agg #[.bool p1,.slice P1 pn pc,.slice P2 pm pd]) q (rlen q)
def xa8 (W:World) (g:Nat) (f:Pl) (s:Int) (va vs:Value) (V:World):Prop:=Ext W V/\W.heap.size<=g/\g < V.heap.size/\(∀ i,V.frozen? ⟨g,i,none⟩=false)/\∃ A0 n0 c0 A1 n1 c1,(V.cell? ⟨g,0,none⟩=some (.int .i64 f.lv)/\V.cell? ⟨g,1,none⟩=some (.bool f.neg)/\V.cell? ⟨g,2,none⟩=some (.slice A0 n0 c0)/\V.cell? ⟨g,3,none⟩=some (.slice A1 n1 c1)/\V.cell? ⟨g,4,none⟩=some (.int .i64 s))/\PlV V (fun b=>va.ownBlock ≠ some b/\vs.ownBlock ≠ some b) f (plV f (.slice A0 n0 c0) (.slice A1 n1 c1))
theorem jo.box {w:World} {x:Value} {q:Rat} {L:Nat} (h:jo w x q L) {a:Addr} {u:Value} (ha:w.cell? a=some u) (hu:zo u=false) (u':Value):jo (w.setCell a u') x q L:=by
 obtain ⟨neg,s1,s2,ds,es,e,h1,h2,h3⟩:=h;exact ⟨neg,s1,s2,ds,es,e,h1.box ha hu u',h2.box ha hu u',h3⟩
theorem gbx {wr w7 : World} {g : Nat} {q : Rat} {p1 : Bool} {P1 P2 : Option Addr} {pn pc pm pd : Nat} {u0 u1 u2 : Value} (z : Ext wr w7) (hg : wr.heap.size <= g) (hl : g < w7.heap.size) (c0 : w7.cell? ⟨g, 0, none⟩ = some u0) (c1 : w7.cell? ⟨g, 1, none⟩ = some u1) (c2 : w7.cell? ⟨g, 2, none⟩ = some u2) (d0 : zo u0 = false) (d1 : zo u1 = false) (d2 : zo u2 = false)
 (r:jo w7 (.agg #[.bool p1,.slice P1 pn pc,.slice P2 pm pd]) q (rlen q)):ybv wr g q (((w7.setCell ⟨g,0,none⟩ (.bool p1)).setCell ⟨g,1,none⟩ (.slice P1 pn pc)).setCell ⟨g,2,none⟩ (.slice P2 pm pd)):=by
 have k1:(w7.setCell ⟨g,0,none⟩ (.bool p1)).cell? ⟨g,1,none⟩=some u1:=by rw [World.cell?_setCell_other _ _ _ _ (by simp)]; exact c1
 have k2:((w7.setCell ⟨g,0,none⟩ (.bool p1)).setCell ⟨g,1,none⟩ (.slice P1 pn pc)).cell? ⟨g,2,none⟩=some u2:=by
  iterate 2 rw [World.cell?_setCell_other _ _ _ _ (by simp)]
  exact c2
 refine ⟨((z.setCell hg _).setCell hg _).setCell hg _,hg,by simpa [World.setCell] using hl,p1,P1,pn,pc,P2,pm,pd,?_,?_,?_,((r.box c0 d0 _).box k1 d1 _).box k2 d2 _⟩
 · iterate 2 rw [World.cell?_setCell_other _ _ _ _ (by simp)]
   exact World.cell?_setCell_same _ _ _ c0
 · rw [World.cell?_setCell_other _ _ _ _ (by simp)];exact World.cell?_setCell_same _ _ _ k1
 · exact World.cell?_setCell_same _ _ _ k2
theorem qba {V w8 : World} {g : Nat} {f : Pl} {s : Int} {va vs : Value} {A0 A1 : Option Addr} {n0 c0 n1 c1 : Nat} {u : Nat -> Value} (z : Ext V w8) (hg : V.heap.size <= g) (hl : g < w8.heap.size) (hfr : ∀ i, w8.frozen? ⟨g, i, none⟩ = false) (hu : ∀ j, j < 5 -> w8.cell? ⟨g, j, none⟩ = some (u j) /\ zo (u j) = false)
 (hp:PlV w8 (fun b=>b ≠ g/\va.ownBlock ≠ some b/\vs.ownBlock ≠ some b) f (plV f (.slice A0 n0 c0) (.slice A1 n1 c1))):xa8 V g f s va vs (((((w8.setCell ⟨g,0,none⟩ (.int .i64 f.lv)).setCell ⟨g,1,none⟩ (.bool f.neg)).setCell ⟨g,2,none⟩ (.slice A0 n0 c0)).setCell ⟨g,3,none⟩ (.slice A1 n1 c1)).setCell ⟨g,4,none⟩ (.int .i64 s)):=by
 have q0:=hu 0 (by omega);have q1:=hu 1 (by omega);have q2:=hu 2 (by omega);have q3:=hu 3 (by omega);have q4:=hu 4 (by omega);have k1:(w8.setCell ⟨g,0,none⟩ (.int .i64 f.lv)).cell? ⟨g,1,none⟩=some (u 1):=by rw [World.cell?_setCell_other _ _ _ _ (by simp)]; exact q1.1
 have k2:((w8.setCell ⟨g,0,none⟩ (.int .i64 f.lv)).setCell ⟨g,1,none⟩ (.bool f.neg)).cell? ⟨g,2,none⟩=some (u 2):=by
  iterate 2 rw [World.cell?_setCell_other _ _ _ _ (by simp)]
  exact q2.1
 have k3:(((w8.setCell ⟨g,0,none⟩ (.int .i64 f.lv)).setCell ⟨g,1,none⟩ (.bool f.neg)).setCell ⟨g,2,none⟩ (.slice A0 n0 c0)).cell? ⟨g,3,none⟩=some (u 3):=by
  iterate 3 rw [World.cell?_setCell_other _ _ _ _ (by simp)]
  exact q3.1
 have k4:((((w8.setCell ⟨g,0,none⟩ (.int .i64 f.lv)).setCell ⟨g,1,none⟩ (.bool f.neg)).setCell ⟨g,2,none⟩ (.slice A0 n0 c0)).setCell ⟨g,3,none⟩ (.slice A1 n1 c1)).cell? ⟨g,4,none⟩=some (u 4):=by
  iterate 4 rw [World.cell?_setCell_other _ _ _ _ (by simp)]
  exact q4.1
 refine ⟨((((z.setCell hg _).setCell hg _).setCell hg _).setCell hg _).setCell hg _,hg,by simpa [World.setCell] using hl,fun i=>by simp only [World.frozen?_setCell]; exact hfr i,A0,n0,c0,A1,n1,c1,⟨?_,?_,?_,?_,?_⟩,?_⟩
 · iterate 4 rw [World.cell?_setCell_other _ _ _ _ (by simp)]
   exact World.cell?_setCell_same _ _ _ q0.1
 · iterate 3 rw [World.cell?_setCell_other _ _ _ _ (by simp)]
   exact World.cell?_setCell_same _ _ _ k1
 · iterate 2 rw [World.cell?_setCell_other _ _ _ _ (by simp)]
   exact World.cell?_setCell_same _ _ _ k2
 · rw [World.cell?_setCell_other _ _ _ _ (by simp)];exact World.cell?_setCell_same _ _ _ k3
 · exact World.cell?_setCell_same _ _ _ k4
 · have hb:∀ (W:World) (j:Nat) (x:Value) (b:Nat),b ≠ g->(W.setCell ⟨g,j,none⟩ x).heap[b]?=W.heap[b]?:=fun W j x b h=>Below.heap_setCell W _ x b h
   exact PlV.turn_ (by simp [World.setCell]) (fun v ds h=>((((h.box q0.1 q0.2 _).box k1 q1.2 _).box k2 q2.2 _).box k3 q3.2 _).box k4 q4.2 _) (fun b _ hq=>⟨hq.2,by rw [hb _ _ _ _ hq.1,hb _ _ _ _ hq.1,hb _ _ _ _ hq.1,hb _ _ _ _ hq.1,hb _ _ _ _ hq.1]⟩) hp
theorem vbg {w:World} {q:Nat->Prop} {wh:Int} {cs:Array Value} {x0 x1 x2 x3:Fr} (t:Mx) (v:Value) (h:MxV w q t v) (hr:zbv w cs.toList x0 x1 x2 x3):Calls Tryz.prog 4 #[v,.agg cs,.int .u16 wh] w (zaa true w):=by
 have HT:=Lib.hid h;have hdig:=HT.out.dig;obtain ⟨A0,n0,c0,A,n1,c1,MK,c,rfl,-,hl1,hl2,-⟩:=h.open_;have HR4:=Lib.hid hr;obtain ⟨XA0,xc0,XB0,xd0,XA1,xc1,XB1,xd1,XA2,xc2,XB2,xd2,XA3,xc3,XB3,xd3,e,-⟩:=hr;obtain rfl:cs=#[.bool x0.neg,.slice XA0 x0.ds.length xc0,.slice XB0 x0.es.length xd0,.bool x1.neg,.slice XA1 x1.ds.length xc1,.slice XB1 x1.es.length xd1,.bool x2.neg,.slice XA2 x2.ds.length xc2,.slice XB2 x2.es.length xd2,.bool x3.neg,.slice XA3 x3.ds.length xc3,.slice XB3 x3.es.length xd3]:=Array.toList_inj.1 e;clear h e;unfold mxV;unfold mxV at HT;obtain ⟨W,hW⟩:∃ W,(w.alloc (.cells #[.int .i64 t.kind,.int .i64 t.rel,.int .i64 t.p.lv,.bool t.p.neg,.slice A0 n0 c0,.slice A n1 c1,.slice MK t.ks.length c] 32)).alloc (.cells #[.bool x0.neg,.slice XA0 x0.ds.length xc0,.slice XB0 x0.es.length xd0,.bool x1.neg,.slice XA1 x1.ds.length xc1,.slice XB1 x1.es.length xd1,.bool x2.neg,.slice XA2 x2.ds.length xc2,.slice XB2 x2.es.length xd2,.bool x3.neg,.slice XA3 x3.ds.length xc3,.slice XB3 x3.es.length xd3] 35)=W:=⟨_,rfl⟩;have hWx:Ext w W:=by rw [<- hW]; exact ((Ext.refl w).alloc _).alloc _
 have hWs:W.heap.size=w.heap.size+1+1:=by rw [<- hW]; simp
 have hbx:jab W w.heap.size t (.slice A0 n0 c0) (.slice A n1 c1) (.slice MK t.ks.length c):=by rw [<- hW]; exact (jab.new w t _ _ _ _).ext ((Ext.refl _).alloc _) (by simp)
 have hbw:W.heap[w.heap.size+1]?=some (.cells #[.bool x0.neg,.slice XA0 x0.ds.length xc0,.slice XB0 x0.es.length xd0,.bool x1.neg,.slice XA1 x1.ds.length xc1,.slice XB1 x1.es.length xd1,.bool x2.neg,.slice XA2 x2.ds.length xc2,.slice XB2 x2.es.length xd2,.bool x3.neg,.slice XA3 x3.ds.length xc3,.slice XB3 x3.es.length xd3] 35 (0,0)):=by
  rw [<- hW];have:=heap_alloc_new (w.alloc (.cells #[.int .i64 t.kind,.int .i64 t.rel,.int .i64 t.p.lv,.bool t.p.neg,.slice A0 n0 c0,.slice A n1 c1,.slice MK t.ks.length c] 32)) (.cells #[.bool x0.neg,.slice XA0 x0.ds.length xc0,.slice XB0 x0.es.length xd0,.bool x1.neg,.slice XA1 x1.ds.length xc1,.slice XB1 x1.es.length xd1,.bool x2.neg,.slice XA2 x2.ds.length xc2,.slice XB2 x2.es.length xd2,.bool x3.neg,.slice XA3 x3.ds.length xc3,.slice XB3 x3.es.length xd3] 35)
  rwa [World.size_alloc] at this
 have HXS:=Lib.hid (ucq HR4.out hbw hWx);have HWX:=Lib.hid hWx;have HBX:Hid (∀ W',Ext W W'->W'.cell? ⟨w.heap.size,0,none⟩=some (.int .i64 t.kind)/\W'.cell? ⟨w.heap.size,1,none⟩=some (.int .i64 t.rel)/\W'.cell? ⟨w.heap.size,2,none⟩=some (.int .i64 t.p.lv)/\W'.cell? ⟨w.heap.size,3,none⟩=some (.bool t.p.neg)/\W'.cell? ⟨w.heap.size,4,none⟩=some (.slice A0 n0 c0)/\W'.cell? ⟨w.heap.size,5,none⟩=some (.slice A n1 c1)/\W'.cell? ⟨w.heap.size,6,none⟩=some (.slice MK t.ks.length c)):=Lib.hid (fun W' hx=>hbx.ext hx (by omega));have HARR:Hid (∀ W',Ext W W'->W'.heap[w.heap.size+1]?=some (.cells #[.bool x0.neg,.slice XA0 x0.ds.length xc0,.slice XB0 x0.es.length xd0,.bool x1.neg,.slice XA1 x1.ds.length xc1,.slice XB1 x1.es.length xd1,.bool x2.neg,.slice XA2 x2.ds.length xc2,.slice XB2 x2.es.length xd2,.bool x3.neg,.slice XA3 x3.ds.length xc3,.slice XB3 x3.es.length xd3] 35 (0,0))):=Lib.hid (fun W' hx=>(hx.below.block _ (by omega)).trans hbw);clear hWx hbx hbw HR4;go_enter Tryz.func4,Tryz.ntmps4;go_wp2_with fail;clear hW;refine (yax _).mono ?_;rintro e w1 ⟨rfl,y1⟩;have X1:=Lib.hid y1;obtain ⟨b0,b1,b2,b3,b4,b5,b6⟩:=HBX.out _ y1;clear y1;have HFE:=Lib.hid (kb1 60 (by omega) t _ w1 (HT.out.ext (HWX.out.trans X1.out)));go_wp2_with fail;refine HFE.out.mono ?_;rintro e w2 ⟨rfl,y2⟩;have X2:=Lib.hid (X1.out.trans y2);clear y2 HFE b0 b1 b2 b3 b4 b5 b6;obtain ⟨b0,b1,b2,b3,b4,b5,b6⟩:=HBX.out _ X2.out;have hbw:=HARR.out _ X2.out
 by_cases hf:t.few 60=true
 case neg =>
  rw [show t.few 60=false by simpa using hf];clear hf hbw;clear b0 b1 b2 b3 b4 b5 b6;go_wp2_with fail;refine (yax _).mono ?_;rintro e w9 ⟨rfl,x9⟩;have X9:=Lib.hid (HWX.out.trans (X2.out.trans x9));clear x9;go_wp2_with fail;go_ret;exact ⟨rfl,X9.out⟩
 rw [hf];obtain ⟨hsz,hsm⟩:=Mx.few_le hf;have HFA:=Lib.hid (fun (W':World) (hx:Ext W W')=>wb1 (HXS.out.ext hx));clear hf;go_wp2_with fail;refine (HFA.out _ X2.out).mono ?_;rintro e w3 ⟨rfl,y3⟩;have X3:=Lib.hid (X2.out.trans y3);clear y3 HFA b0 b1 b2 b3 b4 b5 b6 hbw
 by_cases hg:xae [x0,x1,x2,x3]=true
 case neg =>
  rw [show xae [x0,x1,x2,x3]=false by simpa using hg];clear hg;obtain ⟨b0,b1,b2,b3,b4,b5,b6⟩:=HBX.out _ X3.out;clear b0 b1 b2 b3 b4 b5 b6;go_wp2_with fail;refine (yax _).mono ?_;rintro e w9 ⟨rfl,x9⟩;have X9:=Lib.hid (HWX.out.trans (X3.out.trans x9));clear x9;go_wp2_with fail;go_ret;exact ⟨rfl,X9.out⟩
 rw [hg];obtain ⟨xs,hxs⟩:∃ xs,[x0,x1,x2,x3].map Fr.q=xs:=⟨_,rfl⟩;have hlen:xs.length=4:=by rw [<- hxs]; rfl
 have HRS:Hid (RsV W 3 (.slice (some ⟨w.heap.size+1,0,none⟩) 4 4) xs):=Lib.hid (by rw [<- hxs]; exact HXS.out.few hg);have hlv:=Mx.lvl_4 (t.sz+1) t (Nat.lt_succ_self _);have HAT:=Lib.hid (fun (W':World) (hx:Ext W W')=>uci (L:=3) (by omega) (by omega) (HRS.out.ext hx) t _ (by omega) hsm (Mx.small_fit hsm) (HT.out.ext (HWX.out.trans hx)));rw [hlen,if_pos (show t.lvl<=((4:Nat):Int) by omega)] at HAT;have HKP:=Lib.hid (xco hsm hdig);have HPO:=Lib.hid (fun (W':World) (hx:Ext W W')=>qb7 t _ W' (by omega) hsm (HT.out.ext (HWX.out.trans hx)));have hpl:t.pols.length<=60:=Nat.le_trans t.pols_len hsz;have HKN:=Lib.hid (fun (W':World) (fv:Value) (fl:List (Pl × Int)) (hx:Ext W W') (hf:vax W' fv fl) (hw:kax fl)=>yco hf hw t _ (by omega) hsm (HT.out.ext (HWX.out.trans hx)));have HPV:Hid (∀ (W':World) (p:Pl) (v:Value) (q':Nat->Prop),Ext W W'->KnP p->PlV W' q' p v->Calls Tryz.prog 15 #[v,.slice (some ⟨w.heap.size+1,0,none⟩) 4 4] W' (gbu (p.val (rho xs)) (rlen (p.val (rho xs))) 0 W')/\rlen (p.val (rho xs))<=1099511627776):=Lib.hid (fun W' p v q' hx hk hp=>by
  have h1:=ubz (L:=3) (by omega) (by omega) (HRS.out.ext hx) p v (by have:=hk.sz; omega) (by rw [hk.nf]; have:=hk.sz; omega) (by have:=hk.dm; omega) hk.eb hp;rw [hk.nf,hlen,if_pos (show p.lv<=((4:Nat):Int) from (Pl.Can.lv_nonneg hk.fit.can).2),if_pos (show p.lv<=((4:Nat):Int) from (Pl.Can.lv_nonneg hk.fit.can).2)] at h1
  exact ⟨h1,Nat.le_trans (Pl.val_rlen (rho xs) 3 (fun i=>ubn (by omega) HRS.out i) p hp.dig) hk.eb⟩)
 have HPL1:=Lib.hid (fun (ls:List (Pl × Int)) (h:zar (rho xs) ls)=>kbs t h);have HPL2:=Lib.hid (gbl (rho xs) t (fun _=>true) 0).2;unfold mxV at HPO HKN;clear hg hxs hlv hsm hdig HXS HT hsz;have HSS:Hid (∀ W',Ext W W'->(Ext W W'/\W'.cell? ⟨w.heap.size,0,none⟩=some (.int .i64 t.kind)/\W'.cell? ⟨w.heap.size,1,none⟩=some (.int .i64 t.rel)/\W'.cell? ⟨w.heap.size,2,none⟩=some (.int .i64 t.p.lv)/\W'.cell? ⟨w.heap.size,3,none⟩=some (.bool t.p.neg)/\W'.cell? ⟨w.heap.size,4,none⟩=some (.slice A0 n0 c0)/\W'.cell? ⟨w.heap.size,5,none⟩=some (.slice A n1 c1)/\W'.cell? ⟨w.heap.size,6,none⟩=some (.slice MK t.ks.length c))):=Lib.hid (fun W' hx=>⟨hx,HBX.out _ hx⟩);have Y0:=Lib.hid (X3.out.drew);go_upto_region 3 with fail
 go_region_held3 (fun W' => Ext W W' /\ W'.cell? ⟨w.heap.size, 0, none⟩ = some (.int .i64 t.kind) /\ W'.cell? ⟨w.heap.size, 1, none⟩ = some (.int .i64 t.rel) /\ W'.cell? ⟨w.heap.size, 2, none⟩ = some (.int .i64 t.p.lv) /\ W'.cell? ⟨w.heap.size, 3, none⟩ = some (.bool t.p.neg) /\ W'.cell? ⟨w.heap.size, 4, none⟩ = some (.slice A0 n0 c0) /\ W'.cell? ⟨w.heap.size, 5, none⟩ = some (.slice A n1 c1) /\ W'.cell? ⟨w.heap.size, 6, none⟩ = some (.slice MK t.ks.length c))
  (first | with_reducible exact HSS.out _ Y0.out | with_reducible exact HSS.out _ z1)
  ((go_at_call 9
    refine (HAT.out _ Y0.out).mono ?_;rintro e w5 ⟨rfl,y5⟩;have z1:Ext W w5:=Y0.out.trans y5
    clear y5))
 all_goals
  have X5:=Lib.hid z1;clear z1 HAT HSS Y0;obtain ⟨tv,htv⟩:∃ tv,t.tv (rho xs)=tv:=⟨_,rfl⟩;obtain ⟨ρ,hρ⟩:∃ ρ,rho xs=ρ:=⟨_,rfl⟩;simp only [htv] at HPL1 HPL2;rw [hρ] at HPL1 HPL2 HPV;rw [htv];clear htv hρ hlen;obtain ⟨want,hwant⟩:∃ want:Int,(if tv=true then (1:Int) else -1)=want:=⟨_,rfl⟩;have HWT:Hid (-1<=want/\want<=1):=Lib.hid (by rw [<- hwant]; split <;> omega);simp only [hwant] at HPL1 HPL2
  go_upto_if 36 with fail
  go_cut [9] from 36 to 36 (fun s wc=>s=.int .i64 want/\wc=w5)
  case first =>
   cases tv
   · have hw1:want=-1:=hwant.symm;subst hw1;go_wp2_with fail
     go_meet
     exact ⟨rfl,rfl⟩
   · have hw1:want=1:=hwant.symm;subst hw1;go_wp2_with fail
     go_meet
     exact ⟨rfl,rfl⟩
  case rest =>
  obtain ⟨rfl,rfl⟩:=hcut;obtain ⟨b0,b1,b2,b3,b4,b5,b6⟩:=HBX.out _ X5.out;go_wp2_with fail;clear b0 b1 b2 b3 b4 b5 b6;refine (HPO.out _ X5.out).mono ?_;rintro e w6 ⟨pv,rfl,hrow,x6⟩;obtain ⟨PA,pc,rfl,hpc1,hpc2⟩:=hrow.len;have HPA:=Lib.hid hrow.at_;have X6:=Lib.hid (X5.out.trans x6);clear hrow x6 HPO X1 X2 X3 X5;generalize t.pols=ps at *;go_wp2_with fail
  go_loopw [10,11,41] (fun us ua iv wr=>∃ (k:Nat),k<=ps.length/\iv=.int .i64 k/\∃ ls,Hid (zar ρ ls/\kax ls/\ls.length<=k/\Ext w6 wr/\yae w6.heap.size wr ua us (kab ρ ps (fun _=>true) k) ls)) (fun _ _ iv _=>ps.length - (intOf iv).toNat)
  case atStart=>exact ⟨0,Nat.zero_le _,rfl,[],Lib.hid ⟨fun x hx=>(by cases hx),fun x hx=>(by cases hx),Nat.le_refl _,Ext.refl _,yae.nil _ _⟩⟩
  case round =>
   obtain ⟨k,hk,rfl,ls,HI⟩:=hrel;obtain ⟨UA,uc,rfl,hu1,hu2⟩:=HI.out.2.2.2.2.len;obtain ⟨US,sc,rfl,hs1,hs2⟩:=HI.out.2.2.2.2.swap.len;have HXW:=Lib.hid HI.out.2.2.2.1;have hal:=qbw ρ ps (fun _=>true) k;have hll:=HI.out.2.2.1
   by_cases hlt:k < ps.length
   · have HK:=Lib.hid (HKP.out ps[k] (List.getElem_mem hlt));obtain ⟨ad,C0,cn0,cc0,C1,cn1,cc1,rfl,hadb,hat,hkt⟩:=jg.kid HPA.out k hlt;have hown:=HI.out.2.2.2.2.own;have HPKP:Hid (∀ V,Ext w6 V->PlV V (fun b=>b < w6.heap.size/\(Value.slice UA (kab ρ ps (fun _=>true) k).length uc).ownBlock ≠ some b/\(Value.slice US ls.length sc).ownBlock ≠ some b) ps[k] (plV ps[k] (.slice C0 cn0 cc0) (.slice C1 cn1 cc1))):=Lib.hid (fun V hx=>PlV.turn_ hx.size (fun _ _ h=>h.ext hx) (fun b hb _=>⟨⟨hb,fun e=>by have:=(hown.1 b e).1; omega,fun e=>by have:=(hown.2 b e).1; omega⟩,hx.below.block b hb⟩) hkt);have HAD:Hid (∀ W',Ext w6 W'->(W'.cell? (ad.add (k * 4))=some (.int .i64 ps[k].lv)/\W'.cell? ⟨(ad.add (k * 4)).block,(ad.add (k * 4)).off+1,none⟩=some (.bool ps[k].neg)/\W'.cell? ⟨(ad.add (k * 4)).block,(ad.add (k * 4)).off+2,none⟩=some (.slice C0 cn0 cc0)/\W'.cell? ⟨(ad.add (k * 4)).block,(ad.add (k * 4)).off+3,none⟩=some (.slice C1 cn1 cc1))):=Lib.hid (fun W' hx=>hat.ext hx (by rw [jb]; exact hadb));have hpv:=fun (W':World) (hx:Ext wr W')=>HPV.out W' ps[k] _ _ (X6.out.trans (HXW.out.trans hx)) HK.out (hkt.ext (HXW.out.trans hx))
     have HPV1:=Lib.hid (fun (W':World) (hx:Ext wr W')=>(hpv W' hx).1);have hrl:=(hpv wr (Ext.refl wr)).2;have HOP:=Lib.hid (fun (W':World) (hx:Ext w6 W')=>wbe _ (hkt.ext hx) HK.out.fit (by omega) (by omega));have HNX:Hid (ual ρ ps k=if k % 2=1 then (ps[k].opp,-sgQ (ps[k].val ρ)) else (ps[k],7 * sgQ (ps[k].val ρ))):=Lib.hid (by
      unfold ual
      rw [show ps.getD k Pl.zero=ps[k] by rw [List.getD_eq_getElem?_getD,List.getElem?_eq_getElem hlt]; rfl])
     have HSU:=Lib.hid (xb3 ρ ps k);have HFW:=Lib.hid (jbo (ρ:=ρ) (fun p hp=>HKP.out p hp) k hlt);have HOK:=Lib.hid (kbo ρ ps k);have hrp:=yu (ps[k].val ρ);have hsg:=wbw (ps[k].val ρ);unfold plV at HPV1 HOP;clear hpv hat hkt hadb hown;generalize ps[k]=pk at *;generalize pk.val ρ=qq at *;generalize ual ρ ps k=fk at *;generalize kab ρ ps (fun _=>true) k=la at *;have Y0:=Lib.hid ((Ext.refl wr).drew);go_upto_region 12 with fail
     go_cut [14,15] from 44 to 52 (fun s14 s15 wc=>s15=.int .i64 0/\∃ g,s14=.pointer (some ⟨g,0,none⟩)/\Hid (ybv wr g qq wc))
     case first =>
      refine wp_region_held_drew (S:=fun W'=>Ext wr W') (by kernel_rfl) Y0.out (fun hHeld=>?_);refine tk 0 ?_;refine tk 1 ?_;refine tk 2 ?_;refine tk 3 ?_ (hy:=Or.inl ⟨by rfl,by intro w' hSw; obtain ⟨k0,k1,k2,k3⟩:=HAD.out w' (HXW.out.trans hSw); go_simp; (try (with_reducible rfl))⟩);refine tk 4 ?_;refine wpAnyH_ready (rs:=[5,9]) (by kernel_rfl) (by simp) ?_;refine AllReadyH.cons rfl (fun K hK=>?cF) (AllReadyH.cons rfl (fun K hK=>?aF) AllReadyH.nil)
      case cF =>
       go_simp
       go_at_call 15
       refine (HPV1.out _ Y0.out).mono ?_;rintro e w7 ⟨z7,rfl,r7,x7⟩;obtain ⟨p1,P1,pn,pc',P2,pm,pd,rfl⟩:=gbe r7;have z1:Ext wr w7:=Y0.out.trans x7;refine hK.out _ _ z1 (fun hHeld=>?_);clear hK K
       try simp only [Act.put,List.getElem_toArray,List.getElem_cons_zero,List.getElem_cons_succ,List.setIfInBounds_toArray,List.set_cons_zero,List.set_cons_succ]
       refine tk 6 ?_;refine tk 7 ?_;refine tk 8 ?_;refine wpAnyH_ready (rs:=[9]) (by kernel_rfl) (by simp) ?_;refine AllReadyH.cons rfl (fun K hK=>?_) AllReadyH.nil;go_simp;refine hK.out _ _ (z1.alloc _) (fun hHeld=>?_);clear hK K
       try simp only [Act.put,List.getElem_toArray,List.getElem_cons_zero,List.getElem_cons_succ,List.setIfInBounds_toArray,List.set_cons_zero,List.set_cons_succ]
       refine wpAnyH_ready (rs:=[10]) (by kernel_rfl) (by simp) ?_;refine AllReadyH.cons rfl (fun K hK=>?_) AllReadyH.nil;go_simp;refine (?f1:∀ V,ybv wr w7.heap.size qq V->K _ V) _ ⟨z1.alloc _,z1.size,by simp,p1,P1,pn,pc',P2,pm,pd,by simp [go_sem],by simp [go_sem],by simp [go_sem],r7.ext ((Ext.refl w7).alloc _)⟩;intro V hV;refine hK.out _ _ hV.1 (fun hHeld=>?_);clear hK K
       try simp only [Act.put,List.getElem_toArray,List.getElem_cons_zero,List.getElem_cons_succ,List.setIfInBounds_toArray,List.set_cons_zero,List.set_cons_succ]
       refine tk 11 ?_;refine wpAnyH_done (by kernel_rfl) ?_ _;clear r7 x7 z1 hHeld;go_wp2_with fail
       go_meet
       exact ⟨rfl,_,rfl,hV⟩
      case aF =>
       go_simp;refine hK.out _ _ (Y0.out.alloc _) (fun hHeld=>?_);clear hK K
       try simp only [Act.put,List.getElem_toArray,List.getElem_cons_zero,List.getElem_cons_succ,List.setIfInBounds_toArray,List.set_cons_zero,List.set_cons_succ]
       refine wpAnyH_ready (rs:=[5]) (by kernel_rfl) (by simp) ?_;refine AllReadyH.cons rfl (fun K hK=>?_) AllReadyH.nil;go_simp
       go_at_call 15
       refine (HPV1.out _ (Y0.out.alloc _)).mono ?_;rintro e w7 ⟨z7,rfl,r7,x7⟩;obtain ⟨p1,P1,pn,pc',P2,pm,pd,rfl⟩:=gbe r7;have z1:Ext wr w7:=(Y0.out.alloc _).trans x7;have hl7:wr.heap.size < w7.heap.size:=by have:=x7.size; simp at this; omega
       have c0':w7.cell? ⟨wr.heap.size,0,none⟩=some (.bool false):=(x7.cell (p:=⟨wr.heap.size,0,none⟩) (by simp)).trans (by simp [go_sem]);have c1':w7.cell? ⟨wr.heap.size,1,none⟩=some (.slice none 0 0):=(x7.cell (p:=⟨wr.heap.size,1,none⟩) (by simp)).trans (by simp [go_sem]);have c2':w7.cell? ⟨wr.heap.size,2,none⟩=some (.slice none 0 0):=(x7.cell (p:=⟨wr.heap.size,2,none⟩) (by simp)).trans (by simp [go_sem]);have f0':w7.frozen? ⟨wr.heap.size,0,none⟩=false:=(x7.frozen (p:=⟨wr.heap.size,0,none⟩) (by simp)).trans (by simp [go_sem]);have f1':w7.frozen? ⟨wr.heap.size,1,none⟩=false:=(x7.frozen (p:=⟨wr.heap.size,1,none⟩) (by simp)).trans (by simp [go_sem]);have f2':w7.frozen? ⟨wr.heap.size,2,none⟩=false:=(x7.frozen (p:=⟨wr.heap.size,2,none⟩) (by simp)).trans (by simp [go_sem]);refine hK.out _ _ z1 (fun hHeld=>?_);clear hK K
       try simp only [Act.put,List.getElem_toArray,List.getElem_cons_zero,List.getElem_cons_succ,List.setIfInBounds_toArray,List.set_cons_zero,List.set_cons_succ]
       refine tk 6 ?_;refine tk 7 ?_;refine tk 8 ?_;refine wpAnyH_ready (rs:=[10]) (by kernel_rfl) (by simp) ?_;refine AllReadyH.cons rfl (fun K hK=>?_) AllReadyH.nil;go_simp;refine (?f2:∀ V,ybv wr wr.heap.size qq V->K _ V) _ (gbx z1 (Nat.le_refl _) hl7 c0' c1' c2' rfl rfl rfl r7);intro V hV;refine hK.out _ _ hV.1 (fun hHeld=>?_);clear hK K
       try simp only [Act.put,List.getElem_toArray,List.getElem_cons_zero,List.getElem_cons_succ,List.setIfInBounds_toArray,List.set_cons_zero,List.set_cons_succ]
       refine tk 11 ?_;refine wpAnyH_done (by kernel_rfl) ?_ _;clear r7 x7 z1 hHeld hl7 c0' c1' c2' f0' f1' f2';go_wp2_with fail
       go_meet
       exact ⟨rfl,_,rfl,hV⟩
     case rest =>
     obtain ⟨rfl,g,rfl,hVh⟩:=hcut;have hV:=hVh.out;obtain ⟨V,rfl⟩:∃ V,V=wc:=⟨wc,rfl⟩;clear hVh;obtain ⟨hV1,hV2,hV3,p1,P1,pn,pc',P2,pm,pd,hv0,hv1,hv2,hvr⟩:=hV;have HV1:=Lib.hid hV1;have HVC:Hid (∀ W',Ext V W'->W'.cell? ⟨g,0,none⟩=some (.bool p1)/\W'.cell? ⟨g,1,none⟩=some (.slice P1 pn pc')/\W'.cell? ⟨g,2,none⟩=some (.slice P2 pm pd)):=Lib.hid (fun W' hx=>⟨(hx.cell (p:=⟨g,0,none⟩) hV3).trans hv0,(hx.cell (p:=⟨g,1,none⟩) hV3).trans hv1,(hx.cell (p:=⟨g,2,none⟩) hV3).trans hv2⟩);have HVS:=Lib.hid (fun (W':World) (hx:Ext V W')=>za9 _ qq _ W' (hvr.ext hx) hrp);have hw7:IntKind.i64.wrap (7 * sgQ qq)=7 * sgQ qq:=by rw [IntKind.wrap_i64]; omega
     have hw7':wrap64 (7 * sgQ qq)=7 * sgQ qq:=IntWalk.wrap64_in _ (by omega);have hwn:IntKind.i64.wrap (-sgQ qq)=-sgQ qq:=by rw [IntKind.wrap_i64]; omega
     have hwn':wrap64 (-sgQ qq)=-sgQ qq:=IntWalk.wrap64_in _ (by omega);have Y2:=Lib.hid ((Ext.refl V).drew);clear hV1 hv0 hv1 hv2 hvr;go_upto_region 15 with fail
     go_cut [16] from 55 to 62 (fun s16 wc=>∃ g2,s16=.pointer (some ⟨g2,0,none⟩)/\Hid (xa8 V g2 pk (7 * sgQ qq) (.slice UA la.length uc) (.slice US ls.length sc) wc))
     case first =>
      have hz6:w6.heap.size<=V.heap.size:=(HXW.out.trans HV1.out).size;refine wp_region_held_drew (S:=fun W'=>Ext V W') (by kernel_rfl) Y2.out (fun hHeld=>?_);refine tk 0 ?_;refine tk 1 ?_;refine tk 2 ?_;refine tk 3 ?_ (hy:=Or.inl ⟨by rfl,by intro w' hSw; obtain ⟨k0,k1,k2,k3⟩:=HAD.out w' (HXW.out.trans (HV1.out.trans hSw)); go_simp; (try (with_reducible rfl))⟩);refine tk 4 ?_ (hy:=Or.inl ⟨by rfl,by intro w' hSw; obtain ⟨k0,k1,k2⟩:=HVC.out w' hSw; go_simp; (try (with_reducible rfl))⟩);refine wpAnyH_ready (rs:=[5,8]) (by kernel_rfl) (by simp) ?_;refine AllReadyH.cons rfl (fun K hK=>?cS) (AllReadyH.cons rfl (fun K hK=>?aS) AllReadyH.nil)
      case cS =>
       go_simp
       go_at_call 16
       refine (HVS.out _ Y2.out).mono ?_;rintro e w8 ⟨rfl,x8⟩;have z2:Ext V w8:=Y2.out.trans x8;refine hK.out _ _ z2 (fun hHeld=>?_);clear hK K
       try simp only [Act.put,List.getElem_toArray,List.getElem_cons_zero,List.getElem_cons_succ,List.setIfInBounds_toArray,List.set_cons_zero,List.set_cons_succ]
       refine tk 6 ?_;refine tk 7 ?_;refine wpAnyH_ready (rs:=[8]) (by kernel_rfl) (by simp) ?_;refine AllReadyH.cons rfl (fun K hK=>?_) AllReadyH.nil;go_simp;refine hK.out _ _ (z2.alloc _) (fun hHeld=>?_);clear hK K
       try simp only [Act.put,List.getElem_toArray,List.getElem_cons_zero,List.getElem_cons_succ,List.setIfInBounds_toArray,List.set_cons_zero,List.set_cons_succ]
       refine wpAnyH_ready (rs:=[9]) (by kernel_rfl) (by simp) ?_;refine AllReadyH.cons rfl (fun K hK=>?_) AllReadyH.nil;go_simp;refine (?f3:∀ V3,xa8 V w8.heap.size pk (7 * sgQ qq) (.slice UA la.length uc) (.slice US ls.length sc) V3->K _ V3) _ ⟨z2.alloc _,z2.size,by simp,fun i=>by simp [go_sem],C0,cn0,cc0,C1,cn1,cc1,⟨by simp [go_sem],by simp [go_sem],by simp [go_sem],by simp [go_sem],by simp [go_sem]⟩,(HPKP.out _ (HXW.out.trans (HV1.out.trans (z2.alloc _)))).mono fun _ hb=>hb.2⟩;intro V3 hF;refine hK.out _ _ hF.1 (fun hHeld=>?_);clear hK K
       try simp only [Act.put,List.getElem_toArray,List.getElem_cons_zero,List.getElem_cons_succ,List.setIfInBounds_toArray,List.set_cons_zero,List.set_cons_succ]
       refine wpAnyH_done (by kernel_rfl) ?_ _;clear x8 z2 hHeld;go_wp2_with fail
       go_meet
       exact ⟨_,rfl,hF⟩
      case aS =>
       go_simp;refine hK.out _ _ (Y2.out.alloc _) (fun hHeld=>?_);clear hK K
       try simp only [Act.put,List.getElem_toArray,List.getElem_cons_zero,List.getElem_cons_succ,List.setIfInBounds_toArray,List.set_cons_zero,List.set_cons_succ]
       refine wpAnyH_ready (rs:=[5]) (by kernel_rfl) (by simp) ?_;refine AllReadyH.cons rfl (fun K hK=>?_) AllReadyH.nil;go_simp
       go_at_call 16
       refine (HVS.out _ (Y2.out.alloc _)).mono ?_;rintro e w8 ⟨rfl,x8⟩;have z2:Ext V w8:=(Y2.out.alloc _).trans x8;have hl8:V.heap.size < w8.heap.size:=by have:=x8.size; simp at this; omega
       have d0':w8.cell? ⟨V.heap.size,0,none⟩=some (.int .i64 0):=(x8.cell (p:=⟨V.heap.size,0,none⟩) (by simp)).trans (by simp [go_sem]);have d1':w8.cell? ⟨V.heap.size,1,none⟩=some (.bool false):=(x8.cell (p:=⟨V.heap.size,1,none⟩) (by simp)).trans (by simp [go_sem]);have d2':w8.cell? ⟨V.heap.size,2,none⟩=some (.slice none 0 0):=(x8.cell (p:=⟨V.heap.size,2,none⟩) (by simp)).trans (by simp [go_sem]);have d3':w8.cell? ⟨V.heap.size,3,none⟩=some (.slice none 0 0):=(x8.cell (p:=⟨V.heap.size,3,none⟩) (by simp)).trans (by simp [go_sem]);have d4':w8.cell? ⟨V.heap.size,4,none⟩=some (.int .i64 0):=(x8.cell (p:=⟨V.heap.size,4,none⟩) (by simp)).trans (by simp [go_sem]);have hfr8:∀ i,w8.frozen? ⟨V.heap.size,i,none⟩=false:=fun i=>(x8.frozen (p:=⟨V.heap.size,i,none⟩) (by simp)).trans (by simp [go_sem])
       have g0':=hfr8 0;have g1':=hfr8 1;have g2':=hfr8 2;have g3':=hfr8 3;have g4':=hfr8 4;refine hK.out _ _ z2 (fun hHeld=>?_);clear hK K
       try simp only [Act.put,List.getElem_toArray,List.getElem_cons_zero,List.getElem_cons_succ,List.setIfInBounds_toArray,List.set_cons_zero,List.set_cons_succ]
       refine tk 6 ?_;refine tk 7 ?_;refine wpAnyH_ready (rs:=[9]) (by kernel_rfl) (by simp) ?_;refine AllReadyH.cons rfl (fun K hK=>?_) AllReadyH.nil;go_simp;refine (?f4:∀ V3,xa8 V V.heap.size pk (7 * sgQ qq) (.slice UA la.length uc) (.slice US ls.length sc) V3->K _ V3) _ (qba (u:=fun j=>if j=0 then .int .i64 0 else if j=1 then .bool false else if j=2 then .slice none 0 0 else if j=3 then .slice none 0 0 else .int .i64 0) z2 (Nat.le_refl _) hl8 hfr8 (fun j hj=>by
        rcases (show j=0\/j=1\/j=2\/j=3\/j=4 by omega) with rfl | rfl | rfl | rfl | rfl
        · exact ⟨d0',rfl⟩
        · exact ⟨d1',rfl⟩
        · exact ⟨d2',rfl⟩
        · exact ⟨d3',rfl⟩
        · exact ⟨d4',rfl⟩) ((HPKP.out _ (HXW.out.trans (HV1.out.trans z2))).mono fun b hb=>⟨fun e=>by have:=hb.1; omega,hb.2⟩))
       intro V3 hF;refine hK.out _ _ hF.1 (fun hHeld=>?_);clear hK K
       try simp only [Act.put,List.getElem_toArray,List.getElem_cons_zero,List.getElem_cons_succ,List.setIfInBounds_toArray,List.set_cons_zero,List.set_cons_succ]
       refine wpAnyH_done (by kernel_rfl) ?_ _;clear x8 z2 hHeld hl8 d0' d1' d2' d3' d4' hfr8 g0' g1' g2' g3' g4';go_wp2_with fail
       go_meet
       exact ⟨_,rfl,hF⟩
     case rest =>
     obtain ⟨g2,rfl,hFh⟩:=hcut;have hF:=hFh.out;obtain ⟨V3,rfl⟩:∃ V3,V3=wc:=⟨wc,rfl⟩;clear hFh;have hzV:wr.heap.size<=V.heap.size:=HV1.out.size
     go_upto_if 65 with fail
     go_cut [] from 65 to 74 (fun wc=>Hid (xa8 V g2 fk.1 fk.2 (.slice UA la.length uc) (.slice US ls.length sc) wc))
     case first =>
      by_cases hodd:k % 2=1
      · have hm:(((k:Nat):Int) % 2 == 1)=true:=by simp; omega
        have HFK:=Lib.hid (show fk=(pk.opp,-sgQ qq) by rw [HNX.out,if_pos hodd]);obtain ⟨F1,F2,F3,F4,E0,e0n,e0c,E1,e1n,e1c,⟨f0,f1,f2,f3,f4⟩,-⟩:=hF;have HF1:=Lib.hid F1;have hzF:=F1.size;clear hodd F1;go_upto_region 17 with fail;refine wp_region_held_drew (S:=fun W'=>Ext V W') (by kernel_rfl) HF1.out.drew (fun hHeld=>?_);refine tk 0 ?_;refine tk 1 ?_;refine tk 2 ?_;refine tk 3 ?_ (hy:=Or.inl ⟨by rfl,by intro w' hSw; obtain ⟨k0,k1,k2,k3⟩:=HAD.out w' (HXW.out.trans (HV1.out.trans hSw)); go_simp; (try (with_reducible rfl))⟩);refine tk 5 ?_ (hy:=Or.inl ⟨by rfl,by intro w' hSw; obtain ⟨k0,k1,k2⟩:=HVC.out w' hSw; go_simp; (try (with_reducible rfl))⟩);refine wpAnyH_ready (rs:=[4]) (by kernel_rfl) (by simp) ?_;refine AllReadyH.cons rfl (fun K hK=>?_) AllReadyH.nil;go_simp
        go_at_call 17
        refine (HOP.out _ (HXW.out.trans (HV1.out.trans HF1.out.drew))).mono ?_;rintro e w9 ⟨v9,rfl,p9,x9⟩;obtain ⟨N0,nn0,nc0,N1,nc1,rfl,-⟩:=id p9.open_;have z3:Ext V w9:=HF1.out.drew.trans x9;have P9:=Lib.hid p9;unfold plV;refine hK.out _ _ z3 (fun hHeld=>?_);clear hK K p9
        try simp only [Act.put,List.getElem_toArray,List.getElem_cons_zero,List.getElem_cons_succ,List.setIfInBounds_toArray,List.set_cons_zero,List.set_cons_succ]
        refine wpAnyH_ready (rs:=[6]) (by kernel_rfl) (by simp) ?_;refine AllReadyH.cons rfl (fun K hK=>?_) AllReadyH.nil;go_simp
        go_at_call 16
        refine (HVS.out _ z3).mono ?_;rintro e w10 ⟨rfl,x10⟩;have z4:Ext V w10:=z3.trans x10;have yy:Ext V3 w10:=(Ext.refl V3).drew.trans (x9.trans x10);have hl10:g2 < w10.heap.size:=Nat.lt_of_lt_of_le F3 yy.size;have d0':=(yy.cell (p:=⟨g2,0,none⟩) F3).trans f0;have d1':=(yy.cell (p:=⟨g2,1,none⟩) F3).trans f1;have d2':=(yy.cell (p:=⟨g2,2,none⟩) F3).trans f2;have d3':=(yy.cell (p:=⟨g2,3,none⟩) F3).trans f3;have d4':=(yy.cell (p:=⟨g2,4,none⟩) F3).trans f4;have hfr8:∀ i,w10.frozen? ⟨g2,i,none⟩=false:=fun i=>(yy.frozen (p:=⟨g2,i,none⟩) F3).trans (F4 i)
        have g0':=hfr8 0;have g1':=hfr8 1;have g2':=hfr8 2;have g3':=hfr8 3;have g4':=hfr8 4;refine hK.out _ _ z4 (fun hHeld=>?_);clear hK K f0 f1 f2 f3 f4 F4
        try simp only [Act.put,List.getElem_toArray,List.getElem_cons_zero,List.getElem_cons_succ,List.setIfInBounds_toArray,List.set_cons_zero,List.set_cons_succ]
        refine tk 7 ?_;refine tk 8 ?_;refine wpAnyH_ready (rs:=[9]) (by kernel_rfl) (by simp) ?_;refine AllReadyH.cons rfl (fun K hK=>?_) AllReadyH.nil;go_simp;have hlo:=HI.out.2.2.2.2.own;have hFX:=qba (f:=pk.opp) (s:=-sgQ qq) (va:=(.slice UA la.length uc)) (vs:=(.slice US ls.length sc)) (u:=fun j=>if j=0 then .int .i64 pk.lv else if j=1 then .bool pk.neg else if j=2 then .slice E0 e0n e0c else if j=3 then .slice E1 e1n e1c else .int .i64 (7 * sgQ qq)) z4 F2 hl10 hfr8 (fun j hj=>by
         rcases (show j=0\/j=1\/j=2\/j=3\/j=4 by omega) with rfl | rfl | rfl | rfl | rfl
         · exact ⟨d0',rfl⟩
         · exact ⟨d1',rfl⟩
         · exact ⟨d2',rfl⟩
         · exact ⟨d3',rfl⟩
         · exact ⟨d4',rfl⟩) ((P9.out.ext x10).mono fun b hb=>by
           have hb':V3.heap.size<=b:=hb
           exact ⟨by omega,fun e=>by have:=(hlo.1 b e).2; omega,fun e=>by have:=(hlo.2 b e).2; omega⟩)
        refine (?f5:∀ V4,xa8 V g2 pk.opp (-sgQ qq) (.slice UA la.length uc) (.slice US ls.length sc) V4->K _ V4) _ hFX;intro V4 hF4;refine hK.out _ _ hF4.1 (fun hHeld=>?_);clear hK K hlo hFX
        try simp only [Act.put,List.getElem_toArray,List.getElem_cons_zero,List.getElem_cons_succ,List.setIfInBounds_toArray,List.set_cons_zero,List.set_cons_succ]
        refine wpAnyH_done (by kernel_rfl) ?_ _;clear x9 z3 x10 z4 yy hl10 d0' d1' d2' d3' d4' hfr8 g0' g1' g2' g3' g4';go_wp2_with fail
        go_meet
        rw [HFK.out];exact hF4
      · have hm:(((k:Nat):Int) % 2 == 1)=false:=by simp; omega
        have HFK:=Lib.hid (show fk=(pk,7 * sgQ qq) by rw [HNX.out,if_neg hodd]);clear hodd;go_wp2_with fail
        go_meet
        rw [HFK.out];exact hF
     case rest =>
     have hF:=hcut.out;obtain ⟨V4,rfl⟩:∃ V4,V4=wc:=⟨wc,rfl⟩;obtain ⟨F1,F2,F3,F4,E0,e0n,e0c,E1,e1n,e1c,⟨f0,f1,f2,f3,f4⟩,hpf⟩:=hF;have hx4:Ext w6 V4:=HXW.out.trans (HV1.out.trans F1);have hz4:=hx4.size;have hT4:=HI.out.2.2.2.2.ext (HV1.out.trans F1);have hlo:=HI.out.2.2.2.2.own;obtain ⟨v9,w9,hrun,hT9,hg9,hk9⟩:=hT4.push hz4 (s:=fk.2) hpf (by omega) 51;obtain ⟨UB,ub,rfl,hub1,hub2⟩:=hT9.len;have hx9:Ext w6 w9:=Below.grown hx4 hg9 hx4.size (fun R e=>(hlo.1 R e).1);have hz9:=hx9.size;have hblk:w9.heap[g2]?=V4.heap[g2]?:=World.grownBy.block hg9 g2 F3 (fun e=>by have:=(hlo.1 g2 e.symm).2; omega);have hcc:∀ j,w9.cell? ⟨g2,j,none⟩=V4.cell? ⟨g2,j,none⟩:=fun j=>World.cell?_of_block (a:=⟨g2,j,none⟩) hblk
     have m0:=(hcc 0).trans f0;have m1:=(hcc 1).trans f1;have m2:=(hcc 2).trans f2;have m3:=(hcc 3).trans f3;have m4:=(hcc 4).trans f4;obtain ⟨v10,w10,hrun2,hT10,hg10,-⟩:=hT9.swap.push hz9 (s:=fk.2) ((hk9 _ _ hpf).mono fun b hb=>⟨hb.2,hb.1⟩) (by omega) 51;obtain ⟨UC,ucc,rfl,huc1,huc2⟩:=hT10.len;have hx10:Ext w6 w10:=Below.grown hx9 hg10 hx9.size (fun R e=>(hT9.own.2 R e).1);have HNO:Hid (zar ρ ls/\kax ls/\ls.length<=k+1/\Ext w6 w9/\yae w6.heap.size w9 (.slice UB (la ++ [(fk.1,fk.2)]).length ub) (.slice US ls.length sc) (la ++ [(fk.1,fk.2)]) ls):=Lib.hid ⟨HI.out.1,HI.out.2.1,by omega,hx9,hT9⟩;have hlen1:(la ++ [(fk.1,fk.2)]).length=la.length+1:=by simp
     have hlen2:(ls ++ [(fk.1,fk.2)]).length=ls.length+1:=by simp
     have hT10':=hT10.swap;rw [hlen1,hlen2] at hT10';have HYES:Hid (zar ρ (ls ++ [(fk.1,fk.2)])/\kax (ls ++ [(fk.1,fk.2)])/\(ls ++ [(fk.1,fk.2)]).length<=k+1/\Ext w6 w10/\yae w6.heap.size w10 (.slice UB (la.length+1) ub) (.slice UC (ls.length+1) ucc) (la ++ [(fk.1,fk.2)]) (ls ++ [(fk.1,fk.2)])):=Lib.hid ⟨fun x hx=>by
      rcases List.mem_append.1 hx with hx | hx
      · exact HI.out.1 x hx
      · rw [List.mem_singleton.1 hx]; exact HOK.out,fun x hx=>by
      rcases List.mem_append.1 hx with hx | hx
      · exact HI.out.2.1 x hx
      · rw [List.mem_singleton.1 hx]; exact HFW.out,by rw [List.length_append,List.length_singleton]; omega,hx10,hT10'⟩
     rw [hlen1] at HNO;clear hcut hF F1 F2 F3 F4 hx4 hT4 hlo hT9 hg9 hk9 hpf hblk hcc hT10 hT10' hg10 hx9 hx10
     go_upto_region 19 with (at_builtin
                             refine wpList_append_run rfl (.tmp 75) (.tmp 77) _ _ rfl _ _ _ _ rfl rfl hrun ?_)
     clear hrun f0 f1 f2 f3 f4
     go_wp2_with (at_builtin
                  refine wpList_append_run rfl (.tmp 85) (.tmp 87) _ _ rfl _ _ _ _ rfl rfl hrun2 ?_)
     all_goals
      clear hrun2 m0 m1 m2 m3 m4
      go_roundw
      case rel =>
       first
        | exact ⟨k+1,by omega,by go_num,ls ++ [(fk.1,fk.2)],by rw [HSU.out]; exact Lib.hid HYES.out⟩
        | exact ⟨k+1,by omega,by go_num,ls,by rw [HSU.out]; exact Lib.hid HNO.out⟩
      case measure=>simp [intOf]; omega
   · obtain rfl:k=ps.length:=by omega
     obtain ⟨b0,b1,b2,b3,b4,b5,b6⟩:=HBX.out _ (X6.out.trans HXW.out);have HK1:=Lib.hid (HKN.out wr _ ls (X6.out.trans HXW.out) HI.out.2.2.2.2.swap.facts HI.out.2.1);have HK2:=Lib.hid (fun (W':World) (hx:Ext wr W')=>HKN.out W' _ _ (X6.out.trans (HXW.out.trans hx)) (HI.out.2.2.2.2.facts.ext hx) (xbq (fun p hp=>HKP.out p hp) (fun _=>true) ps.length (Nat.le_refl _)));have hne:=HPL1.out ls HI.out.1;have heq:=HPL2.out;rw [heq] at HK2;have hwb:=HWT.out;have hwn:IntKind.i64.wrap (-want)=-want:=by rw [IntKind.wrap_i64]; omega
     have hwn':wrap64 (-want)=-want:=IntWalk.wrap64_in _ (by omega);generalize (t.kn fun p=>knP p.nf ls)=z1 at *;have hz1:(z1 != -want)=true:=by simpa using hne
     clear hne heq hwb;go_wp2_with fail;clear b0 b1 b2 b3 b4 b5 b6;refine HK1.out.mono ?_;rintro e w7 ⟨rfl,x7⟩;have X7:=Lib.hid x7;obtain ⟨b0,b1,b2,b3,b4,b5,b6⟩:=HBX.out _ (X6.out.trans (HXW.out.trans x7));clear x7 HK1;go_wp2_with fail;clear b0 b1 b2 b3 b4 b5 b6;refine (HK2.out _ X7.out).mono ?_;rintro e w8 ⟨rfl,x8⟩;have X8:=Lib.hid (HWX.out.trans (X6.out.trans (HXW.out.trans (X7.out.trans x8))));clear x8 HK2;go_wp2_with fail;go_ret;exact ⟨rfl,X8.out⟩
end Go.Proofs.YtaedbimbbeploaaGreat
