/- Layer 20: sparse.Content. -/
import Derived.Test.YtklnlgnnlmdibaaGreatMr38
import Derived.Test.YtklnlgnnlmdibaaGreatMr41
import Derived.Test.YtklnlgnnlmdibaaGreatMr47
set_option linter.unusedSimpArgs false
set_option linter.unusedVariables false

set_option maxRecDepth 100000
set_option maxHeartbeats 8000000
namespace Go.Proofs.YtklnlgnnlmdibaaGreat
open Go.RowKit Go.Shelf
attribute [local go_sem] Oper.semAt_some
theorem ybg {l:Sp} {L:Nat} (h:∀ x ∈ l,(dg x.1.natAbs).length<=L):(dg ((snc l:Nat):Int).natAbs).length<=L:=by
 rw [Int.natAbs_natCast]
 by_cases hx:∃ x ∈ l,x.1 ≠ 0
 · obtain ⟨x,hx,h0⟩:=hx;exact Nat.le_trans (gp (qbz hx h0)) (h x hx)
 · have:snc l<=0:=uck l 0 fun x hx'=>by
    have:¬ x.1 ≠ 0:=fun h=>hx ⟨x,hx',h⟩
    omega
   rw [show snc l=0 by omega];simp [dg]
theorem yl.kept {W W':World} {row:Option Nat} (hg:W.grownBy W' row) (hr:∀ r,row=some r->∃ o:Obj,W.heap[r]?=some o/\o.isCells=false) {x:Value} {z:Int} (h:yl W x z):yl W' x z:=by
 obtain ⟨v,e,hv⟩:=h;exact ⟨v,e,wam hg hr hv⟩
theorem jw.setTwo (T:Nat) (W:World) {u0 u1:Value} (v0 v1:Value) (h0:W.cell? ⟨T,0,none⟩=some u0) (h1:W.cell? ⟨T,1,none⟩=some u1) (d0:um u0=false) (d1:um u1=false):jw T W ((W.setCell ⟨T,0,none⟩ v0).setCell ⟨T,1,none⟩ v1):=by
 have k1:(W.setCell ⟨T,0,none⟩ v0).cell? ⟨T,1,none⟩=some u1:=by rw [World.cell?_setCell_other _ _ _ _ (by simp),h1]
 exact ⟨by simp [World.setCell],fun i o hi ho _=>by rw [Below.heap_setCell _ _ _ i hi,Below.heap_setCell _ _ _ i hi]; exact ho,fun _ _ hx=>(hx.box h0 d0 v0).box k1 d1 v1⟩
theorem jcf {W:World} {T:Nat} {u0 u1 v0 v1:Value} {t:TypeId} (h:W.heap[T]?=some (.cells #[u0,u1] t (0,0))):((W.setCell ⟨T,0,none⟩ v0).setCell ⟨T,1,none⟩ v1).heap[T]?=some (.cells #[v0,v1] t (0,0)):=by
 simp only [World.setCell,Array.getElem?_modify,h,if_true,Option.map_some]
 rfl
theorem vbp {w:World} {v:Value} {l:Sp} (h:SpV w none v l) (hc:yh l=l) (hdg:∀ x ∈ l,(dg x.1.natAbs).length<=1099511627776) (hL:(dg (xg l)).length<=1099511627776) (hlen:l.length<=1099511627776):Calls Tryz.prog 86 #[v] w (gad ((snc l:Nat):Int) w):=by
 have HDG:=Lib.hid hdg;have HTQ:=Lib.hid (fun (W':World) (hx:Ext w W')=>uby (h.ext hx) hdg hL hlen);rw [hc] at HTQ;obtain ⟨A0,k0,rfl,-⟩:=h;obtain ⟨l0,hl0⟩:∃ l0,l.length=l0:=⟨_,rfl⟩;rw [hl0] at HTQ;rw [hl0];clear hc hdg hL;have hdd:∀ k:Nat,(Fence.wide.depth.isSome=true->1<=k):=fun k h=>by cases h
 obtain ⟨W0,hW0⟩:∃ W0,(w.alloc (.cells #[.bool false,.slice none 0 0] 33))=W0:=⟨_,rfl⟩;have hx0:Ext w W0:=by rw [<- hW0]; exact (Ext.refl w).alloc _
 have hs0:W0.heap.size=w.heap.size+1:=by rw [<- hW0]; simp
 have hbR:W0.heap[w.heap.size]?=some (.cells #[.bool false,.slice none 0 0] 33 (0,0)):=by rw [<- hW0]; exact heap_alloc_new w _
 have HX0:=Lib.hid hx0;have HBR:=Lib.hid hbR;clear hx0 hbR;refine (callsIn_wide (n:=5)).1 ?_;refine callsIn_of_wp_marks Tryz.func86 rfl trivial ?_ rfl;simp only [Tryz.ntmps86,List.size_toArray,List.length_cons,List.length_nil,Nat.reduceAdd,Nat.reduceSub,Array.replicate_succ,Array.replicate_zero,List.push_toArray,List.append_toArray,List.nil_append,List.cons_append]
 gi_wp2_with fail
 clear hW0;refine ⟨trivial,?_⟩;refine (callsIn_wide.2 (of_int 0 W0 (by omega) (by omega))).mono ?_;rintro e w1 ⟨v1,rfl,i1,x1⟩;obtain ⟨d0,B1,n1,c1,rfl⟩:=i1.unpack;have hs1:=x1.size;obtain ⟨W1,hW1⟩:∃ W1,(w1.alloc (.cells #[.bool d0,.slice B1 n1 c1] 33))=W1:=⟨_,rfl⟩;have hx1:Ext w1 W1:=by rw [<- hW1]; exact (Ext.refl w1).alloc _
 have hs1':W1.heap.size=w1.heap.size+1:=by rw [<- hW1]; simp
 have hbT:W1.heap[w1.heap.size]?=some (.cells #[.bool d0,.slice B1 n1 c1] 33 (0,0)):=by rw [<- hW1]; exact heap_alloc_new w1 _
 have HX1:=Lib.hid ((HX0.out.trans x1).trans hx1);have HBT:=Lib.hid hbT;have I1:=Lib.hid (i1.ext hx1);have HBR1:=Lib.hid (((x1.trans hx1).below.block _ (by omega)).trans HBR.out);obtain ⟨T,hT⟩:∃ T,w1.heap.size=T:=⟨_,rfl⟩;rw [hT] at HBT hs1';have hT0:w.heap.size < T:=by omega
 have hT1:T < W1.heap.size:=by omega
 clear hbT i1 x1 hx1 HBR HX0
 gi_wp2_with fail
 clear hW1 hT;refine ⟨trivial,?_⟩;refine (callsIn_wide.2 (HTQ.out W1 HX1.out)).mono ?_;rintro e w2 ⟨B2,v2,rfl,hc2,hB1,hB2,⟨A2,k2,rfl,hk1,hk2,hat⟩,x2⟩;have X2:=Lib.hid (HX1.out.trans x2);have BT2:=Lib.hid ((x2.below.block _ (by omega)).trans HBT.out);have BR2:=Lib.hid ((x2.below.block _ (by have:=HX1.out.size; omega)).trans HBR1.out);have I2:=Lib.hid (I1.out.ext x2);have hs2:=x2.size;have hBT:B2 ≠ T:=by omega
 have hTw:w.heap.size < T:=by omega
 have hapt:∀ ad,A2=some ad->0 < l.length->ad.block ≠ T:=fun ad e hl he=>by
  obtain ⟨ad',b,B,n,c,e2,hlt2,⟨h0,h1,h2,-⟩,-⟩:=hat 0 hl;rw [e] at e2;injection e2 with e2
  subst e2;rw [Nat.zero_mul] at h2;have hc:=World.cell?_of_block (w:=w2) (w':=w2) (a:=⟨(ad.add 0).block,(ad.add 0).off+2,none⟩) rfl;rw [World.cell?] at h2;simp only [ja,he,BT2.out] at h2
  revert h2
  split
  · intro h2; cases h2
  · intro h2;obtain ⟨h5,-⟩:=Array.getElem?_eq_some_iff.1 h2;simp at h5;omega
 have HSEQ:=Lib.hid (fun n=>vby T hk1 hk2 hat hapt (fun x hx=>HDG.out x hx) B2 hB2 hBT hc2 n);clear x2 hc2 hat hapt HTQ HX1 HBT HBR1 I1
 gi_wp2_with fail
 refine qb9 (by omega) (gf := 83) (lb := #[.pointer (some ⟨B2, 0, none⟩)]) rfl (enters_of Tryz.func83 (by kernel_rfl) rfl) (HSEQ.out _) jw.trans (fun W l o o' _ h1 h2 _ => jw.putObj _ W l o o' h1 h2) (Below.refl _ _) (fun _ => rfl)
  (fun k W=>Ext w W/\w2.heap.size<=W.heap.size/\W.heap[w.heap.size]?=some (.cells #[.bool false,.slice none 0 0] 33 (0,0))/\∃ d B n c,W.heap[T]?=some (.cells #[.bool d,.slice B n c] 33 (0,0))/\yl W (.agg #[.bool d,.slice B n c]) ((snc (l.take k):Nat):Int))
  ?ownI ?startI
  (fun k x a' W=>(∃ g b A n c,a'={ tmps:=#[.slice A0 l0 k0,undef,.pointer (some ⟨w.heap.size,0,none⟩),.pointer (some ⟨T,0,none⟩),undef,.pointer (some ⟨g,0,none⟩),.agg #[.bool d0,.slice B1 n1 c1],.slice A0 l0 k0,.func (.func 83) #[] #[.pointer (some ⟨B2,0,none⟩)],.agg #[.int .i64 x.1.a,.int .i64 x.1.b,.int .i64 x.1.c,.int .i64 x.1.d],x.2,undef,undef,undef,undef],defers:=[] }/\w2.heap.size<=g/\x.2=.agg #[.bool b,.slice A n c]/\W.heap[g]?=some (.cells #[.bool b,.slice A n c] 33 (0,0)))/\(∃ h:k < l.length,yl W x.2 l[k].1)/\Ext w W/\w2.heap.size<=W.heap.size/\W.heap[w.heap.size]?=some (.cells #[.bool false,.slice none 0 0] 33 (0,0))/\∃ d B n c,W.heap[T]?=some (.cells #[.bool d,.slice B n c] 33 (0,0))/\yl W (.agg #[.bool d,.slice B n c]) ((snc (l.take k):Nat):Int))
  ?ownA ?assign ?body ?done
 case ownI =>
  rintro k W W' row ⟨h1,h2,h3,d,B,n,c,h4,h5⟩ hg hr;have hr2:=fun r e=>(hr r e).2
  exact ⟨Below.grown h1.below hg h1.size (fun r e=>by have:=(hr r e).1; have:=h1.size; have:=X2.out.size; omega),Nat.le_trans h2 hg.size,cells_kept hg hr2 h3,d,B,n,c,cells_kept hg hr2 h4,h5.kept hg hr2⟩
 case startI=>exact ⟨X2.out,Nat.le_refl _,BR2.out,d0,B1,n1,c1,BT2.out,I2.out⟩
 case ownA =>
  rintro k x a' s W W' row ⟨⟨g,b,A,n,c,ha,hg1,hg2,hg3⟩,⟨hk,hz⟩,h1,h2,h3,d,B,n',c',h4,h5⟩ hg hr;have hr2:=fun r e=>(hr r e).2
  exact ⟨⟨g,b,A,n,c,ha,hg1,hg2,cells_kept hg hr2 hg3⟩,⟨hk,hz.kept hg hr2⟩,Below.grown h1.below hg h1.size (fun r e=>by have:=(hr r e).1; have:=h1.size; have:=X2.out.size; omega),Nat.le_trans h2 hg.size,cells_kept hg hr2 h3,d,B,n',c',cells_kept hg hr2 h4,h5.kept hg hr2⟩
 case assign =>
  rintro lp k ⟨mk,xv⟩ W K hk ⟨h1,h2,h3,d,B,n,c,h4,h5⟩ ⟨hk',hm,hz⟩ hK;dsimp only at hm hz;obtain ⟨b,A,n',c',rfl⟩:=hz.unpack;have hx1:Ext W (W.alloc (.cells #[.bool b,.slice A n' c'] 33)):=(Ext.refl W).alloc _;have hTW:T < W.heap.size:=by omega
  have HK:=hK { tmps:=#[.slice A0 l0 k0,undef,.pointer (some ⟨w.heap.size,0,none⟩),.pointer (some ⟨T,0,none⟩),undef,.pointer (some ⟨W.heap.size,0,none⟩),.agg #[.bool d0,.slice B1 n1 c1],.slice A0 l0 k0,.func (.func 83) #[] #[.pointer (some ⟨B2,0,none⟩)],.agg #[.int .i64 mk.a,.int .i64 mk.b,.int .i64 mk.c,.int .i64 mk.d],.agg #[.bool b,.slice A n' c'],undef,undef,undef,undef],defers:=[] } _ (xaw hx1) (jw.of_ext _ hx1) ⟨⟨W.heap.size,b,A,n',c',rfl,h2,rfl,heap_alloc_new W _⟩,⟨hk',hz.ext hx1⟩,h1.trans hx1,Nat.le_trans h2 hx1.size,(hx1.below.block _ (by omega)).trans h3,d,B,n,c,(hx1.below.block _ hTW).trans h4,h5.ext hx1⟩;have HKK:=Lib.hid HK;clear HK hK h1 h2 h3 h4 h5 hx1 hz hm;simp only [vbw,moV]
  gi_wp2
  exact HKK.out
 case body =>
  rintro lp k ⟨mk,xv⟩ a' W hk ⟨⟨g,b,A,n,c,rfl,hg1,hxv,hg2⟩,⟨hk',hz⟩,h1,h2,h3,d,B,n',c',h4,h5⟩;dsimp only at hxv;subst hxv;dsimp only at hz;have hdl:(dg (((snc (l.take k):Nat):Int)).natAbs).length<=1099511627776:=ybg (fun x hx=>HDG.out x (List.mem_of_mem_take hx));have HG:=Lib.hid (ycj _ _ _ _ _ _ W h5.raw hz.raw (by omega) (by have:=HDG.out _ (List.getElem_mem hk'); omega));rw [Int.natAbs_natCast,<- qb7 hk'] at HG;obtain ⟨m0,m1⟩:=gbl hg2;obtain ⟨t0,t1⟩:=gbl h4;have H1:=Lib.hid h1;have H3:=Lib.hid h3;have H4:=Lib.hid h4;have hTW:T < W.heap.size:=by omega
  have tf:∀ i,W.frozen? ⟨T,i,none⟩=false:=fun i=>by simp [World.frozen?,h4]
  clear h1 h3 h4 h5 hz hg2 hdl
  gi_wp2_with fail
  clear m0 m1 t0 t1;refine ⟨trivial,?_⟩;refine (callsIn_wide.2 HG.out).mono ?_;rintro e w3 ⟨v3,rfl,i3,x3⟩;obtain ⟨d3,B3,n3,c3,rfl⟩:=i3.unpack;have h43:=(x3.below.block _ hTW).trans H4.out;obtain ⟨t0,t1⟩:=gbl h43;have tf3:∀ i,w3.frozen? ⟨T,i,none⟩=false:=fun i=>by simp [World.frozen?,h43]
  have hs3:=x3.size;have HFIN:Hid (∀ V,((w3.setCell ⟨T,0,none⟩ (.bool d3)).setCell ⟨T,1,none⟩ (.slice B3 n3 c3))=V->KeepsFrom w2.heap.size W V/\jw T W V/\Ext w V/\w2.heap.size<=V.heap.size/\V.heap[w.heap.size]?=some (.cells #[.bool false,.slice none 0 0] 33 (0,0))/\∃ d B n c,V.heap[T]?=some (.cells #[.bool d,.slice B n c] 33 (0,0))/\yl V (.agg #[.bool d,.slice B n c]) ((snc (l.take (k+1)):Nat):Int)):=Lib.hid (by
   rintro V rfl;have k1:(w3.setCell ⟨T,0,none⟩ (.bool d3)).cell? ⟨T,1,none⟩=some (.slice B n' c'):=by rw [World.cell?_setCell_other _ _ _ _ (by simp),t1]
   have hsz:((w3.setCell ⟨T,0,none⟩ (.bool d3)).setCell ⟨T,1,none⟩ (.slice B3 n3 c3)).heap.size=w3.heap.size:=by simp [World.setCell]
   have hoth:∀ i,i ≠ T->((w3.setCell ⟨T,0,none⟩ (.bool d3)).setCell ⟨T,1,none⟩ (.slice B3 n3 c3)).heap[i]?=w3.heap[i]?:=fun i hi=>by rw [Below.heap_setCell _ _ _ i hi,Below.heap_setCell _ _ _ i hi]
   refine ⟨⟨by omega,fun i o hi ho _=>?_⟩,(jw.of_ext T x3).trans (jw.setTwo T w3 _ _ t0 t1 rfl rfl),((H1.out.trans x3).setCell (by show w.heap.size<=T; omega) _).setCell (by show w.heap.size<=T; omega) _,by omega,?_,d3,B3,n3,c3,jcf h43,(i3.box t0 rfl _).box k1 rfl _⟩
   · rw [hoth i (by omega)]; exact (x3.below.block i (Array.getElem?_eq_some_iff.1 ho).1).trans ho
   · rw [hoth _ (by omega)]; exact (x3.below.block _ (by omega)).trans H3.out)
  clear i3 x3 h43 HG
  gi_wp2_with fail
  simp only [xa6];exact HFIN.out _ rfl
 case done =>
  rintro D W hD ⟨h1,h2,h3,d,B,n,c,h4,h5⟩ hK;rw [List.take_length] at h5;obtain ⟨t0,t1⟩:=gbl h4;obtain ⟨r0,r1⟩:=gbl h3;have rf:∀ i,W.frozen? ⟨w.heap.size,i,none⟩=false:=fun i=>by simp [World.frozen?,h3]
  have hwW:w.heap.size < W.heap.size:=(Array.getElem?_eq_some_iff.1 h3).1;have HFI:=Lib.hid (zt (g:=w.heap.size) h1 (Nat.le_refl _) r0 r1 rfl rfl h5);have HKD:=Lib.hid hK;have hw2:=X2.out.size;clear h1 h2 h3 h4 h5 hK
  gi_wp2_with fail
  obtain ⟨V,hV⟩:∃ V,((W.setCell ⟨w.heap.size,0,none⟩ (.bool d)).setCell ⟨w.heap.size,1,none⟩ (.slice B n c))=V:=⟨_,rfl⟩;have hDV:V.heap[D]?=some (.deferred (some [])):=by
   rw [<- hV,Below.heap_setCell _ _ _ D (by show D ≠ w.heap.size; omega),Below.heap_setCell _ _ _ D (by show D ≠ w.heap.size; omega)]; exact HKD.out
  have c0:V.cell? ⟨w.heap.size,0,none⟩=some (.bool d):=by
   rw [<- hV,World.cell?_setCell_other _ _ _ _ (by simp)]; exact World.cell?_setCell_same _ _ _ r0
  have c1:V.cell? ⟨w.heap.size,1,none⟩=some (.slice B n c):=by
   rw [<- hV]; exact World.cell?_setCell_same _ _ _ (u:=.slice none 0 0) (by rw [World.cell?_setCell_other _ _ _ _ (by simp)]; exact r1)
  have hf:=HFI.out;rw [hV] at hf ⊢;obtain ⟨xv,ex,ix,xx⟩:=hf;injection ex with ex
  subst ex;refine ⟨by simp,.inl ⟨_,_,rfl,run_takeDeferred hDV,?_⟩⟩;have hgr:=grownBy_putObj' V D (.deferred none);have hne:w.heap.size ≠ D:=by omega
  have cc:∀ j,(V.putObj D (.deferred none)).cell? ⟨w.heap.size,j,none⟩=V.cell? ⟨w.heap.size,j,none⟩:=fun j=>World.cell?_of_block (World.putObj_heap_other hne)
  refine ⟨.agg #[.bool d,.slice B n c],by simp [results,Tryz.results86,go_sem,cc,c0,c1],_,rfl,ix.kept hgr (fun r e=>⟨_,by injection e with e; subst e; exact hDV,rfl⟩),Below.grown xx.below hgr xx.size (fun k e=>by injection e with e; omega)⟩
end Go.Proofs.YtklnlgnnlmdibaaGreat

/- Layer 5 (rational): numerator and denominator. -/
namespace Go.Proofs.YtklnlgnnlmdibaaGreat
open Go.RowKit
end Go.Proofs.YtklnlgnnlmdibaaGreat

/- Layer 5 (rational): lowest terms. -/
namespace Go.Proofs.YtklnlgnnlmdibaaGreat
open Go.RowKit
end Go.Proofs.YtklnlgnnlmdibaaGreat

/- Layers 4 and 5: division.Exact, rational.Integer. -/
set_option maxRecDepth 100000
set_option maxHeartbeats 8000000
namespace Go.Proofs.YtklnlgnnlmdibaaGreat
open Go.RowKit
def jbm (q r:Int) (w:World) (e:Ending) (w':World):Prop:=
 ∃ x,e=.returned (.tuple #[x,.int .i64 (if r=0 then 0 else 3)])/\yl w' x (if r=0 then q else 0)/\Ext w w'
theorem ga1 {w W:World} {g:Nat} {q r:Int} {b s u0 u1:Value} (hx:Ext w W) (hg:w.heap.size<=g) (h0:W.cell? ⟨g,0,none⟩=some u0) (h1:W.cell? ⟨g,1,none⟩=some u1) (d0:um u0=false) (d1:um u1=false) (n:Int) (hN:yl W (.agg #[b,s]) (if r=0 then q else 0)) (hn:n=if r=0 then 0 else 3) :
 jbm q r w (.returned (.tuple #[.agg #[b,s],.int .i64 n])) ((W.setCell ⟨g,0,none⟩ b).setCell ⟨g,1,none⟩ s):=by
 have k1:(W.setCell ⟨g,0,none⟩ b).cell? ⟨g,1,none⟩=some u1:=by rw [World.cell?_setCell_other _ _ _ _ (by simp),h1]
 subst hn;exact ⟨_,rfl,(hN.box h0 d0 _).box k1 d1 _,(hx.setCell (by simpa using hg) _).setCell (by simpa using hg) _⟩
theorem qb4 (x y:Value) (a b:Int) (L M:Nat) (w:World) (h:jk w x a L) (k:jk w y b M) (hs:L<=17592186044416) (hs':M<=17592186044416) (hb0:b ≠ 0) :
 Calls Tryz.prog 89 #[x,y] w (jbm (a.tdiv b) (a.tmod b) w):=by
 have H:=Lib.hid h;have K:=Lib.hid k;obtain ⟨neg,v,ds,rfl,⟨A,c,rfl,-,-,-⟩,-,-⟩:=h;obtain ⟨neg',v',ds',rfl,⟨A',c',rfl,-,-,-⟩,-,-⟩:=k;go_enter Tryz.func89,Tryz.ntmps89;go_wp2_with fail;generalize hW:((w.alloc (Obj.cells #[.bool neg,.slice A ds.length c] 33)).alloc (Obj.cells #[.bool neg',.slice A' ds'.length c'] 33)).alloc (Obj.cells #[.bool false,.slice none 0 0] 33)=W;have HX0:Hid (Ext w W):=by
  have:Ext w W:=by rw [<- hW]; exact (((Ext.refl w).alloc _).alloc _).alloc _
  exact this
 have HWS:Hid (W.heap.size=w.heap.size+1+1+1):=by
  have:W.heap.size=w.heap.size+1+1+1:=by rw [<- hW]; simp
  exact this
 have HR:Hid (∀ W',Ext W W'->(W'.cell? ⟨w.heap.size+1+1,0,none⟩=some (.bool false)/\W'.cell? ⟨w.heap.size+1+1,1,none⟩=some (.slice none 0 0)/\W'.frozen? ⟨w.heap.size+1+1,0,none⟩=false/\W'.frozen? ⟨w.heap.size+1+1,1,none⟩=false)):=by
  intro W' hx;obtain ⟨hc,hf⟩:=hx.cells;have hsz:=HWS.out;refine ⟨?_,?_,?_,?_⟩ <;> first | (rw [hc _ _ (by omega),<- hW]; simp [go_sem]; done) | (rw [hf _ _ (by omega),<- hW]; simp [go_sem]; done)
 clear hW;refine (qch _ _ a b L M _ (H.out.ext HX0.out) (K.out.ext HX0.out) hs hs' hb0).mono ?_;rintro e w1 ⟨xq,xr,rfl,iq,ir,y1⟩;have Y1:=Lib.hid y1;have IQ:=Lib.hid iq;have IR:=Lib.hid ir;obtain ⟨vq,rfl,Aq,cq,rfl,-⟩:=iq;obtain ⟨vr,rfl,Ar,cr,rfl,-⟩:=ir;clear y1 H K;generalize a.tdiv b=q at *;generalize a.tmod b=r at *;go_wp2_with fail;have x2:Ext w1 ((w1.alloc (Obj.cells #[.bool (decide (q < 0)),.slice Aq (dg q.natAbs).length cq] 33)).alloc (Obj.cells #[.bool (decide (r < 0)),.slice Ar (dg r.natAbs).length cr] 33)):=((Ext.refl w1).alloc _).alloc _;have q0:∀ i,((w1.alloc (Obj.cells #[.bool (decide (q < 0)),.slice Aq (dg q.natAbs).length cq] 33)).alloc (Obj.cells #[.bool (decide (r < 0)),.slice Ar (dg r.natAbs).length cr] 33)).cell? ⟨w1.heap.size,i,none⟩=(#[Value.bool (decide (q < 0)),.slice Aq (dg q.natAbs).length cq])[i]?:=by intro i; simp [go_sem]
 have hsz2:w1.heap.size < ((w1.alloc (Obj.cells #[.bool (decide (q < 0)),.slice Aq (dg q.natAbs).length cq] 33)).alloc (Obj.cells #[.bool (decide (r < 0)),.slice Ar (dg r.natAbs).length cr] 33)).heap.size:=by simp; omega
 generalize (w1.alloc (Obj.cells #[.bool (decide (q < 0)),.slice Aq (dg q.natAbs).length cq] 33)).alloc (Obj.cells #[.bool (decide (r < 0)),.slice Ar (dg r.natAbs).length cr] 33)=w2 at *;refine (va6 _ r _ w2 ((IR.out.ext x2).raw)).mono ?_;rintro e w3 ⟨rfl,x3⟩;have c0:w3.cell? ⟨w1.heap.size,0,none⟩=some (.bool (decide (q < 0))):=(x3.cell (p:=⟨w1.heap.size,0,none⟩) hsz2).trans (q0 0);have c1:w3.cell? ⟨w1.heap.size,1,none⟩=some (.slice Aq (dg q.natAbs).length cq):=(x3.cell (p:=⟨w1.heap.size,1,none⟩) hsz2).trans (q0 1);obtain ⟨r0,r1,f0,f1⟩:=HR.out w3 (Y1.out.trans (x2.trans x3));have hx3:=HX0.out.trans (Y1.out.trans (x2.trans x3))
 by_cases hr:r=0
 · have HF:=Lib.hid (ga1 (q:=q) (r:=r) (g:=w.heap.size+1+1) hx3 (by omega) r0 r1 rfl rfl 0 (by rw [if_pos hr]; exact IQ.out.ext (x2.trans x3)) (by rw [if_pos hr]));have hrb:(r == 0)=true:=by simpa using hr
   rw [hrb];clear x2 x3 hx3 hr hrb q0 IR IQ;go_wp2_with fail;exact bodyPost_ret (v:=.tuple #[.agg #[.bool (decide (q < 0)),.slice Aq (dg q.natAbs).length cq],.int .i64 0]) (by simp [results,Tryz.results89,go_sem,r0,r1]) rfl HF.out
 · have HF:=Lib.hid (ga1 (q:=q) (r:=r) (g:=w.heap.size+1+1) (b:=.bool false) (s:=.slice none 0 0) hx3 (by omega) r0 r1 rfl rfl 3 (by rw [if_neg hr]; exact ⟨_,rfl,by show jc _ _ (dg 0); rw [uk]; exact jc.nil _⟩) (by rw [if_neg hr]));have hrb:(r == 0)=false:=by simpa using hr
   rw [hrb];clear x2 x3 hx3 hr hrb q0 IR IQ;go_wp2_with fail;exact bodyPost_ret (v:=.tuple #[.agg #[.bool false,.slice none 0 0],.int .i64 3]) (by simp [results,Tryz.results89,go_sem,r0,r1]) rfl HF.out
end Go.Proofs.YtklnlgnnlmdibaaGreat
