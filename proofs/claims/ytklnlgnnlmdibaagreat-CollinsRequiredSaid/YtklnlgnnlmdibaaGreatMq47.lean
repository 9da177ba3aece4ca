/- Layer 20: sparse.Content. -/
import Derived.Test.YtklnlgnnlmdibaaGreatMq41
import Derived.Test.YtklnlgnnlmdibaaGreatMq46
set_option linter.unusedSimpArgs false
set_option linter.unusedVariables false

set_option maxRecDepth 100000
set_option maxHeartbeats 8000000
namespace Go.Proofs.YtklnlgnnlmdibaaGreat
open Lib (hid)
open Go.RowKit Go.Shelf
attribute [local go_sem] Oper.semAt_some
theorem gbn {l:Sp} {L:Nat} (h:∀ x ∈ l,(dg x.1.natAbs).length<=L):(dg ((snc l:Nat):Int).natAbs).length<=L:=by
 rw [Int.natAbs_natCast]
 by_cases hx:∃ x ∈ l,x.1 ≠ 0
 · obtain ⟨x,hx,h0⟩:=hx;exact Nat.le_trans (yu (ub8 hx h0)) (h x hx)
 · have:snc l<=0:=wcw l 0 fun x iY=>by
    have:¬ x.1 ≠ 0:=fun h=>hx ⟨x,iY,h⟩
    omega
   rw [show snc l=0 by omega];simp [dg]
theorem zo.kept {W W':World} {row:Option Nat} (hg:W.grownBy W' row) (hr:∀ r,row=some r->∃ o:Obj,W.heap[r]?=some o/\o.isCells=false) {x:Value} {z:Int} (h:zo W x z):zo W' x z:=by
 obtain ⟨v,e,hv⟩:=h;exact ⟨v,e,kaq hg hr hv⟩
theorem yz.setTwo (T:Nat) (W:World) {u0 u1:Value} (v0 v1:Value) (h0:W.cell? ⟨T,0,none⟩=some u0) (h1:W.cell? ⟨T,1,none⟩=some u1) (d0:jq u0=false) (d1:jq u1=false):yz T W ((W.setCell ⟨T,0,none⟩ v0).setCell ⟨T,1,none⟩ v1):=by
 have k1:(W.setCell ⟨T,0,none⟩ v0).cell? ⟨T,1,none⟩=some u1:=by rw [World.cell?_setCell_other _ _ _ _ (by simp),h1]
 exact ⟨by simp [World.setCell],fun i o hi ho _=>by rw [Below.heap_setCell _ _ _ i hi,Below.heap_setCell _ _ _ i hi]; exact ho,fun _ _ hx=>(hx.box h0 d0 v0).box k1 d1 v1⟩
theorem gcq {W:World} {T:Nat} {u0 u1 v0 v1:Value} {t:TypeId} (h:W.heap[T]?=some (.cells #[u0,u1] t (0,0))):((W.setCell ⟨T,0,none⟩ v0).setCell ⟨T,1,none⟩ v1).heap[T]?=some (.cells #[v0,v1] t (0,0)):=by
 simp only [World.setCell,Array.getElem?_modify,h,if_true,Option.map_some]
 rfl
theorem ybx {w:World} {v:Value} {l:Sp} (h:SpV w none v l) (hc:ji l=l) (jX:∀ x ∈ l,(dg x.1.natAbs).length<=1099511627776) (hL:(dg (qg l)).length<=1099511627776) (hlen:l.length<=1099511627776):Calls Tryz.prog 86 #[v] w (wag ((snc l:Nat):Int) w):=by
 have mO:=hid jX;have Zg:=hid (fun (W':World) (hx:Ext w W')=>gb7 (h.ext hx) jX hL hlen);rw [hc] at Zg;obtain ⟨A0,k0,rfl,-⟩:=h;obtain ⟨l0,lX⟩:=n_m (l.length);rw [lX] at Zg;rw [lX];clear hc jX hL;have og:∀ k:Nat,(Fence.wide.depth.isSome=true->1<=k):=fun k h=>by cases h
 obtain ⟨W0,Yr⟩:=n_m ((w.alloc (.cells #[.bool false,.slice none 0 0] 33)));have aC:Ext w W0:=by rw [<- Yr]; exact (Ext.refl w).alloc _
 have fD:W0.heap.size=w.heap.size+1:=by rw [<- Yr]; simp
 have UL:W0.heap[w.heap.size]?=some (.cells #[.bool false,.slice none 0 0] 33 (0,0)):=by rw [<- Yr]; exact heap_alloc_new w _
 have ax:=hid aC;have HBR:=hid UL;clear aC UL;refine (callsIn_wide (n:=5)).1 ?_;refine callsIn_of_wp_marks Tryz.func86 rfl trivial ?_ rfl;simp only [Tryz.ntmps86,List.size_toArray,List.length_cons,List.length_nil,Nat.reduceAdd,Nat.reduceSub,Array.replicate_succ,Array.replicate_zero,List.push_toArray,List.append_toArray,List.nil_append,List.cons_append]
 gi_wp2_with fail
 clear Yr;refine ⟨trivial,?_⟩;refine (callsIn_wide.2 (of_int 0 W0 (by omega) (by omega))).mono ?_;rintro e w1 ⟨v1,rfl,i1,x1⟩;obtain ⟨d0,B1,n1,c1,rfl⟩:=i1.unpack;have bU:=x1.size;obtain ⟨W1,aT⟩:=n_m ((w1.alloc (.cells #[.bool d0,.slice B1 n1 c1] 33)));have hx1:Ext w1 W1:=by rw [<- aT]; exact (Ext.refl w1).alloc _
 have su:W1.heap.size=w1.heap.size+1:=by rw [<- aT]; simp
 have O6:W1.heap[w1.heap.size]?=some (.cells #[.bool d0,.slice B1 n1 c1] 33 (0,0)):=by rw [<- aT]; exact heap_alloc_new w1 _
 have qY:=hid ((ax.out.trans x1).trans hx1);have Qm:=hid O6;have I1:=hid (i1.ext hx1);have Xd:=hid (((x1.trans hx1).below.block _ (by omega)).trans HBR.out);obtain ⟨T,hT⟩:=n_m (w1.heap.size);rw [hT] at Qm su;have hT0:w.heap.size < T:=by omega
 have hT1:T < W1.heap.size:=by omega
 clear O6 i1 x1 hx1 HBR ax
 gi_wp2_with fail
 clear aT hT;refine ⟨trivial,?_⟩;refine (callsIn_wide.2 (Zg.out W1 qY.out)).mono ?_;rintro e w2 ⟨B2,v2,rfl,eX,rJ,BB,⟨A2,k2,rfl,Eu,hk2,aO⟩,x2⟩;have X2:=hid (qY.out.trans x2);have BT2:=hid ((x2.below.block _ (by omega)).trans Qm.out);have BR2:=hid ((x2.below.block _ (by have:=qY.out.size; omega)).trans Xd.out);have I2:=hid (I1.out.ext x2);have jF:=x2.size;have hBT:B2 ≠ T:=by omega
 have hTw:w.heap.size < T:=by omega
 have UR:∀ ad,A2=some ad->0 < l.length->ad.block ≠ T:=fun ad e hl he=>by
  obtain ⟨ad',b,B,n,c,e2,lI,⟨h0,h1,h2,-⟩,-⟩:=aO 0 hl;rw [e] at e2;injection e2 with e2
  subst e2;rw [Nat.zero_mul] at h2;have hc:=World.cell?_of_block (w:=w2) (w':=w2) (a:=⟨(ad.add 0).block,(ad.add 0).off+2,none⟩) rfl;rw [World.cell?] at h2;simp only [ja,he,BT2.out] at h2
  revert h2
  split
  · intro h2; cases h2
  · intro h2;obtain ⟨h5,-⟩:=Array.getElem?_eq_some_iff.1 h2;simp at h5;omega
 have DT:=hid (fun n=>ub7 T Eu hk2 aO UR (fun x hx=>mO.out x hx) B2 BB hBT eX n);clear x2 eX aO UR Zg qY Qm Xd I1
 gi_wp2_with fail
 refine xck (by omega) (gf := 83) (lb := #[.pointer (some ⟨B2, 0, none⟩)]) rfl (enters_of Tryz.func83 (by kernel_rfl) rfl) (DT.out _) yz.trans (fun W l o o' _ h1 h2 _ => yz.putObj _ W l o o' h1 h2) (Below.refl _ _) (fun _ => rfl)
  (fun k W=>Ext w W/\w2.heap.size<=W.heap.size/\W.heap[w.heap.size]?=some (.cells #[.bool false,.slice none 0 0] 33 (0,0))/\∃ d B n c,W.heap[T]?=some (.cells #[.bool d,.slice B n c] 33 (0,0))/\zo W (.agg #[.bool d,.slice B n c]) ((snc (l.take k):Nat):Int))
  ?ownI ?startI
  (fun k x a' W=>(∃ g b A n c,a'={ tmps:=#[.slice A0 l0 k0,undef,.pointer (some ⟨w.heap.size,0,none⟩),.pointer (some ⟨T,0,none⟩),undef,.pointer (some ⟨g,0,none⟩),.agg #[.bool d0,.slice B1 n1 c1],.slice A0 l0 k0,.func (.func 83) #[] #[.pointer (some ⟨B2,0,none⟩)],.agg #[.int .i64 x.1.a,.int .i64 x.1.b,.int .i64 x.1.c,.int .i64 x.1.d],x.2,undef,undef,undef,undef],defers:=[] }/\w2.heap.size<=g/\x.2=.agg #[.bool b,.slice A n c]/\W.heap[g]?=some (.cells #[.bool b,.slice A n c] 33 (0,0)))/\(∃ h:k < l.length,zo W x.2 l[k].1)/\Ext w W/\w2.heap.size<=W.heap.size/\W.heap[w.heap.size]?=some (.cells #[.bool false,.slice none 0 0] 33 (0,0))/\∃ d B n c,W.heap[T]?=some (.cells #[.bool d,.slice B n c] 33 (0,0))/\zo W (.agg #[.bool d,.slice B n c]) ((snc (l.take k):Nat):Int))
  ?ownA ?assign ?body ?done
 case ownI =>
  rintro k W W' row ⟨h1,h2,h3,d,B,n,c,h4,h5⟩ hg hr;have gI:=fun r e=>(hr r e).2
  exact ⟨Below.grown h1.below hg h1.size (fun r e=>by have:=(hr r e).1; have:=h1.size; have:=X2.out.size; omega),Nat.le_trans h2 hg.size,cells_kept hg gI h3,d,B,n,c,cells_kept hg gI h4,h5.kept hg gI⟩
 case startI=>exact ⟨X2.out,Nat.le_refl _,BR2.out,d0,B1,n1,c1,BT2.out,I2.out⟩
 case ownA =>
  rintro k x a' s W W' row ⟨⟨g,b,A,n,c,ha,nD,gJ,xM⟩,⟨hk,hz⟩,h1,h2,h3,d,B,n',c',h4,h5⟩ hg hr;have gI:=fun r e=>(hr r e).2
  exact ⟨⟨g,b,A,n,c,ha,nD,gJ,cells_kept hg gI xM⟩,⟨hk,hz.kept hg gI⟩,Below.grown h1.below hg h1.size (fun r e=>by have:=(hr r e).1; have:=h1.size; have:=X2.out.size; omega),Nat.le_trans h2 hg.size,cells_kept hg gI h3,d,B,n',c',cells_kept hg gI h4,h5.kept hg gI⟩
 case assign =>
  rintro lp k ⟨mk,xv⟩ W K hk ⟨h1,h2,h3,d,B,n,c,h4,h5⟩ ⟨pI,hm,hz⟩ hK;dsimp only at hm hz;obtain ⟨b,A,n',c',rfl⟩:=hz.unpack;have hx1:Ext W (W.alloc (.cells #[.bool b,.slice A n' c'] 33)):=(Ext.refl W).alloc _;have hTW:T < W.heap.size:=by omega
  have HK:=hK { tmps:=#[.slice A0 l0 k0,undef,.pointer (some ⟨w.heap.size,0,none⟩),.pointer (some ⟨T,0,none⟩),undef,.pointer (some ⟨W.heap.size,0,none⟩),.agg #[.bool d0,.slice B1 n1 c1],.slice A0 l0 k0,.func (.func 83) #[] #[.pointer (some ⟨B2,0,none⟩)],.agg #[.int .i64 mk.a,.int .i64 mk.b,.int .i64 mk.c,.int .i64 mk.d],.agg #[.bool b,.slice A n' c'],undef,undef,undef,undef],defers:=[] } _ (ua1 hx1) (yz.of_ext _ hx1) ⟨⟨W.heap.size,b,A,n',c',rfl,h2,rfl,heap_alloc_new W _⟩,⟨pI,hz.ext hx1⟩,h1.trans hx1,Nat.le_trans h2 hx1.size,(hx1.below.block _ (by omega)).trans h3,d,B,n,c,(hx1.below.block _ hTW).trans h4,h5.ext hx1⟩;have Zz:=hid HK;clear HK hK h1 h2 h3 h4 h5 hx1 hz hm;simp only [ub5,moV]
  gi_wp2
  exact Zz.out
 case body =>
  rintro lp k ⟨mk,xv⟩ a' W hk ⟨⟨g,b,A,n,c,rfl,nD,rX,gJ⟩,⟨pI,hz⟩,h1,h2,h3,d,B,n',c',h4,h5⟩;dsimp only at rX;subst rX;dsimp only at hz;have nH:(dg (((snc (l.take k):Nat):Int)).natAbs).length<=1099511627776:=gbn (fun x hx=>mO.out x (List.mem_of_mem_take hx));have HG:=hid (vcu _ _ _ _ _ _ W h5.raw hz.raw (by omega) (by have:=mO.out _ (List.getElem_mem pI); omega));rw [Int.natAbs_natCast,<- wch pI] at HG;obtain ⟨m0,m1⟩:=ybt gJ;obtain ⟨t0,t1⟩:=ybt h4;have H1:=hid h1;have H3:=hid h3;have H4:=hid h4;have hTW:T < W.heap.size:=by omega
  have tf:∀ i,W.frozen? ⟨T,i,none⟩=false:=fun i=>by simp [World.frozen?,h4]
  clear h1 h3 h4 h5 hz gJ nH
  gi_wp2_with fail
  clear m0 m1 t0 t1;refine ⟨trivial,?_⟩;refine (callsIn_wide.2 HG.out).mono ?_;rintro e w3 ⟨v3,rfl,i3,x3⟩;obtain ⟨d3,B3,n3,c3,rfl⟩:=i3.unpack;have YN:=(x3.below.block _ hTW).trans H4.out;obtain ⟨t0,t1⟩:=ybt YN;have tf3:∀ i,w3.frozen? ⟨T,i,none⟩=false:=fun i=>by simp [World.frozen?,YN]
  have En:=x3.size;have bV:Hid (∀ V,((w3.setCell ⟨T,0,none⟩ (.bool d3)).setCell ⟨T,1,none⟩ (.slice B3 n3 c3))=V->KeepsFrom w2.heap.size W V/\yz T W V/\Ext w V/\w2.heap.size<=V.heap.size/\V.heap[w.heap.size]?=some (.cells #[.bool false,.slice none 0 0] 33 (0,0))/\∃ d B n c,V.heap[T]?=some (.cells #[.bool d,.slice B n c] 33 (0,0))/\zo V (.agg #[.bool d,.slice B n c]) ((snc (l.take (k+1)):Nat):Int)):=hid (by
   rintro V rfl;have k1:(w3.setCell ⟨T,0,none⟩ (.bool d3)).cell? ⟨T,1,none⟩=some (.slice B n' c'):=by rw [World.cell?_setCell_other _ _ _ _ (by simp),t1]
   have hsz:((w3.setCell ⟨T,0,none⟩ (.bool d3)).setCell ⟨T,1,none⟩ (.slice B3 n3 c3)).heap.size=w3.heap.size:=by simp [World.setCell]
   have RD:∀ i,i ≠ T->((w3.setCell ⟨T,0,none⟩ (.bool d3)).setCell ⟨T,1,none⟩ (.slice B3 n3 c3)).heap[i]?=w3.heap[i]?:=fun i hi=>by rw [Below.heap_setCell _ _ _ i hi,Below.heap_setCell _ _ _ i hi]
   refine ⟨⟨by omega,fun i o hi ho _=>?_⟩,(yz.of_ext T x3).trans (yz.setTwo T w3 _ _ t0 t1 rfl rfl),((H1.out.trans x3).setCell (by show w.heap.size<=T; omega) _).setCell (by show w.heap.size<=T; omega) _,by omega,?_,d3,B3,n3,c3,gcq YN,(i3.box t0 rfl _).box k1 rfl _⟩
   · rw [RD i (by omega)]; exact (x3.below.block i (Array.getElem?_eq_some_iff.1 ho).1).trans ho
   · rw [RD _ (by omega)]; exact (x3.below.block _ (by omega)).trans H3.out)
  clear i3 x3 YN HG
  gi_wp2_with fail
  simp only [kbd];exact bV.out _ rfl
 case done =>
  rintro D W hD ⟨h1,h2,h3,d,B,n,c,h4,h5⟩ hK;rw [List.take_length] at h5;obtain ⟨t0,t1⟩:=ybt h4;obtain ⟨r0,r1⟩:=ybt h3;have rf:∀ i,W.frozen? ⟨w.heap.size,i,none⟩=false:=fun i=>by simp [World.frozen?,h3]
  have Xx:w.heap.size < W.heap.size:=(Array.getElem?_eq_some_iff.1 h3).1;have jP:=hid (jw (g:=w.heap.size) h1 (Nat.le_refl _) r0 r1 rfl rfl h5);have ZA:=hid hK;have AX:=X2.out.size;clear h1 h2 h3 h4 h5 hK
  gi_wp2_with fail
  obtain ⟨V,hV⟩:=n_m (((W.setCell ⟨w.heap.size,0,none⟩ (.bool d)).setCell ⟨w.heap.size,1,none⟩ (.slice B n c)));have hDV:V.heap[D]?=some (.deferred (some [])):=by
   rw [<- hV,Below.heap_setCell _ _ _ D (by show D ≠ w.heap.size; omega),Below.heap_setCell _ _ _ D (by show D ≠ w.heap.size; omega)]; exact ZA.out
  have c0:V.cell? ⟨w.heap.size,0,none⟩=some (.bool d):=by
   rw [<- hV,World.cell?_setCell_other _ _ _ _ (by simp)]; exact World.cell?_setCell_same _ _ _ r0
  have c1:V.cell? ⟨w.heap.size,1,none⟩=some (.slice B n c):=by
   rw [<- hV]; exact World.cell?_setCell_same _ _ _ (u:=.slice none 0 0) (by rw [World.cell?_setCell_other _ _ _ _ (by simp)]; exact r1)
  have hf:=jP.out;rw [hV] at hf ⊢;obtain ⟨xv,ex,ix,xx⟩:=hf;injection ex with ex
  subst ex;refine ⟨by simp,.inl ⟨_,_,rfl,run_takeDeferred hDV,?_⟩⟩;have jL:=grownBy_putObj' V D (.deferred none);have ak:w.heap.size ≠ D:=by omega
  have cc:∀ j,(V.putObj D (.deferred none)).cell? ⟨w.heap.size,j,none⟩=V.cell? ⟨w.heap.size,j,none⟩:=fun j=>World.cell?_of_block (World.putObj_heap_other ak)
  refine ⟨.agg #[.bool d,.slice B n c],by simp [results,Tryz.results86,go_sem,cc,c0,c1],_,rfl,ix.kept jL (fun r e=>⟨_,by injection e with e; subst e; exact hDV,rfl⟩),Below.grown xx.below jL xx.size (fun k e=>by injection e with e; omega)⟩
end Go.Proofs.YtklnlgnnlmdibaaGreat

namespace Go.Proofs.YtklnlgnnlmdibaaGreat
open Lib (hid)
open Go.RowKit
def ubt (q r:Int) (w:World) (e:Ending) (w':World):Prop:=
 ∃ x,e=.returned (.tuple #[x,.int .i64 (if r=0 then 0 else 3)])/\zo w' x (if r=0 then q else 0)/\Ext w w'
theorem ga8 {w W:World} {g:Nat} {q r:Int} {b s u0 u1:Value} (hx:Ext w W) (hg:w.heap.size<=g) (h0:W.cell? ⟨g,0,none⟩=some u0) (h1:W.cell? ⟨g,1,none⟩=some u1) (d0:jq u0=false) (d1:jq u1=false) (n:Int) (hN:zo W (.agg #[b,s]) (if r=0 then q else 0)) (hn:n=if r=0 then 0 else 3) :
 ubt q r w (.returned (.tuple #[.agg #[b,s],.int .i64 n])) ((W.setCell ⟨g,0,none⟩ b).setCell ⟨g,1,none⟩ s):=by
 have k1:(W.setCell ⟨g,0,none⟩ b).cell? ⟨g,1,none⟩=some u1:=by rw [World.cell?_setCell_other _ _ _ _ (by simp),h1]
 subst hn;exact ⟨_,rfl,(hN.box h0 d0 _).box k1 d1 _,(hx.setCell (by simpa using hg) _).setCell (by simpa using hg) _⟩
theorem zbk (x y:Value) (a b:Int) (L M:Nat) (w:World) (h:um w x a L) (k:um w y b M) (hs:L<=17592186044416) (Ce:M<=17592186044416) (aV:b ≠ 0) :
 Calls Tryz.prog 89 #[x,y] w (ubt (a.tdiv b) (a.tmod b) w):=by
 have H:=hid h;have K:=hid k;obtain ⟨neg,v,ds,rfl,⟨A,c,rfl,-,-,-⟩,-,-⟩:=h;obtain ⟨aI,v',ds',rfl,⟨A',c',rfl,-,-,-⟩,-,-⟩:=k;go_enter Tryz.func89,Tryz.ntmps89;go_wp2_with fail;generalize hW:((w.alloc (Obj.cells #[.bool neg,.slice A ds.length c] 33)).alloc (Obj.cells #[.bool aI,.slice A' ds'.length c'] 33)).alloc (Obj.cells #[.bool false,.slice none 0 0] 33)=W;have ax:Hid (Ext w W):=by
  have:Ext w W:=by rw [<- hW]; exact (((Ext.refl w).alloc _).alloc _).alloc _
  exact this
 have qG:Hid (W.heap.size=w.heap.size+1+1+1):=by
  have:W.heap.size=w.heap.size+1+1+1:=by rw [<- hW]; simp
  exact this
 have HR:Hid (∀ W',Ext W W'->(W'.cell? ⟨w.heap.size+1+1,0,none⟩=some (.bool false)/\W'.cell? ⟨w.heap.size+1+1,1,none⟩=some (.slice none 0 0)/\W'.frozen? ⟨w.heap.size+1+1,0,none⟩=false/\W'.frozen? ⟨w.heap.size+1+1,1,none⟩=false)):=by
  intro W' hx;obtain ⟨hc,hf⟩:=hx.cells;have hsz:=qG.out;refine ⟨?_,?_,?_,?_⟩ <;> first | (rw [hc _ _ (by omega),<- hW]; simp [go_sem]; done) | (rw [hf _ _ (by omega),<- hW]; simp [go_sem]; done)
 clear hW;refine (gcs _ _ a b L M _ (H.out.ext ax.out) (K.out.ext ax.out) hs Ce aV).mono ?_;rintro e w1 ⟨xq,xr,rfl,iq,ir,y1⟩;have Y1:=hid y1;have IQ:=hid iq;have IR:=hid ir;obtain ⟨vq,rfl,Aq,cq,rfl,-⟩:=iq;obtain ⟨vr,rfl,Ar,cr,rfl,-⟩:=ir;clear y1 H K;generalize a.tdiv b=q at *;generalize a.tmod b=r at *;go_wp2_with fail;have x2:Ext w1 ((w1.alloc (Obj.cells #[.bool (decide (q < 0)),.slice Aq (dg q.natAbs).length cq] 33)).alloc (Obj.cells #[.bool (decide (r < 0)),.slice Ar (dg r.natAbs).length cr] 33)):=((Ext.refl w1).alloc _).alloc _;have q0:∀ i,((w1.alloc (Obj.cells #[.bool (decide (q < 0)),.slice Aq (dg q.natAbs).length cq] 33)).alloc (Obj.cells #[.bool (decide (r < 0)),.slice Ar (dg r.natAbs).length cr] 33)).cell? ⟨w1.heap.size,i,none⟩=(#[Value.bool (decide (q < 0)),.slice Aq (dg q.natAbs).length cq])[i]?:=by intro i; simp [go_sem]
 have pq:w1.heap.size < ((w1.alloc (Obj.cells #[.bool (decide (q < 0)),.slice Aq (dg q.natAbs).length cq] 33)).alloc (Obj.cells #[.bool (decide (r < 0)),.slice Ar (dg r.natAbs).length cr] 33)).heap.size:=by simp; omega
 generalize (w1.alloc (Obj.cells #[.bool (decide (q < 0)),.slice Aq (dg q.natAbs).length cq] 33)).alloc (Obj.cells #[.bool (decide (r < 0)),.slice Ar (dg r.natAbs).length cr] 33)=w2 at *;refine (wbd _ r _ w2 ((IR.out.ext x2).raw)).mono ?_;rintro e w3 ⟨rfl,x3⟩;have c0:w3.cell? ⟨w1.heap.size,0,none⟩=some (.bool (decide (q < 0))):=(x3.cell (p:=⟨w1.heap.size,0,none⟩) pq).trans (q0 0);have c1:w3.cell? ⟨w1.heap.size,1,none⟩=some (.slice Aq (dg q.natAbs).length cq):=(x3.cell (p:=⟨w1.heap.size,1,none⟩) pq).trans (q0 1);obtain ⟨r0,r1,f0,f1⟩:=HR.out w3 (Y1.out.trans (x2.trans x3));have wV:=ax.out.trans (Y1.out.trans (x2.trans x3))
 by_cases hr:r=0
 · have HF:=hid (ga8 (q:=q) (r:=r) (g:=w.heap.size+1+1) wV (by omega) r0 r1 rfl rfl 0 (by rw [if_pos hr]; exact IQ.out.ext (x2.trans x3)) (by rw [if_pos hr]));have Ib:(r == 0)=true:=by simpa using hr
   rw [Ib];clear x2 x3 wV hr Ib q0 IR IQ;go_wp2_with fail;exact bodyPost_ret (v:=.tuple #[.agg #[.bool (decide (q < 0)),.slice Aq (dg q.natAbs).length cq],.int .i64 0]) (by simp [results,Tryz.results89,go_sem,r0,r1]) rfl HF.out
 · have HF:=hid (ga8 (q:=q) (r:=r) (g:=w.heap.size+1+1) (b:=.bool false) (s:=.slice none 0 0) wV (by omega) r0 r1 rfl rfl 3 (by rw [if_neg hr]; exact ⟨_,rfl,by show jd _ _ (dg 0); rw [jm]; exact jd.nil _⟩) (by rw [if_neg hr]));have Ib:(r == 0)=false:=by simpa using hr
   rw [Ib];clear x2 x3 wV hr Ib q0 IR IQ;go_wp2_with fail;exact bodyPost_ret (v:=.tuple #[.agg #[.bool false,.slice none 0 0],.int .i64 3]) (by simp [results,Tryz.results89,go_sem,r0,r1]) rfl HF.out
theorem waj (d:Int) (l:Sp):(yab d l).length=l.length:=by unfold yab; rw [List.length_map]
theorem gci (d:Int) (l:Sp) (k:Nat) (h:k < l.length) (h':k < (yab d l).length):(yab d l)[k]=(l[k].1.tdiv d,l[k].2):=by simp [yab]
theorem qcs (z:Int):decide (sgI z < 0)=decide (z < 0):=by
 unfold sgI qi
 split
 · simp_all
 · split
   · simp; omega
   · simp; omega
theorem uci {l:Sp} (h:0 < l.length):sdv l=if l[0].1 < 0 then -(snc l:Int) else (snc l:Int):=by
 cases l with
 | nil=>simp at h
 | cons x r=>rfl
theorem xcx {l:Sp} {D:Nat} (h:∀ x ∈ l,(dg x.1.natAbs).length<=D) (hl:l ≠ []):(dg (sdv l).natAbs).length<=D:=by
 have:=gbn h;rw [Int.natAbs_natCast] at this;rw [qbg hl]; exact this
theorem kch {w:World} {l:Sp} {D:Nat} (v:Value) (h:SpV w none v l) (pX:ji l=l) (jX:∀ x ∈ l,(dg x.1.natAbs).length<=D) (CV:∀ x ∈ l,x.1 ≠ 0) (yX:(dg (qg l)).length<=D) (hlen:l.length<=1099511627776) (hD:D<=1099511627776):Calls Tryz.prog 60 #[v] w (kbf (ssn l) w):=by
 have HV:=hid h;obtain ⟨A0,c0,rfl,-,-,-⟩:=h;have mO:=hid jX;have HNZ:=hid CV;have TC:∀ z:Int,(∃ x ∈ l,x.1=z)->(none:Option Nat).getD (dg z.natAbs).length<=D:=fun z ⟨x,hx,e⟩=>by rw [<- e]; exact jX x hx
 have yI:=hid (ga2 D HV.out TC (by omega) hlen);rw [pX] at yI;have yM:=hid (fun (W':World) (u:Value) (hu:SpV W' none u l)=>ybx hu pX (fun x hx=>by have:=jX x hx; omega) (by omega) hlen);have Nj:=hid (And.intro pX yX);clear TC pX yX jX CV;go_enter Tryz.func60,Tryz.ntmps60;go_wp2_with fail;refine yI.out.mono ?_;rintro e w2 ⟨v2,rfl,s2,x2⟩;obtain ⟨A2,c2,rfl,eX,OM,-⟩:=id s2.1;have S2:=hid s2;have X2:=hid x2;have jF:=x2.size;clear yI s2 x2
 by_cases hl:l.length=0
 · have HF:Hid (SpV w2 none (.slice A2 l.length c2) (ssn l)):=hid (by
    have:l=[]:=List.eq_nil_of_length_eq_zero hl;subst this
    exact S2.out.1)
   rw [hl] at HF ⊢;clear hl;go_wp2_with fail;go_ret;exact ⟨_,rfl,HF.out,X2.out⟩
 have lX:¬ (l.length:Int)=0:=by omega
 have FK:0 < l.length:=by omega
 have kD:l ≠ []:=fun e=>by rw [e] at FK; simp at FK
 go_wp2_with fail;refine (yM.out _ _ S2.out.1).mono ?_;rintro e w3 ⟨v3,rfl,i3,x3⟩;obtain ⟨b3,B3,n3,d3,rfl⟩:=i3.unpack;obtain ⟨W,hW⟩:=n_m ((w3.alloc (.cells #[.bool b3,.slice B3 n3 d3] 33)));obtain ⟨o,ho⟩:=n_m (w3.heap.size);have qN:Ext w3 W:=by rw [<- hW]; exact (Ext.refl w3).alloc _
 have o0:W.cell? ⟨o,0,none⟩=some (.bool b3)/\W.cell? ⟨o,1,none⟩=some (.slice B3 n3 d3)/\(∀ i,W.frozen? ⟨o,i,none⟩=false):=by rw [<- hW,<- ho]; exact ⟨by simp [go_sem],by simp [go_sem],fun i=>by simp [go_sem]⟩
 have iW:zo W (.agg #[.bool b3,.slice B3 n3 d3]) ((snc l:Nat):Int):=i3.ext qN;have Z4:∀ W',Ext w2 W'->SpO w.heap.size W' (.slice A2 l.length c2) l:=fun W' hx=>by
  refine ⟨S2.out.1.ext hx,fun hp=>?_⟩;obtain ⟨g',c',e,h4,h5,h6⟩:=S2.out.2 hp;exact ⟨g',c',e,h4,Nat.lt_of_lt_of_le h5 hx.size,fun i hi=>(hx.frozen (p:=⟨g',i,none⟩) h5).trans (h6 i hi)⟩
 obtain ⟨g,cg,eg,IL,iK,Ld⟩:=S2.out.2 FK;injection eg with e1 e2 e3
 subst e1 e3;have Df:g < o:=by have:=x3.size; omega
 have acQ:w2.heap.size<=o:=by have:=x3.size; omega
 have how:o < W.heap.size:=by rw [<- hW]; simp; omega
 have yD:=hid (x3.trans qN);have SOW:=hid Z4;have IW:=hid iW;have HO0:=hid o0;obtain ⟨Aq,cq,e,-,-,aO⟩:=(Z4 W (x3.trans qN)).1;injection e with e1 e2' e3
 subst e1 e3;obtain ⟨ad,bz,Bz,nz,dz,e,ah,lQ,dZ⟩:=aO 0 FK;injection e with e
 subst e;rw [kw,Nat.zero_add] at lQ;obtain ⟨t0,t1,-⟩:=lQ;simp only [Nat.zero_mul,Nat.zero_add] at t0 t1;have IZ:=hid (show zo W (.agg #[.bool bz,.slice Bz nz dz]) l[0].1 from dZ);have HSD:=hid (uci FK);have VQ:=hid (xcx mO.out kD);obtain ⟨z0,jI⟩:=n_m (l[0].1);rw [jI] at IZ HSD;have HZ0:=hid jI;have akm:¬ g=o:=by omega
 clear i3 x3 qN o0 iW Z4 e2 e2' aO dZ ah jI;go_wp2_with fail
 try rw [ho]
 clear hW ho t0 t1;refine (uar _ z0 _ W IZ.out.raw).mono ?_;rintro e w4 ⟨rfl,x4⟩;have XJ:=qcs z0;obtain ⟨p0,p1,pf⟩:=HO0.out;have kC:w4.cell? ⟨o,0,none⟩=some (.bool b3):=(x4.cell (p:=⟨o,0,none⟩) how).trans p0;have Fh:w4.cell? ⟨o,1,none⟩=some (.slice B3 n3 d3):=(x4.cell (p:=⟨o,1,none⟩) how).trans p1;have pY:∀ i,w4.frozen? ⟨o,i,none⟩=false:=fun i=>(x4.frozen (p:=⟨o,i,none⟩) how).trans (pf i)
 have I4:=hid (IW.out.ext x4);have X4:=hid (yD.out.trans x4);have lm:o < w4.heap.size:=by have:=x4.size; omega
 clear x4 p0 p1 pf HO0 IW yD IZ
 by_cases vO:z0 < 0
 case' pos =>
  have hd:decide (sgI z0 < 0)=true:=by rw [XJ]; simpa using vO
  have NZ:Hid (-((snc l:Nat):Int)=sdv l):=hid (by rw [HSD.out,if_pos vO]);have ND:=hid (qct _ _ _ w4 I4.out.raw (by have:=gbn mO.out; omega));rw [NZ.out] at ND;generalize sgI z0=sg at *;clear vO XJ;go_wp2_with fail;refine ND.out.mono ?_;rintro e w5 ⟨v5,rfl,i5,x5⟩;obtain ⟨bd,Bd,nd,dd,rfl⟩:=i5.unpack;have hr0:=(x5.cell (p:=⟨o,0,none⟩) lm).trans kC;have lT:=(x5.cell (p:=⟨o,1,none⟩) lm).trans Fh;have rD:∀ i,w5.frozen? ⟨o,i,none⟩=false:=fun i=>(x5.frozen (p:=⟨o,i,none⟩) lm).trans (pY i)
  obtain ⟨V,hV⟩:=n_m (((w5.setCell ⟨o,0,none⟩ (.bool bd)).setCell ⟨o,1,none⟩ (.slice Bd nd dd)));have k1:(w5.setCell ⟨o,0,none⟩ (.bool bd)).cell? ⟨o,1,none⟩=some (.slice B3 n3 d3):=by rw [World.cell?_setCell_other _ _ _ _ (by simp),lT]
  have HS:Hid (Ext w2 V/\(V.cell? ⟨o,0,none⟩=some (.bool bd)/\V.cell? ⟨o,1,none⟩=some (.slice Bd nd dd))/\zo V (.agg #[.bool bd,.slice Bd nd dd]) (sdv l)):=hid (by
   have h2o:w2.heap.size<=o:=acQ;rw [<- hV]
   exact ⟨((X4.out.trans x5).setCell h2o _).setCell h2o _,⟨by rw [World.cell?_setCell_other _ _ _ _ (by simp)]; exact World.cell?_setCell_same _ _ _ hr0,World.cell?_setCell_same _ _ _ k1⟩,(i5.box hr0 rfl _).box k1 rfl _⟩)
  have x5s:=x5.size;clear kC Fh pY i5 x5 k1 ND;have hwo:o < V.heap.size:=by rw [<- hV]; simp only [World.setCell,Array.size_modify]; have:=x5s; omega
  go_wp2_with fail;clear hV hr0 lT rD
 case' neg =>
  have hd:decide (sgI z0 < 0)=false:=by rw [XJ]; simpa using vO
  have NZ:Hid (((snc l:Nat):Int)=sdv l):=hid (by rw [HSD.out,if_neg vO]);rw [NZ.out] at I4;generalize sgI z0=sg at *;clear vO XJ;obtain ⟨V,rfl⟩:∃ V,V=w4:=⟨_,rfl⟩;obtain ⟨bd,rfl⟩:∃ x,x=b3:=⟨_,rfl⟩;obtain ⟨Bd,rfl⟩:∃ x,x=B3:=⟨_,rfl⟩;obtain ⟨nd,rfl⟩:∃ x,x=n3:=⟨_,rfl⟩;obtain ⟨dd,rfl⟩:∃ x,x=d3:=⟨_,rfl⟩;have HS:=hid (And.intro X4.out (And.intro (And.intro kC Fh) I4.out));have hwo:=lm;clear kC Fh pY;go_wp2_with fail
 all_goals
  have lu:∀ k,((yab (sdv l) l).take k ++ l.drop k).length=l.length:=fun k=>xbh (waj _ l) k
  have BI:=hid lu;have ai4:=X2.out.size
  go_loopw [24] (fun iv wr=>∃ k:Nat,k<=l.length/\iv=.int .i64 k/\Hid (SpO w.heap.size wr (.slice (some ⟨g,0,none⟩) l.length c2) ((yab (sdv l) l).take k ++ l.drop k)/\Ext w wr/\V.heap.size<=wr.heap.size/\(wr.cell? ⟨o,0,none⟩=some (.bool bd)/\wr.cell? ⟨o,1,none⟩=some (.slice Bd nd dd))/\zo wr (.agg #[.bool bd,.slice Bd nd dd]) (sdv l))) (fun iv _=>l.length - (intOf iv).toNat)
  case atStart=>exact ⟨0,Nat.zero_le _,rfl,hid ⟨by simpa using SOW.out _ HS.out.1,X2.out.trans HS.out.1,Nat.le_refl _,HS.out.2.1,HS.out.2.2⟩⟩
  case round =>
   obtain ⟨k,hk,rfl,HI⟩:=hrel
   by_cases af:k < l.length
   · obtain ⟨XI,iQ,hvs,⟨r0,r1⟩,hdiv⟩:=HI.out;have hlen:=BI.out k;obtain ⟨Aq,cq,e,-,-,aO⟩:=XI.1;rw [hlen] at e;injection e with e1 e2 e3
     subst e1 e3;obtain ⟨g',c',e,Dh,KY,KZ⟩:=XI.2 (by rw [hlen]; omega);rw [hlen] at e;injection e with e1 e2' e3
     injection e1 with e1
     injection e1 with e1
     subst e1 e3;obtain ⟨ad,b0,B0,n0,d0,e,ah,lQ,dZ⟩:=aO k (by rw [hlen]; exact af);injection e with e
     subst e;rw [qbh (waj _ l) k af] at lQ dZ;rw [kw,Nat.zero_add] at lQ;obtain ⟨t0,t1,-⟩:=lQ;simp only at t0 t1;have hq6:(⟨g,0,none⟩:Addr).add (k * 6)=⟨g,k * 6,none⟩:=by rw [kw,Nat.zero_add]
     have bI:=KZ (k * 6) (by rw [hlen]; omega);have nD:=KZ (k * 6+1) (by rw [hlen]; omega);have Tz:k < (yab (sdv l) l).length:=by rw [waj]; exact af
     have dN:=hid (qbz (waj (sdv l) l) k af Tz);rw [gci _ l k af] at dN;have HGT:=hid (qbh (waj (sdv l) l) k af (by rw [hlen]; exact af));have hdk:=mO.out l[k] (List.getElem_mem af);have hzk:=HNZ.out l[k] (List.getElem_mem af);have Uh:=xbg l[k] (List.getElem_mem af);have Q9:=qb9 HNZ.out;have nH:=VQ.out;have mM:=hid (fun W' (hx:Ext wr W')=>zbk (.agg #[.bool b0,.slice B0 n0 d0]) (.agg #[.bool bd,.slice Bd nd dd]) l[k].1 (sdv l) _ _ W' (zo.raw (zo.ext (show zo wr (.agg #[.bool b0,.slice B0 n0 d0]) l[k].1 from dZ) hx)) (zo.raw (hdiv.ext hx)) (by omega) (by omega) Q9);rw [Int.tmod_eq_zero_of_dvd Uh] at mM;obtain ⟨z,hz⟩:=n_m (l[k].1);rw [hz] at mM dN;obtain ⟨q,hq⟩:=n_m (z.tdiv (sdv l));rw [hq] at mM dN;have qB:Hid ((((yab (sdv l) l).take k ++ l.drop k).set k (q,(((yab (sdv l) l).take k ++ l.drop k)[k]'(by rw [hlen]; exact af)).2))=(yab (sdv l) l).take (k+1) ++ l.drop (k+1)):=hid (by rw [HGT.out]; exact dN.out);have akl:g ≠ o:=by omega
     have jU:o < wr.heap.size:=by omega
     have dI:Hid (∀ (w3:World) (x3:Value),zo w3 x3 q->Ext wr w3->∃ b3 A3 n3 c3,x3=.agg #[.bool b3,.slice A3 n3 c3]/\(w3.cell? ⟨o,0,none⟩=some (.bool bd)/\w3.cell? ⟨o,1,none⟩=some (.slice Bd nd dd))/\(w3.cell? ⟨g,k * 6,none⟩=some (.bool b0)/\w3.cell? ⟨g,k * 6+1,none⟩=some (.slice B0 n0 d0)/\w3.frozen? ⟨g,k * 6,none⟩=false/\w3.frozen? ⟨g,k * 6+1,none⟩=false)/\(SpO w.heap.size ((w3.setCell ⟨g,k * 6,none⟩ (.bool b3)).setCell ⟨g,k * 6+1,none⟩ (.slice A3 n3 c3)) (.slice (some ⟨g,0,none⟩) l.length c2) ((yab (sdv l) l).take (k+1) ++ l.drop (k+1))/\Ext w ((w3.setCell ⟨g,k * 6,none⟩ (.bool b3)).setCell ⟨g,k * 6+1,none⟩ (.slice A3 n3 c3))/\V.heap.size<=((w3.setCell ⟨g,k * 6,none⟩ (.bool b3)).setCell ⟨g,k * 6+1,none⟩ (.slice A3 n3 c3)).heap.size/\(((w3.setCell ⟨g,k * 6,none⟩ (.bool b3)).setCell ⟨g,k * 6+1,none⟩ (.slice A3 n3 c3)).cell? ⟨o,0,none⟩=some (.bool bd)/\((w3.setCell ⟨g,k * 6,none⟩ (.bool b3)).setCell ⟨g,k * 6+1,none⟩ (.slice A3 n3 c3)).cell? ⟨o,1,none⟩=some (.slice Bd nd dd))/\zo ((w3.setCell ⟨g,k * 6,none⟩ (.bool b3)).setCell ⟨g,k * 6+1,none⟩ (.slice A3 n3 c3)) (.agg #[.bool bd,.slice Bd nd dd]) (sdv l))):=hid (by
      intro w3 x3 hn hx;obtain ⟨b3,A3,n3,c3,rfl⟩:=hn.unpack;have ev:∀ i,w3.cell? ⟨g,i,none⟩=wr.cell? ⟨g,i,none⟩:=fun i=>hx.cell (p:=⟨g,i,none⟩) KY
      have eo:∀ i,w3.cell? ⟨o,i,none⟩=wr.cell? ⟨o,i,none⟩:=fun i=>hx.cell (p:=⟨o,i,none⟩) jU
      have aaD:SpO w.heap.size w3 (.slice (some ⟨g,0,none⟩) ((yab (sdv l) l).take k ++ l.drop k).length c2) ((yab (sdv l) l).take k ++ l.drop k):=by
       have h3:=HI.out.1;rw [<- hlen] at h3;refine ⟨h3.1.ext hx,fun hp=>?_⟩;obtain ⟨g',c',e,h4,h5,h6⟩:=h3.2 hp;exact ⟨g',c',e,h4,Nat.lt_of_lt_of_le h5 hx.size,fun i hi=>(hx.frozen (p:=⟨g',i,none⟩) h5).trans (h6 i hi)⟩
      have hs:=aaD.set_ k (by rw [hlen]; exact af) hn;rw [qB.out,hlen] at hs;have Ou:∀ i,((w3.setCell ⟨g,k * 6,none⟩ (.bool b3)).setCell ⟨g,k * 6+1,none⟩ (.slice A3 n3 c3)).cell? ⟨o,i,none⟩=w3.cell? ⟨o,i,none⟩:=fun i=>World.cell?_of_block (a:=⟨o,i,none⟩) (by rw [Below.heap_setCell _ _ _ o (by show o ≠ g; omega),Below.heap_setCell _ _ _ o (by show o ≠ g; omega)])
      have TN:=HI.out.2.2.2.2;obtain ⟨y,ey,hy⟩:=TN.ext hx
      refine ⟨b3,A3,n3,c3,rfl,⟨(eo 0).trans r0,(eo 1).trans r1⟩,⟨(ev _).trans t0,(ev _).trans t1,(hx.frozen (p:=⟨g,k * 6,none⟩) KY).trans bI,(hx.frozen (p:=⟨g,k * 6+1,none⟩) KY).trans nD⟩,hs.1,((iQ.trans hx).setCell IL _).setCell IL _,by simp only [World.setCell,Array.size_modify]; have:=hx.size; omega,⟨(Ou 0).trans ((eo 0).trans r0),(Ou 1).trans ((eo 1).trans r1)⟩,y,ey,hs.2 _ _ hy⟩)
     have y0:Ext wr wr.drew:=(Ext.refl wr).drew;have Y0:=hid y0;clear XI iQ aO dZ ah KZ dN HGT hz hq qB Uh hzk hdk nH Q9 hdiv y0 e2 e2' Tz HI lu;go_upto_region 10 with fail
     go_region_law (first
      | (go_simp
         go_at_call 89
         refine (mM.out _ Y0.out).mono ?_;rintro e w3 ⟨x3,rfl,Qz,y3⟩;rw [if_pos rfl] at Qz;rw [if_pos rfl];obtain ⟨b3,A3,n3,c3,rfl,⟨G0,G1⟩,⟨T0,T1,TF0,TF1⟩,aS⟩:=dI.out _ _ Qz (Y0.out.trans y3);have bV:=hid aS
         clear Qz y3 aS))
     all_goals
      clear G0 G1 T0 T1 TF0 TF1 r0 r1 t0 t1 dI bI nD mM;go_wp2_with fail
      go_roundw
      case rel=>exact ⟨k+1,by omega,by go_num,bV.out⟩
      case measure=>simp [intOf]; omega
   · have bH:k=l.length:=by omega
     have HF:Hid (SpV wr none (.slice (some ⟨g,0,none⟩) l.length c2) (ssn l)/\Ext w wr):=hid (by
      have h1:=HI.out.1.1;rw [bH,List.drop_length,List.append_nil,<- waj (sdv l) l,List.take_length] at h1;rw [waj] at h1
      exact ⟨h1,HI.out.2.1⟩)
     clear HI bH lu;go_wp2_with fail;go_ret;exact ⟨_,rfl,HF.out⟩
theorem zby {w:World} {q:Nat->Prop} {p:Pl} {E D:Nat} (v:Value) (h0:PlV w q p v) (hp:Fit p E D) (hE:E<=170) (hD:D<=1099511627776):Calls Tryz.prog 69 #[v] w (uf (fun b=>w.heap.size<=b) (snP p) w):=by
 have H0:=hid h0;obtain ⟨A0,m0,e0,B0,f0,rfl,-⟩:=h0.open_;obtain ⟨DJ,W,fU,jY,fD,aC,bU,hx1,aV,hz⟩:=b_y w p (.slice A0 m0 e0) (.slice B0 p.cs.length f0);have HZ:=hid hz;have HX:=hid (aC.trans hx1);have dC:=hid aV;have eQ:W.heap.size=w.heap.size+1+1:=bU;clear h0 aC hx1 aV hz;have HT:=hid (fun (W':World) (hx:Ext w W')=>ucw p _ (H0.out.ext hx) (hp.small hE) (by have:=hp.dm; omega));have J5:=Nat.le_trans hp.sp_len (uby (show E<=900 by omega));have HS:=hid (fun (W':World) (u:Value) (hu:SpV W' none u p.sp)=>kch u hu p.sp_self hp.sp_dg (kbg _ p.sp_can) (zg hp.sp_nrm) (by omega) hD);have HO:=hid (fun (W':World) (u:Value) (hu:SpV W' none u (snP p).sp)=>ucs u hu (jak hp) (by omega) (by omega));obtain ⟨b0,b1,b2,b3⟩:=dC.out;unfold plV at HT ⊢;clear hp J5;go_enter Tryz.func69,Tryz.ntmps69;go_wp2_with fail;clear fU jY;clear b0 b1 b2 b3;refine (HT.out _ HX.out).mono ?_;rintro e w1 ⟨v1,rfl,s1,x1⟩;have hs:=HS.out _ _ (show SpV w1 none v1 p.sp from s1);obtain ⟨A1,c1,rfl,-⟩:=s1;have X1:=hid (HX.out.trans x1);have eY:=hid (HZ.out.ext x1 (by omega));have bU:=x1.size;clear x1 HT HZ;go_wp2_with fail;refine hs.mono ?_;rintro e w2 ⟨v2,rfl,s2,x2⟩;have ho:=HO.out _ _ (by rw [zcx]; exact s2);obtain ⟨A2,c2,rfl,-⟩:=s2;have X2:=hid (X1.out.trans x2);have ou:=hid (eY.out.ext x2 (by omega));have jF:=x2.size;clear x2 hs eY;go_wp2_with fail;refine ho.mono ?_;rintro e w3 ⟨v3,rfl,p3,x3⟩;obtain ⟨C0,j0,k0,C1,k1,rfl,-⟩:=id p3.open_;have aQ:=ou.out.ext x3 (by omega);have jP:=hid (qf (q':=fun b=>w.heap.size<=b) (X2.out.trans x3) (by omega) aQ p3 (fun b _ hb=>⟨by omega,by omega⟩));obtain ⟨⟨z0,z1,z2,z3⟩,zf⟩:=aQ;obtain ⟨P,hP⟩:=n_m (snP p);rw [hP] at jP ⊢;have wL:=hid hP;clear p3 x3 ho hP HO;unfold plV;go_wp2_with fail;obtain ⟨v9,e9,q3,q4⟩:=jP.out;injection e9 with e9
 subst e9;exact bodyPost_ret (v:=plV P (.slice C0 j0 k0) (.slice C1 P.cs.length k1)) (by simp [results,Tryz.results69,go_sem,z0,z1,z2,z3,plV]) rfl (by rw [wL.out]; exact ⟨_,rfl,q3,q4⟩)
end Go.Proofs.YtklnlgnnlmdibaaGreat
