/- Layer 41: collins.elements, required, Required. -/
import Derived.Test.YtklnlgnnlmdibaaGreatColl
import Derived.Test.YtklnlgnnlmdibaaGreatMr41
import Derived.Test.YtklnlgnnlmdibaaGreatMr19
import Derived.Test.YtklnlgnnlmdibaaGreatMr24
set_option linter.unusedSimpArgs false
set_option linter.unusedVariables false

set_option maxRecDepth 100000
set_option maxHeartbeats 8000000
namespace Go.Proofs.YtklnlgnnlmdibaaGreat
open Go.RowKit Go.Shelf
attribute [local go_sem] Oper.semAt_some
theorem jbt {P:Program} {w:World} {a:Addr} {m:Mode} (fn:Fn) (first captured:Array Value):(store a (.func fn first captured) m).run P w=stored P w a (.func fn first captured) m:=run_store P w a _ m rfl
attribute [local go_sem] jbt
theorem PlV.kept {W W':World} {row:Option Nat} {q:Nat->Prop} {p:Pl} {v:Value} (h:PlV W q p v) (hg:W.grownBy W' row) (hr:∀ r,row=some r->∃ o:Obj,W.heap[r]?=some o/\o.isCells=false):PlV W' q p v:=
 PlV.turnC hg.size (fun v ds hv=>wam hg hr hv) (fun a v hp hv=>⟨hp,by
  obtain ⟨o,ho,hc⟩:=cells_of_cell hv;obtain ⟨c,t,f,rfl⟩:∃ c t f,o=.cells c t f:=by cases o <;> simp_all [Obj.isCells]
  exact (World.cell?_of_block ((cells_kept hg hr ho).trans ho.symm)).trans hv⟩) _ _ h
theorem xb0 {M acc:List Pl} {k:Nat} (hk:k < M.length):putA acc (M.take (k+1))=putL (putA acc (M.take k)) M[k]:=by
 unfold putA;rw [List.take_succ_eq_append_getElem hk,List.foldl_append]; rfl
theorem vbh : ∀ (M acc : List Pl), ∀ c ∈ putA acc M, c ∈ acc \/ ∃ p ∈ M, c = snP p
 | [],acc,c,h=>.inl h
 | p :: M,acc,c,h=>by
   have h':c ∈ putA (putL acc p) M:=h;rcases vbh M _ c h' with h1 | ⟨x,hx,e⟩
   · unfold putL at h1
     split at h1
     · exact .inl h1
     · split at h1
       · exact .inl h1
       · rw [List.mem_append,List.mem_singleton] at h1;rcases h1 with h1 | h1
         · exact .inl h1
         · exact .inr ⟨p,List.mem_cons_self,h1⟩
   · exact .inr ⟨x,List.mem_cons_of_mem _ hx,e⟩
theorem ubh : ∀ (M acc : List Pl), (putA acc M).length <= acc.length + M.length
 | [],acc=>by simp [putA]
 | p :: M,acc=>by
   have h:=ubh M (putL acc p);have h2:(putL acc p).length<=acc.length+1:=by unfold putL; split <;> (try split) <;> simp
   show (putA (putL acc p) M).length<=_;simp only [List.length_cons]; omega
theorem kbk {w:World} {D0:Option Addr} {n c0:Nat} {l:Int} :
 Calls Tryz.prog 70 #[.slice D0 n c0,.int .i64 l] w fun e w'=>e=.returned (.func (.func 96) #[] #[.pointer (some ⟨w.heap.size,0,none⟩),.pointer (some ⟨w.heap.size+1,0,none⟩)])/\w'.cell? ⟨w.heap.size,0,none⟩=some (.slice D0 n c0)/\w'.cell? ⟨w.heap.size+1,0,none⟩=some (.int .i64 l)/\w'.heap.size=w.heap.size+2/\Ext w w':=by
 have HF:Hid (Ext w ((w.alloc (.cells #[.slice D0 n c0] 24)).alloc (.cells #[.int .i64 l] 3))):=Lib.hid (((Ext.refl w).alloc _).alloc _);go_enter Tryz.func70,Tryz.ntmps70;go_wp2_with fail;go_ret;exact ⟨rfl,by simp [go_sem],by simp [go_sem],by simp,HF.out⟩
theorem zbh {w:World} {E D E2 D2 c0:Nat} {q:Nat->Prop} {D0:Option Addr} {l:Int} {fs:List Pl} (hl:1<=l) (hl4:l<=4) (hat:jd w q fs D0 0) (hc1:fs.length<=c0) (hc2:c0<=9223372036854775807) (hfn:fs.length<=1000) (hfit:∀ f ∈ fs,Fit f E D) (hE:E<=60) (hD:D<=100000000000) (HP:Hid (kbe l fs)) (hel:∀ p ∈ elems l fs,Fit p E2 D2) (hE2:E2<=170) (hD2:D2<=1099511627776) (hln:(elems l fs).length<=90000) :
 Calls Tryz.prog 34 #[.slice D0 fs.length c0,.int .i64 l] w (uay (fun _=>True) (reqL l fs) w):=by
 have hdd:∀ k:Nat,(Fence.wide.depth.isSome=true->1<=k):=fun k h=>by cases h
 obtain ⟨WN,hWN⟩:∃ WN,((w.alloc (.cells #[.slice none 0 0] 24)).alloc (.cells #[.nilFunc] 85))=WN:=⟨_,rfl⟩;have hxn:Ext w WN:=by rw [<- hWN]; exact ((Ext.refl w).alloc _).alloc _
 have hsn:WN.heap.size=w.heap.size+2:=by rw [<- hWN]; simp
 have hbTn:WN.heap[w.heap.size]?=some (.cells #[.slice none 0 0] 24 (0,0)):=by
  rw [<- hWN,Below.heap_alloc _ _ _ (by simp)]; exact heap_alloc_new w _
 have hbFn:WN.heap[w.heap.size+1]?=some (.cells #[.nilFunc] 85 (0,0)):=by
  rw [<- hWN];have:=heap_alloc_new (w.alloc (.cells #[.slice none 0 0] 24)) (.cells #[.nilFunc] 85)
  rwa [World.size_alloc] at this
 have cn:=box1 hbFn;have fn:WN.frozen? ⟨w.heap.size+1,0,none⟩=false:=by simp [World.frozen?,hbFn]
 obtain ⟨W1,hW1⟩:∃ W1,WN.setCell ⟨w.heap.size+1,0,none⟩ (.func (.func 67) #[] #[.pointer (some ⟨w.heap.size,0,none⟩)])=W1:=⟨_,rfl⟩;have hx1:Ext w W1:=by rw [<- hW1]; exact hxn.setCell (by show w.heap.size<=w.heap.size+1; omega) _
 have hs1:W1.heap.size=w.heap.size+2:=by rw [<- hW1]; simp only [World.setCell,Array.size_modify]; exact hsn
 have hbT:W1.heap[w.heap.size]?=some (.cells #[.slice none 0 0] 24 (0,0)):=by
  rw [<- hW1,Below.heap_setCell _ _ _ _ (by show w.heap.size ≠ w.heap.size+1; omega)]; exact hbTn
 have hbF:W1.heap[w.heap.size+1]?=some (.cells #[.func (.func 67) #[] #[.pointer (some ⟨w.heap.size,0,none⟩)]] 85 (0,0)):=by
  rw [<- hW1]; exact Boxed.set _ hbFn
 have HFS1:Hid (FS w.heap.size (w.heap.size+2) W1 []):=Lib.hid ⟨by omega,by omega,_,hbT,uh.nil _ _ _⟩;have HBF:=Lib.hid hbF;have HBT:=Lib.hid hbT;have HX1:=Lib.hid hx1;have HAT:=Lib.hid hat;have HFIT:=Lib.hid hfit;have HEL:=Lib.hid hel;clear hx1 hbT hbF hat hfit hel hbTn hbFn hxn hsn;refine (callsIn_wide (n:=5)).1 ?_;refine callsIn_of_wp_marks Tryz.func34 rfl trivial ?_ rfl;simp only [Tryz.ntmps34,List.size_toArray,List.length_cons,List.length_nil,Nat.reduceAdd,Nat.reduceSub,Array.replicate_succ,Array.replicate_zero,List.push_toArray,List.append_toArray,List.nil_append,List.cons_append]
 gi_wp2_with fail
 clear hWN hW1 cn fn;refine ⟨trivial,?_⟩;refine (callsIn_wide.2 (kbk (w:=W1))).mono ?_;rintro e w2 ⟨rfl,cL,cV,hs2,x2⟩;have X2:=Lib.hid (HX1.out.trans x2);have HFS2:=Lib.hid (HFS1.out.ext x2);have HBF2:=Lib.hid ((x2.below.block _ (by omega)).trans HBF.out);have hfw:Fw w.heap.size w2:=⟨by omega,HFS2.out.fresh⟩;have hT2:w2.cell? ⟨w.heap.size,0,none⟩=some (.slice none 0 0):=(x2.cell (p:=⟨w.heap.size,0,none⟩) (by show w.heap.size < _; omega)).trans (box1 HBT.out);have hsafe:∀ b,b < w2.heap.size->b ≠ w.heap.size->Safe w.heap.size w2 b:=fun b hb hn=>⟨hb,hn,fun e=>by
  obtain ⟨v,hv,e'⟩:=e;rw [hT2] at hv;injection hv with hv
  subst hv
  cases e'⟩
 have HSEQ:=Lib.hid (fun n=>jbk (T:=w.heap.size) (lo:=w2.heap.size) hl hl4 hfw (Nat.le_refl _) (hsafe W1.heap.size (by omega) (by omega)) (hsafe (W1.heap.size+1) (by omega) (by omega)) cL cV hc1 hc2 ((HAT.out.below_.ext X2.out).mono fun b hb hq=>hsafe b hb (by omega)) hfn HFIT.out hE hD HP n);have HKO:=Lib.hid (fun (W:World) (l:Nat) (o o':Obj) (h1:w2.heap.size<=l) (h2:W.heap[l]?=some o) (h3:o.isCells=false)=>uf.putObj w.heap.size W l o o' (by omega) h2 h3);obtain ⟨M,hM⟩:∃ M,elems l fs=M:=⟨_,rfl⟩;have HREQ:Hid (reqL l fs=putA [] M):=Lib.hid (by rw [<- hM]; rfl);rw [hM] at HSEQ HEL hln;rw [hs1] at HSEQ;clear x2 cL cV hfw hsafe hT2 HBT HFS1 HBF HX1 hM
 gi_wp2_with fail
 refine xb9 (by omega) (gf := 96) (lb := #[.pointer (some ⟨w.heap.size + 2, 0, none⟩), .pointer (some ⟨w.heap.size + 2 + 1, 0, none⟩)]) rfl (enters_of Tryz.func96 (by kernel_rfl) rfl) (HSEQ.out _) (fun A B h => h.other) uf.trans (fun W l o o' h1 h2 h3 _ => HKO.out W l o o' h1 h2 h3) (Below.refl _ _) (fun _ => rfl)
  (fun k W=>Ext w W/\w2.heap.size<=W.heap.size/\FS w.heap.size (w.heap.size+2) W (putA [] (M.take k))/\W.heap[w.heap.size+1]?=some (.cells #[.func (.func 67) #[] #[.pointer (some ⟨w.heap.size,0,none⟩)]] 85 (0,0)))
  ?ownI ?relI ?startI
  (fun k x a' W=>(∃ g A0 m0 e0 A1 e1,a'={ tmps:=#[.slice D0 fs.length c0,.int .i64 l,undef,undef,.slice none 0 0,.pointer (some ⟨w.heap.size,0,none⟩),.pointer (some ⟨w.heap.size+1,0,none⟩),.pointer (some ⟨g,0,none⟩),.func (.func 67) #[] #[.pointer (some ⟨w.heap.size,0,none⟩)],.slice D0 fs.length c0,.int .i64 l,.func (.func 96) #[] #[.pointer (some ⟨w.heap.size+2,0,none⟩),.pointer (some ⟨w.heap.size+2+1,0,none⟩)],x,undef,undef,undef,undef],defers:=[] }/\w2.heap.size<=g/\W.heap[g]?=some (.cells #[.int .i64 (M.getD k Pl.zero).lv,.bool (M.getD k Pl.zero).neg,.slice A0 m0 e0,.slice A1 (M.getD k Pl.zero).cs.length e1] 35 (0,0))/\∃ q,PlV W q (M.getD k Pl.zero) (plV (M.getD k Pl.zero) (.slice A0 m0 e0) (.slice A1 (M.getD k Pl.zero).cs.length e1)))/\Ext w W/\w2.heap.size<=W.heap.size/\FS w.heap.size (w.heap.size+2) W (putA [] (M.take k))/\W.heap[w.heap.size+1]?=some (.cells #[.func (.func 67) #[] #[.pointer (some ⟨w.heap.size,0,none⟩)]] 85 (0,0)))
  ?ownA ?assign ?body ?done
 case ownI =>
  rintro k W W' row ⟨h1,h2,h3,h4⟩ hg hr;have hr2:=fun r e=>(hr r e).2
  exact ⟨Below.grown h1.below hg h1.size (fun r e=>by have:=(hr r e).1; have:=h1.size; have:=X2.out.size; omega),Nat.le_trans h2 hg.size,h3.kept hg hr2,cells_kept hg hr2 h4⟩
 case relI =>
  rintro k A B ⟨h1,h2,h3,h4⟩ hr;have hk:=hr.keep.2;refine ⟨hr.ext h1 X2.out.size,by omega,h3.rel hr,?_⟩;obtain ⟨R,i,u,D,n,c,r1,-,-,-,-,rfl⟩:=hr;rw [Below.heap_setCell _ _ _ _ (by show w.heap.size+1 ≠ R; omega)]; exact h4
 case startI=>exact ⟨X2.out,Nat.le_refl _,HFS2.out,HBF2.out⟩
 case ownA =>
  rintro k x a' s W W' row ⟨⟨g,A0,m0,e0,A1,e1,ha,hg1,hg2,q,hq⟩,h1,h2,h3,h4⟩ hg hr;have hr2:=fun r e=>(hr r e).2
  exact ⟨⟨g,A0,m0,e0,A1,e1,ha,hg1,cells_kept hg hr2 hg2,q,hq.kept hg hr2⟩,Below.grown h1.below hg h1.size (fun r e=>by have:=(hr r e).1; have:=h1.size; have:=X2.out.size; omega),Nat.le_trans h2 hg.size,h3.kept hg hr2,cells_kept hg hr2 h4⟩
 case assign =>
  rintro mm lp k x W K hk ⟨h1,h2,h3,h4⟩ ⟨hk',q,hq⟩ hK;have hgd:M[k]=M.getD k Pl.zero:=by rw [List.getD_eq_getElem?_getD,List.getElem?_eq_getElem hk']; rfl
  rw [hgd] at hq;obtain ⟨A0,m0,e0,A1,e1,rfl,-⟩:=id hq.open_;generalize M.getD k Pl.zero=p at *;have hx1:Ext W (W.alloc (.cells #[.int .i64 p.lv,.bool p.neg,.slice A0 m0 e0,.slice A1 p.cs.length e1] 35)):=(Ext.refl W).alloc _;have HK:=hK { tmps:=#[.slice D0 fs.length c0,.int .i64 l,undef,undef,.slice none 0 0,.pointer (some ⟨w.heap.size,0,none⟩),.pointer (some ⟨w.heap.size+1,0,none⟩),.pointer (some ⟨W.heap.size,0,none⟩),.func (.func 67) #[] #[.pointer (some ⟨w.heap.size,0,none⟩)],.slice D0 fs.length c0,.int .i64 l,.func (.func 96) #[] #[.pointer (some ⟨w.heap.size+2,0,none⟩),.pointer (some ⟨w.heap.size+2+1,0,none⟩)],plV p (.slice A0 m0 e0) (.slice A1 p.cs.length e1),undef,undef,undef,undef],defers:=[] } _ (xaw hx1) (uf.of_ext h3.lt hx1) ⟨⟨W.heap.size,A0,m0,e0,A1,e1,rfl,h2,heap_alloc_new W _,q,hq.ext hx1⟩,h1.trans hx1,Nat.le_trans h2 hx1.size,h3.ext hx1,(hx1.below.block _ (by omega)).trans h4⟩;have HKK:=Lib.hid HK;clear HK hK h1 h2 h3 h4 hx1 hq;simp only [ycm];unfold plV at HKK ⊢
  gi_wp2
  exact HKK.out
 case body =>
  rintro mm lp k x a' W hk ⟨⟨g,A0,m0,e0,A1,e1,rfl,hg1,hg2,q,hq⟩,h1,h2,h3,h4⟩;have hgd:M[k]=M.getD k Pl.zero:=by rw [List.getD_eq_getElem?_getD,List.getElem?_eq_getElem hk]; rfl
  have hmem:M.getD k Pl.zero ∈ M:=by rw [<- hgd]; exact List.getElem_mem hk
  have hacc:∀ c ∈ putA [] (M.take k),Fit c E2 D2:=fun c hc=>by
   rcases vbh _ _ c hc with h | ⟨p,hp,rfl⟩
   · cases h
   · exact za9 (HEL.out p (List.mem_of_mem_take hp))
  have hlen:(putA [] (M.take k)).length<=100000:=by
   have:=ubh (M.take k) [];rw [List.length_take] at this;simp only [List.length_nil] at this;omega
  have HCC:=Lib.hid (xcd _ hq (HEL.out _ hmem) hE2 hD2 h3 hacc hlen);have HPT:Hid (putL (putA [] (M.take k)) (M.getD k Pl.zero)=putA [] (M.take (k+1))):=Lib.hid (by rw [xb0 hk,hgd]);rw [HPT.out] at HCC;have H1:=Lib.hid h1;have H4:=Lib.hid h4;have H3:=Lib.hid h3;obtain ⟨c0',c1',c2',c3'⟩:=box4 hg2;have cF:=box1 h4;clear h1 h3 h4 hg2 hq hacc hlen hgd hmem;generalize M.getD k Pl.zero=p at *;unfold plV at HCC
  gi_wp2_with fail
  clear c0' c1' c2' c3' cF;refine ⟨trivial,hdd _,?_⟩;refine (callsIn_wide.2 HCC.out).mono ?_;rintro e W3 ⟨⟨r,rfl⟩,hcol⟩;have HFIN:Hid (KeepsFrom w2.heap.size W W3/\uf w.heap.size W W3/\Ext w W3/\w2.heap.size<=W3.heap.size/\FS w.heap.size (w.heap.size+2) W3 (putA [] (M.take (k+1)))/\W3.heap[w.heap.size+1]?=some (.cells #[.func (.func 67) #[] #[.pointer (some ⟨w.heap.size,0,none⟩)]] 85 (0,0))):=Lib.hid (by
   obtain ⟨cf,ck,co,ce⟩:=hcol;refine ⟨⟨ck.size,fun i o _ hi ho=>co i o hi ho⟩,ck,ce w H1.out (Nat.le_refl _),Nat.le_trans h2 ck.size,cf,?_⟩;refine ck.obj _ _ (by omega) (fun e=>?_) H4.out rfl;obtain ⟨v,hv,e'⟩:=e;obtain ⟨-,-,fv,hfv,hq⟩:=H3.out;rw [box1 hfv] at hv;injection hv with hv
   subst hv;have:=(hq.own e').1
   omega)
  clear hcol HCC
  gi_wp2_with fail
  simp only [xa6];exact HFIN.out
 case done =>
  rintro D W hD ⟨h1,h2,h3,h4⟩ hK;rw [List.take_length] at h3;rw [<- HREQ.out] at h3;obtain ⟨-,-,fv,hfv,hq⟩:=id h3;obtain ⟨FA,fc,rfl,hf1,hf2⟩:=hq.len;have t0:=box1 hfv;have H1:=Lib.hid h1;have HKD:=Lib.hid hK;have HQ:=Lib.hid hq;have hw2:=X2.out.size;clear h1 h2 h3 h4 hK hfv hq
  gi_wp2_with fail
  refine ⟨by simp,.inl ⟨_,_,rfl,run_takeDeferred HKD.out,?_⟩⟩;have hgr:=grownBy_putObj' W D (.deferred none);have hr2:∀ r,some D=some r->∃ o:Obj,W.heap[r]?=some o/\o.isCells=false:=fun r e=>⟨_,by injection e with e; subst e; exact HKD.out,rfl⟩
  have hat9:jd (W.putObj D (.deferred none)) (fun _=>True) (reqL l fs) FA 0:=by
   have h9:=HQ.out.at_;refine jd.turnC hgr.size (fun v ds hv=>wam hgr hr2 hv) (fun a v _ hv=>⟨trivial,?_⟩) _ _ _ h9;obtain ⟨o,ho,hc⟩:=cells_of_cell hv;obtain ⟨c,t,f,rfl⟩:∃ c t f,o=.cells c t f:=by cases o <;> simp_all [Obj.isCells]
   exact (World.cell?_of_block ((cells_kept hgr hr2 ho).trans ho.symm)).trans hv
  exact ⟨.slice FA (reqL l fs).length fc,by simp [results,Tryz.results34,go_sem],_,rfl,⟨FA,fc,rfl,hf1,hf2,hat9⟩,Below.grown H1.out.below hgr H1.out.size (fun k e=>by injection e with e; omega)⟩
end Go.Proofs.YtklnlgnnlmdibaaGreat

/- Layer 41: collins.Required. -/
set_option maxRecDepth 100000
set_option maxHeartbeats 8000000
namespace Go.Proofs.YtklnlgnnlmdibaaGreat
open Go.RowKit
theorem zbe {w:World} {E D E2 D2 c0:Nat} {q:Nat->Prop} {D0:Option Addr} {l:Int} {fs:List Pl} (hl:1<=l) (hl4:l<=4) (hat:jd w q fs D0 0) (hc1:fs.length<=c0) (hc2:c0<=9223372036854775807) (hfn:fs.length<=1000) (hfit:∀ f ∈ fs,Fit f E D) (hE:E<=60) (hD:D<=100000000000) (HP:Hid (kbe l fs)) (hel:∀ p ∈ elems l fs,Fit p E2 D2) (hE2:E2<=170) (hD2:D2<=1099511627776) (hln:(elems l fs).length<=90000) (hlv:∀ f ∈ fs,f.lv<=l) :
 Calls Tryz.prog 10 #[.slice D0 fs.length c0,.int .i64 l] w (xan (fun _=>True) (reqL l fs) 0 w):=by
 have HAT:=Lib.hid hat;have HRQ:=Lib.hid (fun (W':World) (hx:Ext w W')=>zbh (w:=W') hl hl4 (hat.ext hx) hc1 hc2 hfn hfit hE hD HP hel hE2 hD2 hln);have HFIT:=Lib.hid hfit;have HLV:=Lib.hid hlv;have hl5:¬ l < 1:=by omega
 have hl6:¬ 4 < l:=by omega
 clear hat hfit hlv hel;go_enter Tryz.func10,Tryz.ntmps10;go_wp2_with fail
 go_loopw [16] (fun iv wr=>∃ k:Nat,k<=fs.length/\iv=.int .i64 k/\Hid (Ext w wr)) (fun iv _=>fs.length - (intOf iv).toNat)
 case atStart=>exact ⟨0,Nat.zero_le _,rfl,Lib.hid (Ext.refl w)⟩
 case round =>
  obtain ⟨k,hk,rfl,HI⟩:=hrel
  by_cases hlt:k < fs.length
  · obtain ⟨ad,C0,j0,k0,C1,j1,k1,rfl,hadb,⟨g0,g1,g2,g3⟩,hpk⟩:=(HAT.out.ext HI.out).kid k hlt;have hfk:=HFIT.out fs[k] (List.getElem_mem hlt);have hlk:¬ l < fs[k].lv:=by have:=HLV.out fs[k] (List.getElem_mem hlt); omega
    obtain ⟨U,hU⟩:∃ U,(wr.alloc (.cells #[.int .i64 fs[k].lv,.bool fs[k].neg,.slice C0 j0 k0,.slice C1 j1 k1] 35))=U:=⟨_,rfl⟩;have hxU:Ext wr U:=by rw [<- hU]; exact (Ext.refl wr).alloc _
    obtain ⟨s0,s1,s2,s3⟩:jb U wr.heap.size fs[k] (.slice C0 j0 k0) (.slice C1 j1 k1):=by rw [<- hU]; exact jb.new wr fs[k] _ _ _
    have HLE:=Lib.hid (qa6 (w:=U) _ (hpk.ext hxU) (Or.inr ⟨hfk.can,hfk.copy_ (by omega),by have:=hfk.dm; omega⟩));rw [Pl.nf_of_can hfk.can] at HLE;have HXU:=Lib.hid (HI.out.trans hxU);generalize fs[k]=f at *;unfold plV at HLE;clear hadb hpk hfk hxU HI;go_wp2_with fail;clear g0 g1 g2 g3 s0 s1 s2 s3 hU;refine HLE.out.mono ?_;rintro e w2 ⟨rfl,x2⟩;have HN:=Lib.hid (HXU.out.trans x2);clear x2 HLE;go_wp2_with fail
    go_roundw
    case rel=>exact ⟨k+1,by omega,by go_num,HN.out⟩
    case measure=>simp [intOf]; omega
  · obtain rfl:k=fs.length:=by omega
    have HR:=Lib.hid (HRQ.out wr HI.out);have HX:=Lib.hid HI.out;clear HI HRQ;go_wp2_with fail;refine HR.out.mono ?_;rintro e w2 ⟨v2,rfl,⟨F0,fc,rfl,hf1,hf2,hat2⟩,x2⟩;have HF:Hid (xan (fun _=>True) (reqL l fs) 0 w (.returned (.tuple #[.slice F0 (reqL l fs).length fc,.int .i64 0])) w2):=Lib.hid ⟨_,rfl,⟨F0,fc,rfl,hf1,hf2,hat2⟩,HX.out.trans x2⟩;clear hat2 x2 HR;go_wp2_with fail;exact bodyPost_ret (v:=.tuple #[.slice F0 (reqL l fs).length fc,.int .i64 0]) (by simp [results,Tryz.results10,go_sem]) rfl HF.out
end Go.Proofs.YtklnlgnnlmdibaaGreat

/- Layer 41, plain: the fixed example of the statements about Collins' operator. -/
namespace Go.Proofs.YtklnlgnnlmdibaaGreat
theorem qco {z:Int} (h:z ≠ 0):dg z.natAbs ≠ []:=fun e=>by
 have h1:=jag (n:=z.natAbs) (by omega);rw [e] at h1;simp at h1
theorem wau {z:Int} (h:z ≠ 0):Pl.const z ≠ Pl.zero:=fun e=>by
 unfold Pl.const Pl.zero at e;injection e with _ _ e _
 exact qco h e
def qd (l:Int) (a b:Pl):Pl:=.mk l false [] [b,Pl.zero,a]
theorem kbh {l:Int} (h1:1<=l) (h4:l<=4) {a b:Pl} (ha:a.Can) (hb:b.Can) (hal:a.lv < l) (hbl:b.lv < l) (h0:a ≠ Pl.zero):(qd l a b).Can:=by
 refine qax h1 h4 (by simp) (kac fun c hc=>?_) (by simpa using h0);simp only [List.mem_cons,List.not_mem_nil,or_false] at hc;rcases hc with rfl | rfl | rfl
 · exact ⟨hbl,hb⟩
 · exact ⟨by simp only [Pl.zero,Pl.lv]; omega,Pl.zero_can⟩
 · exact ⟨hal,ha⟩
theorem jbh (ρ:Int->Rat) {l:Int} (h1:1<=l) (h4:l<=4) (a b:Pl):(qd l a b).val ρ=b.val ρ+ρ l * ρ l * a.val ρ:=by
 unfold qd;rw [Pl.mk_val ρ _ _ _ (by omega) h4,ve,ve,ve,ve,Pl.zero_val]
 grind
theorem zac (z:Int):(Pl.const z).lv=0:=rfl
def gQ:Pl:=qd 1 (Pl.const 1) (Pl.const (-1))
def fQ:Pl:=qd 2 (Pl.const 1) gQ
theorem wa6:gQ.Can:=kbh (by omega) (by omega) (uw _) (uw _) (by rw [zac]; omega) (by rw [zac]; omega) (wau (by omega))
theorem qa7:fQ.Can:=kbh (by omega) (by omega) (uw _) wa6 (by rw [zac]; omega) (by simp [gQ,qd,Pl.lv]) (wau (by omega))
theorem ga6 (ρ:Int->Rat):gQ.val ρ=ρ 1 * ρ 1 - 1:=by
 unfold gQ; rw [jbh ρ (by omega) (by omega),Pl.const_val,Pl.const_val]; push_cast; grind
theorem ucl (ρ:Int->Rat):fQ.val ρ=ρ 1 * ρ 1 - 1+ρ 2 * ρ 2:=by
 unfold fQ; rw [jbh ρ (by omega) (by omega),Pl.const_val,ga6]; push_cast; grind
theorem uce:(((Pl.var 1).pow 2).add ((Pl.var 2).pow 2)).add (Pl.const 1).opp=fQ:=Pl.val_uniq (Pl.add_can _ _) qa7 fun ρ=>by
 rw [Pl.add_val,Pl.add_val,Pl.opp_val,Pl.pow_val,Pl.pow_val,Pl.const_val,Pl.var_val' ρ (by omega) (by omega),Pl.var_val' ρ (by omega) (by omega),ucl]
 push_cast; grind
theorem vce:((Pl.var 1).pow 2).add (Pl.const 1).opp=gQ:=Pl.val_uniq (Pl.add_can _ _) wa6 fun ρ=>by
 rw [Pl.add_val,Pl.opp_val,Pl.pow_val,Pl.const_val,Pl.var_val' ρ (by omega) (by omega),ga6]
 push_cast; grind
theorem xa7:fQ.cfL 2=[gQ,Pl.zero,Pl.const 1]:=(Pl.cfL_coefs (by omega) (by omega) qa7).uniq (zav qa7 (by omega))
theorem gar:mdg 2 fQ=2:=by unfold mdg; rw [xa7]; rfl
theorem qba:ul 2 fQ=Pl.const 1:=by unfold ul; rw [xa7]; rfl
theorem xb4:xh 2 fQ=[fQ]:=by
 unfold xh; rw [gar];show uo 2 (1+1) fQ=_;rw [jac (by rw [gar]; omega),qba,if_pos (zac 1)]
theorem zcm:yag 2 fQ=true:=by
 unfold yag; rw [gar];show xai 2 (1+1) fQ=_;rw [ya0 (by rw [gar]; omega),qba,if_pos (zac 1)]
def dQ:Pl:=.mk 2 false [] [Pl.zero,Pl.const 2]
theorem xas:dQ.Can:=by
 refine qax (by omega) (by omega) (by simp) (kac fun c hc=>?_) (by simpa using wau (z:=2) (by omega));simp only [List.mem_cons,List.not_mem_nil,or_false] at hc;rcases hc with rfl | rfl
 · exact ⟨by simp only [Pl.zero,Pl.lv]; omega,Pl.zero_can⟩
 · exact ⟨by rw [zac]; omega,uw _⟩
theorem qcm (ρ:Int->Rat):dQ.val ρ=ρ 2 * 2:=by
 unfold dQ;rw [Pl.mk_val ρ _ _ _ (by omega) (by omega),ve,ve,ve,Pl.zero_val,Pl.const_val]; push_cast; grind
theorem wbw:jab 2 fQ=dQ:=Pl.val_uniq (gcc _ _) xas fun ρ=>by
 unfold jab;rw [if_pos ⟨by omega,by omega⟩,gag (by omega) (by omega),xa7,qcm];simp only [List.tail_cons,yak,ve,Pl.mul_val,Pl.zero_val,Pl.const_val]
 push_cast; grind
theorem vb4:dQ.cfL 2=[Pl.zero,Pl.const 2]:=(Pl.cfL_coefs (by omega) (by omega) xas).uniq (zav xas (by omega))
theorem yas:mdg 2 dQ=1:=by unfold mdg; rw [vb4]; rfl
def sQ:Pl:=qd 1 (Pl.const 4) (Pl.const (-4))
theorem gbz:sQ.Can:=kbh (by omega) (by omega) (uw _) (uw _) (by rw [zac]; omega) (by rw [zac]; omega) (wau (by omega))
theorem vbg (ρ:Int->Rat):sQ.val ρ=4 * (ρ 1 * ρ 1) - 4:=by
 unfold sQ; rw [jbh ρ (by omega) (by omega),Pl.const_val,Pl.const_val]; push_cast; grind
theorem ybu:zu 2 fQ dQ=sQ:=Pl.val_uniq (xat _ _ _) gbz fun ρ=>by
 have hz:dQ.opp.isZ=false:=by
  cases e:dQ.opp.isZ
  · rfl
  · exfalso
    have h1:=(Pl.zero_isZ (Pl.opp_can _)).1 e;have h2:=jbr (l:=2) (by omega) (by omega) xas;rw [h1,yas] at h2;have h3:mdg 2 Pl.zero=-1:=(gbi Pl.zero_can).2 rfl;rw [h3] at h2; omega
 unfold zu jae;rw [if_pos ⟨by omega,by omega⟩,hz,if_neg (by simp),gag (by omega) (by omega),kbr (by omega) (by omega) xas,xa7,vb4,vbg];have hg:=ga6 ρ;simp [yw,jaa,ve,Pl.mul_val,Pl.sub_val,Pl.opp_val,Pl.zero_val,Pl.const_val,hg]
 grind
theorem ubz:xaa 2 fQ dQ=[sQ]:=by
 unfold xaa;rw [gar,yas,if_neg (by omega),if_pos rfl,ybu,ybx (by omega) (by omega) gbz];have:=vbf (l:=2) (by omega) (by omega) qa7 xas (jar (l:=2) (by rw [yas]; omega));rw [ybu,yas] at this; omega
theorem xa4:elems 2 [fQ]=[Pl.const 1,sQ]:=by
 unfold elems wbu;have:xam 2 fQ=[Pl.const 1,sQ]:=by
  unfold xam qac;rw [xb4,zcm,if_pos (Or.inr rfl)];simp [qba,wbw,ubz]
 simp [this,List.range_succ]
theorem ucn:sQ.sp=[(4,⟨2,0,0,0⟩),(-4,Mo.one)]:=by
 refine (Pl.sp_uniq ?_ ?_ fun ρ=>?_).symm
 · unfold jo;refine ⟨by omega,fun x hx=>?_,?_⟩
   · rw [List.mem_singleton] at hx;subst hx;simp [Mo.lt,Mo.one]
   · unfold jo;exact ⟨by omega,by simp,by trivial⟩
 · intro x hx;simp only [List.mem_cons,List.not_mem_nil,or_false] at hx;rcases hx with rfl | rfl <;> simp [Mo.nonneg,Mo.one]
 · rw [vbg];simp only [vk,Mo.val,Mo.one];rw [show Int.toNat 2=2 from rfl,show Int.toNat 0=0 from rfl]
   push_cast
   grind
theorem gcn:snP sQ=gQ:=Pl.val_uniq (kbq _) wa6 fun ρ=>by
 have h:=vcg ρ sQ;have hd:sdv sQ.sp=4:=by rw [ucn]; rfl
 rw [hd,vbg] at h;rw [ga6]
 push_cast at h
 grind
theorem gcl:reqL 2 [fQ]=[gQ]:=by
 unfold reqL;rw [xa4];unfold putA;simp only [List.foldl_cons,List.foldl_nil];have h1:putL [] (Pl.const 1)=[]:=by unfold putL; rw [if_pos (zac 1)]
 rw [h1];unfold putL;rw [if_neg (by simp [sQ,qd,Pl.lv]),if_neg (by simp),gcn]
 rfl
end Go.Proofs.YtklnlgnnlmdibaaGreat

/- Layer 22: recpoly.Var. -/
set_option maxRecDepth 100000
set_option maxHeartbeats 8000000
namespace Go.Proofs.YtklnlgnnlmdibaaGreat
open Go.RowKit
theorem ua8 (n:Int) (w:World):Calls Tryz.prog 20 #[.int .i64 n] w (jf (fun b=>w.heap.size<=b) (Pl.var n) w):=by
 obtain ⟨W,hW⟩:∃ W,w.alloc (.cells #[.int .i64 0,.bool false,.slice none 0 0,.slice none 0 0] 35)=W:=⟨_,rfl⟩;have hWx:Ext w W:=by rw [<- hW]; exact (Ext.refl w).alloc _
 have hz:yf W w.heap.size:=by rw [<- hW]; exact yf.new w _
 have hs:=hWx.size;have hs1:W.heap.size=w.heap.size+1:=by rw [<- hW]; simp
 have HWX:=Lib.hid hWx;have HZ:=Lib.hid hz;have HL:=Lib.hid (zar n W);clear hWx hz
 by_cases h:1<=n/\n<=4
 · have hv:Pl.var n=.mk n false [] [Pl.zero,Pl.const 1]:=if_pos h;rw [hv];rw [decide_eq_true h.1,decide_eq_true h.2] at HL;clear hv;go_enter Tryz.func20,Tryz.ntmps20;go_wp2_with fail;clear hW;refine HL.out.mono ?_;rintro e w1 ⟨rfl,rfl⟩;go_wp2_with fail;refine (of_int 1 w1 (by omega) (by omega)).mono ?_;rintro e w2 ⟨z2,rfl,⟨y2,rfl,m2⟩,x2⟩;obtain ⟨C2,k2,rfl,-⟩:=id m2;have hzn:=HZ.out.ext x2 (by omega);have hs2:=x2.size
   have HF:Hid (∀ W2:World,Ext w2 W2->(∀ j,j < 8->W2.cell? ⟨w2.heap.size,j,none⟩=#[Value.int .i64 0,.bool false,.slice none 0 0,.slice none 0 0,.int .i64 0,.bool (decide ((1:Int) < 0)),.slice C2 (dg (1:Int).natAbs).length k2,.slice none 0 0][j]?)->w2.heap.size < W2.heap.size ->
    PlV W2 (fun b=>b=w2.heap.size) (.mk n false [] [Pl.zero,Pl.const 1]) (plV (.mk n false [] [Pl.zero,Pl.const 1]) (.slice none 0 0) (.slice (some ⟨w2.heap.size,0,none⟩) 2 2))):=by
    refine Lib.hid ?_;intro W2 hx hc hlt;refine PlV.mk (t:=.mk n false [] [Pl.zero,Pl.const 1]) (A:=some ⟨w2.heap.size,0,none⟩) (c:=2) (jc.nil W2) (Nat.le_refl 2) (by decide) ?_;refine ⟨⟨⟨w2.heap.size,0,none⟩,.slice none 0 0,.slice none 0 0,rfl,hlt,rfl,⟨hc 0 (by omega),hc 1 (by omega),hc 2 (by omega),hc 3 (by omega)⟩,Pl.zero_v _ _ none 0 (by decide)⟩,⟨⟨w2.heap.size,0,none⟩,.slice C2 (dg (1:Int).natAbs).length k2,.slice none 0 0,rfl,hlt,rfl,⟨?_,hc 5 (by omega),hc 6 (by omega),hc 7 (by omega)⟩,wbc _ (m2.ext hx)⟩,trivial⟩;rw [yt];exact hc 4 (by omega)
   obtain ⟨W2,hW2⟩:∃ W2,w2.alloc (.cells #[.int .i64 0,.bool false,.slice none 0 0,.slice none 0 0,.int .i64 0,.bool false,.slice C2 (dg 1).length k2,.slice none 0 0] 35)=W2:=⟨_,rfl⟩;have hx2:Ext w2 W2:=by rw [<- hW2]; exact (Ext.refl w2).alloc _
   have hpl:=HF.out W2 hx2 (fun j hj=>by
    rcases (show j=0\/j=1\/j=2\/j=3\/j=4\/j=5\/j=6\/j=7 by omega) with rfl | rfl | rfl | rfl | rfl | rfl | rfl | rfl <;> (rw [<- hW2]; simp [go_sem])) (by rw [<- hW2]; simp)
   have hzn2:=hzn.ext hx2 (by omega);have HFN:=Lib.hid (yg (q':=fun b=>w.heap.size<=b) ((HWX.out.trans x2).trans hx2) (Nat.le_refl _) hzn2 hpl (fun b _ hb=>⟨by omega,by omega⟩));obtain ⟨⟨z0,z1,z2',z3⟩,zf⟩:=hzn2;clear x2 m2 hzn hpl hx2 HF;go_wp2_with fail;exact bodyPost_ret (by simp [results,Tryz.results20,go_sem,z0,z1,z2',z3,plV,Pl.lv,Pl.neg,Pl.cs]) rfl HFN.out
 · have hv:Pl.var n=Pl.zero:=if_neg h;rw [hv];have HL2:Hid (Calls Tryz.prog 50 #[.int .i64 n] W fun e w'=>e=.returned (.bool false)/\w'=W):=by
    rw [show (decide (1<=n) && decide (n<=4))=false by simp; omega] at HL;exact HL
   have HFN:=Lib.hid (yg (q':=fun b=>w.heap.size<=b) HWX.out (Nat.le_refl _) HZ.out (Pl.zero_v W (fun b=>w.heap.size<=b/\b ≠ w.heap.size) none 0 (by decide)) (fun b _ hb=>⟨hb.2,hb.1⟩));obtain ⟨⟨z0,z1,z2',z3⟩,zf⟩:=HZ.out;clear hv HL h;go_enter Tryz.func20,Tryz.ntmps20;go_wp2_with fail;clear hW;refine HL2.out.mono ?_;rintro e w1 ⟨rfl,rfl⟩;go_wp2_with fail;exact bodyPost_ret (by simp [results,Tryz.results20,go_sem,z0,z1,z2',z3,plV,Pl.zero,Pl.lv,Pl.neg,Pl.cs]) rfl HFN.out
end Go.Proofs.YtklnlgnnlmdibaaGreat
