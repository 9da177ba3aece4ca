/- slices.Clone at []string; values of prenex forms. -/
import Derived.Test.YtaedbimbbeploaaGreatDoorBldS
import Derived.Lib.SliceRun
import Derived.Test.YtaedbimbbeploaaGreatDoorMb18
set_option linter.unusedSimpArgs false
set_option linter.unusedVariables false
set_option maxRecDepth 100000
set_option maxHeartbeats 8000000
namespace Go.Proofs.YtaedbimbbeploaaGreatDoor
open Go.RowKit
def Strs (w:World) (v:Value) (l:List ByteArray):Prop:=SlR (fun _ (s:ByteArray) x=>x=.string s) w v l
def Bools (w:World) (v:Value) (l:List Bool):Prop:=SlR (fun _ (s:Bool) x=>x=.bool s) w v l
theorem Strs.ext {w w':World} {v:Value} {l:List ByteArray} (h:Strs w v l) (hx:Ext w w'):Strs w' v l:=SlR.ext h (fun _ _ h=>h) hx
theorem Bools.ext {w w':World} {v:Value} {l:List Bool} (h:Bools w v l) (hx:Ext w w'):Bools w' v l:=SlR.ext h (fun _ _ h=>h) hx
theorem xcf {base:Nat} {w:World} {v:Value} {l:List ByteArray} (h:zh 9 1 base w v l.length (strs l)):Strs w v l:=ug.slr h.1
theorem SNm.strs_ {base:Nat} {w:World} {v:Value} {l:List ByteArray} {o:Option Nat} (h:SNm base w v l o):Strs w v l:=by
 rcases h with ⟨h,-⟩ | ⟨rfl,-,A,rfl⟩
 · exact xcf h
 · exact ⟨A,0,rfl,by simp,by simp,fun j hj=>absurd hj (by simp)⟩
theorem kb7 {base:Nat} {w:World} {v:Value} {l:List Bool} (h:zh 4 1 base w v l.length (bools l)):Bools w v l:=by
 rcases Nat.eq_zero_or_pos l.length with h0 | h0
 · obtain ⟨A,c,rfl,h1,h2⟩:=h.len;exact ⟨A,c,rfl,h1,h2,fun j hj=>by omega⟩
 · obtain ⟨g,c,rfl,h1,h2,h3,h4,-⟩:=h.pos h0;refine ⟨_,c,rfl,h1,h2,fun j hj=>⟨_,_,rfl,h4,?_,rfl⟩⟩;rw [gp,Nat.zero_add,h.cell j (by omega)];simp [bools,hj]
theorem clone_any {w:World} {v:Value} {l:List ByteArray} (h:Strs w v l) (hl:l.length<=1000000):Calls Tryz.prog 48 #[v] w fun e w'=>∃ v',e=.returned v'/\zh 9 1 w.heap.size w' v' l.length (strs l)/\Ext w w':=by
 obtain ⟨A,c,rfl,h1,h2,h3⟩:=h;cases A with
 | none =>
   have h0:l=[]:=by
    cases l with
    | nil=>rfl
    | cons a r=>obtain ⟨ad,x,e,-⟩:=h3 0 (by simp); cases e
   subst h0;have he:=Lib.run_eql_slice_nil (P:=Tryz.prog) w 39 9 none 0 c 0 0 vaj.und;go_enter Tryz.func48,Tryz.ntmps48;go_wp2_with fail;go_ret;exact ⟨_,rfl,zh.nil _ _ _ _,Ext.refl w⟩
 | some ad =>
   obtain ⟨W,hW⟩:∃ W,w.alloc (.cells #[] 9)=W:=⟨_,rfl⟩;have hWx:Ext w W:=by rw [<- hW]; exact (Ext.refl w).alloc _
   have hrow:zh 9 1 w.heap.size W (.slice (some ⟨w.heap.size,0,none⟩) 0 0) 0 []:=by
    rw [<- hW];refine ⟨World.ownsRow_made w #[] 0 (Nat.le_refl _) (by unfold maxLen; omega) (by simp),fun R cur T fr e hb u hu=>?_⟩;have hR:w.heap.size=R:=by simpa [Value.ownBlock] using e
    rw [<- hR,heap_alloc_new] at hb;injection hb with hb
    injection hb with hb
    rw [<- hb] at hu;simp at hu
   have hrun:∃ v4 w4,(Builtin.append_ #[39,39] 39 #[.slice (some ⟨w.heap.size,0,none⟩) 0 0,.slice (some ad) l.length c]).run Tryz.prog W=.ok v4 w4/\zh 9 1 w.heap.size w4 v4 l.length (strs l)/\Ext w w4:=by
    rcases Nat.eq_zero_or_pos l.length with h0 | h0
    · have:l=[]:=List.eq_nil_of_length_eq_zero h0;subst this;refine ⟨.slice (some ⟨w.heap.size,0,none⟩) 0 0,W,?_,hrow,hWx⟩;obtain ⟨i0,hi,hz0,hz1,hz2⟩:=info_parts vaj.info;simp [Builtin.append_,run_underlying vaj.und,sizeOf,typeInfo,hi,Builtin.lenOf,Builtin.firstCells,loadCells,loadCellsFrom,storeCells]
    · obtain ⟨v4,w4,e,r1,r2,-,-⟩:=zh.append vaj hrow hWx.size ad l.length c (strs l) (by simp [strs]) (fun j u hu=>by
       have hj:j < l.length:=by
        rcases Nat.lt_or_ge j l.length with h | h
        · exact h
        · rw [List.getElem?_eq_none (by simpa [strs] using h)] at hu; cases hu
       obtain ⟨ad',x,e,hb,hc,hx⟩:=h3 j hj;injection e with e
       subst e hx;rw [hWx.cell (p:=ad.add j) (by rw [ja]; exact hb),hc,<- hu];simp [strs,hj]) (fun u hu=>by
       simp only [strs,List.mem_map] at hu;obtain ⟨s,-,rfl⟩:=hu
       exact ⟨rfl,rfl⟩) h0 (by omega) (by omega) 39
      refine ⟨v4,w4,e,by simpa using r1,?_⟩;exact jaq hWx r2 (fun R hR=>by have:=(hrow.own hR).1; omega)
   obtain ⟨v4,w4,hr,hg,hx⟩:=hrun;have HRUN:=Lib.hid hr;have HF:Hid (zh 9 1 w.heap.size w4 v4 l.length (strs l)/\Ext w w4):=Lib.hid ⟨hg,hx⟩;have he:=Lib.run_eql_slice_nil (P:=Tryz.prog) w 39 9 (some ad) l.length c 0 0 vaj.und;clear hr hg hx hrow hWx h3;go_enter Tryz.func48,Tryz.ntmps48;go_upto_region 3 with fail;clear he
   iterate 16 (first | at_builtin | go_values | go_skip | go_guarded | go_step | go_upon | go_back | go_simp)
   refine wpList_append_run rfl (.tmp 5) (.tmp 6) _ _ rfl _ _ _ _ rfl rfl HRUN.out ?_;clear HRUN;go_wp2_with fail;go_ret;exact ⟨_,rfl,HF.out⟩
/- Layer 38: prenex forms as values. -/
def pxC (fr:Int) (all nms:Value) (m:Mx) (s A K:Value):Value:=.agg #[.int .i64 fr,all,nms,.int .i64 m.kind,.int .i64 m.rel,.int .i64 m.p.lv,.bool m.p.neg,s,A,K]
def PxV (w:World) (q:Nat->Prop) (fr:Int) (all:List Bool) (nms:List ByteArray) (m:Mx) (v:Value):Prop:=
 ∃ A1 c1 A2 c2 A0 n0 c0 B n1 c3 K n2 c4,v=pxC fr (.slice A1 all.length c1) (.slice A2 nms.length c2) m (.slice A0 n0 c0) (.slice B n1 c3) (.slice K n2 c4)/\Bools w (.slice A1 all.length c1) all/\Strs w (.slice A2 nms.length c2) nms/\MxV w q m (mxV m (.slice A0 n0 c0) (.slice B n1 c3) (.slice K n2 c4))
theorem SlR.turn {α:Type} {P:α->Value->Prop} {w w':World} {A:Option Addr} {n c:Nat} {l:List α} (h:SlR (fun _=>P) w (.slice A n c) l) (hs:w.heap.size<=w'.heap.size) (hb:∀ ad,A=some ad->0 < l.length->w'.heap[ad.block]?=w.heap[ad.block]?):SlR (fun _=>P) w' (.slice A n c) l:=by
 obtain ⟨A',c',e,h1,h2,h3⟩:=h;injection e with e1 e2 e3
 subst e1 e2 e3;refine ⟨A,c,rfl,h1,h2,fun j hj=>?_⟩;obtain ⟨ad,x,rfl,hlt,hc,hp⟩:=h3 j hj;exact ⟨ad,x,rfl,Nat.lt_of_lt_of_le hlt hs,(World.cell?_of_block (a:=ad.add j) (by rw [ja]; exact hb ad rfl (by omega))).trans hc,hp⟩
theorem PxV.ext {w w':World} {q:Nat->Prop} {fr:Int} {all:List Bool} {nms:List ByteArray} {m:Mx} {v:Value} (h:PxV w q fr all nms m v) (hx:Ext w w'):PxV w' q fr all nms m v:=by
 obtain ⟨A1,c1,A2,c2,A0,n0,c0,B,n1,c3,K,n2,c4,e,h1,h2,h3⟩:=h;exact ⟨A1,c1,A2,c2,A0,n0,c0,B,n1,c3,K,n2,c4,e,h1.ext hx,h2.ext hx,h3.ext hx⟩
theorem qaz (b : Nat) : ∀ (vs : List Value) (o : Nat) (w : World), (∀ j, j < vs.length -> ∃ u, w.cell? ⟨b, o + j, none⟩ = some u /\ yaa u = false) -> ∀ x ds, jb w x ds -> jb (w.setCells b o vs) x ds
 | [],o,w,_,x,ds,h=>h
 | v :: vs,o,w,hu,x,ds,h=>by
   obtain ⟨u,h1,h2⟩:=hu 0 (by simp);refine qaz b vs (o+1) (w.setCell ⟨b,o,none⟩ v) (fun j hj=>?_) x ds (h.box h1 h2 v);obtain ⟨u',h3,h4⟩:=hu (j+1) (by simpa using hj);refine ⟨u',?_,h4⟩;rw [World.cell?_setCell_other _ _ _ _ (by intro e; injection e; omega),<- h3]
   congr 2; omega
theorem ua1 {w : World} {b : Nat} (hb : w.heap.size <= b) : ∀ (vs : List Value) (o : Nat) (w' : World), Ext w w' -> Ext w (w'.setCells b o vs)
 | [],o,w',h=>h
 | v :: vs,o,w',h=>ua1 hb vs (o+1) (w'.setCell ⟨b,o,none⟩ v) (h.setCell hb v)
theorem yap {b i : Nat} (hne : i ≠ b) : ∀ (vs : List Value) (o : Nat) (w : World), (w.setCells b o vs).heap[i]? = w.heap[i]?
 | [],o,w=>rfl
 | v :: vs,o,w=>(yap hne vs (o+1) (w.setCell ⟨b,o,none⟩ v)).trans (Below.heap_setCell w _ v i hne)
theorem size_setCells {b : Nat} : ∀ (vs : List Value) (o : Nat) (w : World), (w.setCells b o vs).heap.size = w.heap.size
 | [],o,w=>rfl
 | v :: vs,o,w=>(size_setCells vs (o+1) (w.setCell ⟨b,o,none⟩ v)).trans (by simp [World.setCell])
def wa8 (W:World) (g:Nat) (u0 u1 u2 u3 u4 u5 u6 u7 u8 u9:Value):World:=
 (((((((((W.setCell ⟨g,0,none⟩ u0).setCell ⟨g,1,none⟩ u1).setCell ⟨g,2,none⟩ u2).setCell ⟨g,3,none⟩ u3).setCell ⟨g,4,none⟩ u4).setCell ⟨g,5,none⟩ u5).setCell ⟨g,6,none⟩ u6).setCell ⟨g,7,none⟩ u7).setCell ⟨g,8,none⟩ u8).setCell ⟨g,9,none⟩ u9
theorem ya4 (W:World) (g:Nat) (u0 u1 u2 u3 u4 u5 u6 u7 u8 u9:Value):wa8 W g u0 u1 u2 u3 u4 u5 u6 u7 u8 u9=W.setCells g 0 [u0,u1,u2,u3,u4,u5,u6,u7,u8,u9]:=rfl
theorem ucm {w Wf : World} {g : Nat} {q q' : Nat -> Prop} {fr : Int} {all : List Bool} {nms : List ByteArray} {m : Mx} {A1 A2 A0 B K : Option Addr} {c1 c2 n0 c0 n1 c3 n2 c4 : Nat} (hx : Ext w Wf) (hg : w.heap.size <= g) (hz : ∀ j, j < 10 -> ∃ u, Wf.cell? ⟨g, j, none⟩ = some u /\ yaa u = false)
 (h1:Bools Wf (.slice A1 all.length c1) all) (k1:∀ ad,A1=some ad->0 < all.length->ad.block ≠ g) (h2:Strs Wf (.slice A2 nms.length c2) nms) (k2:∀ ad,A2=some ad->0 < nms.length->ad.block ≠ g)
 (hm:MxV Wf q m (mxV m (.slice A0 n0 c0) (.slice B n1 c3) (.slice K n2 c4))) (hq:∀ b,b < Wf.heap.size->q b->b ≠ g/\q' b) :
 Ext w (wa8 Wf g (.int .i64 fr) (.slice A1 all.length c1) (.slice A2 nms.length c2) (.int .i64 m.kind) (.int .i64 m.rel) (.int .i64 m.p.lv) (.bool m.p.neg) (.slice A0 n0 c0) (.slice B n1 c3) (.slice K n2 c4)) /\
 PxV (wa8 Wf g (.int .i64 fr) (.slice A1 all.length c1) (.slice A2 nms.length c2) (.int .i64 m.kind) (.int .i64 m.rel) (.int .i64 m.p.lv) (.bool m.p.neg) (.slice A0 n0 c0) (.slice B n1 c3) (.slice K n2 c4)) q' fr all nms m (pxC fr (.slice A1 all.length c1) (.slice A2 nms.length c2) m (.slice A0 n0 c0) (.slice B n1 c3) (.slice K n2 c4)):=by
 rw [ya4];have hb:∀ i,i ≠ g->(Wf.setCells g 0 [.int .i64 fr,.slice A1 all.length c1,.slice A2 nms.length c2,.int .i64 m.kind,.int .i64 m.rel,.int .i64 m.p.lv,.bool m.p.neg,.slice A0 n0 c0,.slice B n1 c3,.slice K n2 c4]).heap[i]?=Wf.heap[i]?:=fun i hi=>yap hi _ _ _
 have hs:=size_setCells (b:=g) [.int .i64 fr,.slice A1 all.length c1,.slice A2 nms.length c2,.int .i64 m.kind,.int .i64 m.rel,.int .i64 m.p.lv,.bool m.p.neg,.slice A0 n0 c0,.slice B n1 c3,.slice K n2 c4] 0 Wf;have hn:=qaz g [.int .i64 fr,.slice A1 all.length c1,.slice A2 nms.length c2,.int .i64 m.kind,.int .i64 m.rel,.int .i64 m.p.lv,.bool m.p.neg,.slice A0 n0 c0,.slice B n1 c3,.slice K n2 c4] 0 Wf (fun j hj=>by rw [Nat.zero_add]; exact hz j (by simpa using hj));have hxx:=ua1 hg [.int .i64 fr,.slice A1 all.length c1,.slice A2 nms.length c2,.int .i64 m.kind,.int .i64 m.rel,.int .i64 m.p.lv,.bool m.p.neg,.slice A0 n0 c0,.slice B n1 c3,.slice K n2 c4] 0 Wf hx;generalize Wf.setCells g 0 [.int .i64 fr,.slice A1 all.length c1,.slice A2 nms.length c2,.int .i64 m.kind,.int .i64 m.rel,.int .i64 m.p.lv,.bool m.p.neg,.slice A0 n0 c0,.slice B n1 c3,.slice K n2 c4]=W' at *;exact ⟨hxx,_,_,_,_,_,_,_,_,_,_,_,_,_,rfl,SlR.turn h1 (by omega) (fun ad e h=>hb _ (k1 ad e h)),SlR.turn h2 (by omega) (fun ad e h=>hb _ (k2 ad e h)),MxV.turn_ (by omega) hn (fun b hlt hqb=>⟨(hq b hlt hqb).2,hb b (hq b hlt hqb).1⟩) hm⟩
/- Reference 38: FewForm: is a prenex form of a size that is looked at? -/
set_option maxRecDepth 100000
set_option maxHeartbeats 8000000
def wal (s:ByteArray):Bool:=decide (s.size<=40)
def jai (all:List Bool) (nms:List ByteArray) (m:Mx) (n:Nat):Bool:=(decide (nms.length<=8) && nms.all wal) && (decide (all.length<=8) && m.few n)
theorem wcl {all:List Bool} {nms:List ByteArray} {m:Mx} {n:Nat} (k:Nat) (hk:k < nms.length) (h:wal nms[k]=false):jai all nms m n=false:=by
 unfold jai;rw [Bool.and_eq_false_iff];refine .inl ?_;rw [Bool.and_eq_false_iff];exact .inr (List.all_eq_false.2 ⟨nms[k],List.getElem_mem hk,by rw [h]; simp⟩)
theorem kb4 (w:World) (T:TypeId) (v0 v1 v2 v3 v4 v5 v6 v7 v8 v9:Value):∀ W,w.alloc (.cells #[v0,v1,v2,v3,v4,v5,v6,v7,v8,v9] T)=W->Ext w W/\W.heap.size=w.heap.size+1/\(W.cell? ⟨w.heap.size,0,none⟩=some v0/\W.cell? ⟨w.heap.size,1,none⟩=some v1/\W.cell? ⟨w.heap.size,2,none⟩=some v2/\W.cell? ⟨w.heap.size,3,none⟩=some v3/\W.cell? ⟨w.heap.size,4,none⟩=some v4/\W.cell? ⟨w.heap.size,5,none⟩=some v5/\W.cell? ⟨w.heap.size,6,none⟩=some v6/\W.cell? ⟨w.heap.size,7,none⟩=some v7/\W.cell? ⟨w.heap.size,8,none⟩=some v8/\W.cell? ⟨w.heap.size,9,none⟩=some v9):=by
 rintro W rfl;refine ⟨(Ext.refl w).alloc _,by simp,?_,?_,?_,?_,?_,?_,?_,?_,?_,?_⟩ <;> simp [go_sem]
theorem zcm {w:World} {q:Nat->Prop} {fr:Int} {all:List Bool} {nms:List ByteArray} {m:Mx} {v:Value} (n:Nat) (hn:n<=1000000) (h:PxV w q fr all nms m v):Calls Tryz.prog 26 #[v,.int .i64 n] w (qaj (jai all nms m n) w):=by
 obtain ⟨A1,c1,A2,c2,A0,n0,c0,B,n1,c3,K,n2,c4,rfl,hb1,hs1,hm1⟩:=h;have HS:=Lib.hid hs1;have HM:Hid (∀ w',Ext w w'->Calls Tryz.prog 73 #[mxV m (.slice A0 n0 c0) (.slice B n1 c3) (.slice K n2 c4),.int .i64 n] w' fun e w''=>e=.returned (.bool (m.few n))/\Ext w' w''):=Lib.hid (fun w' hx=>wcb n hn m _ w' (hm1.ext hx));unfold mxV at HM;obtain ⟨A',c',e',l1,l2,-⟩:=id hs1;injection e' with e1 e2 e3
 subst e1 e3;obtain ⟨A',c',e',l3,l4,-⟩:=id hb1;injection e' with e1 e2 e3
 subst e1 e3;clear e2 hs1 hb1 hm1;obtain ⟨W,hW⟩:∃ W,w.alloc (.cells #[.int .i64 fr,.slice A1 all.length c1,.slice A2 nms.length c2,.int .i64 m.kind,.int .i64 m.rel,.int .i64 m.p.lv,.bool m.p.neg,.slice A0 n0 c0,.slice B n1 c3,.slice K n2 c4] 47)=W:=⟨_,rfl⟩;obtain ⟨hx,hsz,b0,b1,b2,b3,b4,b5,b6,b7,b8,b9⟩:=kb4 w _ _ _ _ _ _ _ _ _ _ _ W hW;have HWX:=Lib.hid hx;have HB:Hid (∀ wr,Ext W wr->wr.cell? ⟨w.heap.size,1,none⟩=some (.slice A1 all.length c1)/\wr.cell? ⟨w.heap.size,2,none⟩=some (.slice A2 nms.length c2)/\(wr.cell? ⟨w.heap.size,3,none⟩=some (.int .i64 m.kind)/\wr.cell? ⟨w.heap.size,4,none⟩=some (.int .i64 m.rel)/\wr.cell? ⟨w.heap.size,5,none⟩=some (.int .i64 m.p.lv)/\wr.cell? ⟨w.heap.size,6,none⟩=some (.bool m.p.neg)/\wr.cell? ⟨w.heap.size,7,none⟩=some (.slice A0 n0 c0)/\wr.cell? ⟨w.heap.size,8,none⟩=some (.slice B n1 c3)/\wr.cell? ⟨w.heap.size,9,none⟩=some (.slice K n2 c4))):=Lib.hid (by
  intro wr hxx;have k:∀ j,wr.cell? ⟨w.heap.size,j,none⟩=W.cell? ⟨w.heap.size,j,none⟩:=fun j=>hxx.cell (p:=⟨w.heap.size,j,none⟩) (by show w.heap.size < _; omega)
  exact ⟨(k 1).trans b1,(k 2).trans b2,(k 3).trans b3,(k 4).trans b4,(k 5).trans b5,(k 6).trans b6,(k 7).trans b7,(k 8).trans b8,(k 9).trans b9⟩)
 clear hx hsz b0 b1 b3 b4 b5 b6 b7 b8 b9;unfold pxC;go_enter Tryz.func26,Tryz.ntmps26;go_wp2_with fail;clear hW b2
 go_loopw [9] (fun iv wr=>∃ k:Nat,k<=nms.length/\k<=8/\iv=.int .i64 k/\Hid ((nms.take k).all wal=true/\Ext W wr)) (fun iv _=>nms.length - (intOf iv).toNat)
 case atStart=>exact ⟨0,Nat.zero_le _,by omega,rfl,⟨by simp,Ext.refl W⟩⟩
 case round =>
  obtain ⟨k,hk,hk8,rfl,⟨hall,hx⟩⟩:=hrel;have HA:=Lib.hid hall;have HX:=Lib.hid hx;clear hall hx;obtain ⟨b1,b2,b3,b4,b5,b6,b7,b8,b9⟩:=HB.out wr HX.out
  by_cases hlt:k < nms.length
  · by_cases h8:8<=k
    · have hd8:decide ((8:Int)<=(k:Int))=true:=by simp; omega
      have HF:Hid (jai all nms m n=false):=by
       have:jai all nms m n=false:=by unfold jai; simp; intro h; omega
       exact this
      go_wp2_with fail;go_ret;exact ⟨by rw [HF.out]; rfl,HWX.out.trans HX.out⟩
    · have hd8:decide ((8:Int)<=(k:Int))=false:=by simp; omega
      obtain ⟨A',c',e',-,-,h3⟩:=HS.out.ext (HWX.out.trans HX.out);injection e' with e1 e2 e3
      obtain ⟨ad,x,e4,hb,a0,rfl⟩:=h3 k hlt;obtain rfl:A2=some ad:=e1.trans e4;clear h3 e1 e3 e4;have HOK:Hid (wal nms[k]=decide (nms[k].size<=40)):=rfl;have HBAD:Hid (wal nms[k]=false->jai all nms m n=false):=wcl k hlt;have HTK:Hid ((nms.take (k+1)).all wal=((nms.take k).all wal && wal nms[k])):=by
       have:(nms.take (k+1)).all wal=((nms.take k).all wal && wal nms[k]):=by rw [List.take_succ_eq_append_getElem hlt,List.all_append]; simp
       exact this
      generalize nms[k]=s at *
      by_cases hs:s.size<=40
      · have h40:decide ((40:Int) < (s.size:Int))=false:=by simp; omega
        have HN:Hid ((nms.take (k+1)).all wal=true):=by
         have:(nms.take (k+1)).all wal=true:=by rw [HTK.out,HA.out,HOK.out,decide_eq_true hs]; rfl
         exact this
        clear hs;go_wp2_with fail
        go_roundw
        case rel=>exact ⟨k+1,by omega,by omega,by go_num,⟨HN.out,HX.out⟩⟩
        case measure=>simp [intOf]; omega
      · have h40:decide ((40:Int) < (s.size:Int))=true:=by simp; omega
        have HF:Hid (jai all nms m n=false):=by
         have:jai all nms m n=false:=HBAD.out (by rw [HOK.out]; simp; omega);exact this
        clear hs;go_wp2_with fail;go_ret;exact ⟨by rw [HF.out]; rfl,HWX.out.trans HX.out⟩
  · have hke:k=nms.length:=by omega
    have HA2:Hid ((decide (nms.length<=8) && nms.all wal)=true):=by
     have hA:=HA.out;rw [hke,List.take_length] at hA;have:(decide (nms.length<=8) && nms.all wal)=true:=by rw [hA]; simp; omega
     exact this
    by_cases ha:all.length<=8
    · have hd:decide ((all.length:Int)<=8)=true:=by simp; omega
      have HF:Hid (jai all nms m n=m.few n):=by
       have:jai all nms m n=m.few n:=by unfold jai; rw [HA2.out,decide_eq_true ha]; simp
       exact this
      clear ha;go_wp2_with fail;refine (HM.out _ (HWX.out.trans HX.out)).mono ?_;rintro e w2 ⟨rfl,x2⟩;have X2:=Lib.hid x2;clear x2;go_wp2_with fail;go_ret;exact ⟨by rw [HF.out]; rfl,(HWX.out.trans HX.out).trans X2.out⟩
    · have hd:decide ((all.length:Int)<=8)=false:=by simp; omega
      have HF:Hid (jai all nms m n=false):=by
       have:jai all nms m n=false:=by unfold jai; rw [decide_eq_false ha]; simp
       exact this
      clear ha;go_wp2_with fail;go_ret;exact ⟨by rw [HF.out]; rfl,HWX.out.trans HX.out⟩
end Go.Proofs.YtaedbimbbeploaaGreatDoor
