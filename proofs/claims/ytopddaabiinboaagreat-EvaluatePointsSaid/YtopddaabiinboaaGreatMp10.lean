/- Rows of polynomials that a call makes and fills; what a call that returns a polynomial leaves. -/
import Derived.Test.YtopddaabiinboaaGreatMp9
import Derived.Sort.Grow
import Derived.Test.YtopddaabiinboaaGreatMp5
set_option linter.unusedSimpArgs false
set_option linter.unusedVariables false

namespace Go.Proofs.YtopddaabiinboaaGreat
open Go.RowKit
def vc4 (q:Nat->Prop) (p:Pl) (w:World) (e:Ending) (w':World):Prop:=∃ v,e=.returned v/\PlV w' q p v/\Ext w w'
theorem Pl.zero_v (w:World) (q:Nat->Prop) (A:Option Addr) (c:Nat) (hc:c<=9223372036854775807):PlV w q Pl.zero (plV Pl.zero (.slice none 0 0) (.slice A 0 c)):=
 PlV.mk (t:=Pl.zero) (c:=c) (vc2.nil w) (by simp [Pl.zero,Pl.cs]) hc (by unfold Pl.zero Pl.cs kc3; trivial)
def qgu (W:World) (q:Nat->Prop) (R:Nat) (l:List Pl):Prop:=
 R < W.heap.size/\(∀ i,W.frozen? ⟨R,i,none⟩=false)/\∀ i (h:i < l.length),∃ A0 n0 c0 A1 n1 c1,xgu W ⟨R,i * 4,none⟩ l[i] (.slice A0 n0 c0) (.slice A1 n1 c1)/\PlV W (fun b=>q b/\b ≠ R) l[i] (plV l[i] (.slice A0 n0 c0) (.slice A1 n1 c1))
section
variable {W W':World} {q q':Nat->Prop} {R:Nat} {l:List Pl}
theorem qgu.ext (h:qgu W q R l) (hx:Ext W W'):qgu W' q R l:=by
 obtain ⟨h1,h2,h3⟩:=h;refine ⟨Nat.lt_of_lt_of_le h1 hx.size,fun i=>(hx.frozen (p:=⟨R,i,none⟩) h1).trans (h2 i),fun i hi=>?_⟩;obtain ⟨A0,n0,c0,A1,n1,c1,h4,h5⟩:=h3 i hi;exact ⟨A0,n0,c0,A1,n1,c1,h4.ext hx h1,h5.ext hx⟩
theorem qgu.fin (h:qgu W q R l) (hR:q R):kc3 W q l (some ⟨R,0,none⟩) 0:=by
 obtain ⟨h1,h2,h3⟩:=h;refine kc3.of l _ 0 fun i hi=>?_
 obtain ⟨A0,n0,c0,A1,n1,c1,h4,h5⟩:=h3 i hi;refine ⟨⟨R,0,none⟩,_,_,rfl,h1,hR,?_,h5.mono fun b hb=>hb.1⟩;rw [zc9,Nat.zero_add,Nat.zero_add];exact h4
theorem qgu.set_ (h:qgu W q R l) (k:Nat) (hk:k < l.length) (p:Pl) {A0 A1:Option Addr} {n0 c0 n1 c1:Nat} (hp:PlV W (fun b=>q b/\b ≠ R) p (plV p (.slice A0 n0 c0) (.slice A1 n1 c1))) :
 qgu ((((W.setCell ⟨R,k * 4,none⟩ (.int .i64 p.lv)).setCell ⟨R,k * 4+1,none⟩ (.bool p.neg)).setCell ⟨R,k * 4+2,none⟩ (.slice A0 n0 c0)).setCell ⟨R,k * 4+3,none⟩ (.slice A1 n1 c1)) q R (l.set k p) /\
 ∀ v ds,vc2 W v ds->vc2 ((((W.setCell ⟨R,k * 4,none⟩ (.int .i64 p.lv)).setCell ⟨R,k * 4+1,none⟩ (.bool p.neg)).setCell ⟨R,k * 4+2,none⟩ (.slice A0 n0 c0)).setCell ⟨R,k * 4+3,none⟩ (.slice A1 n1 c1)) v ds:=by
 obtain ⟨h1,h2,h3⟩:=h;obtain ⟨B0,m0,d0,B1,m1,d1,⟨g0,g1,g2,g3⟩,-⟩:=h3 k hk;simp only at g0 g1 g2 g3;obtain ⟨W1,hW1⟩:=n_m (W.setCell ⟨R,k * 4,none⟩ (.int .i64 p.lv));obtain ⟨W2,hW2⟩:=n_m (W1.setCell ⟨R,k * 4+1,none⟩ (.bool p.neg));obtain ⟨W3,hW3⟩:=n_m (W2.setCell ⟨R,k * 4+2,none⟩ (.slice A0 n0 c0));obtain ⟨W4,hW4⟩:=n_m (W3.setCell ⟨R,k * 4+3,none⟩ (.slice A1 n1 c1));rw [hW1,hW2,hW3,hW4];have e1:∀ i,i ≠ k * 4->W1.cell? ⟨R,i,none⟩=W.cell? ⟨R,i,none⟩:=fun i hi=>by rw [<- hW1,World.cell?_setCell_other _ _ _ _ (by intro e; injection e; omega)]
 have e2:∀ i,i ≠ k * 4+1->W2.cell? ⟨R,i,none⟩=W1.cell? ⟨R,i,none⟩:=fun i hi=>by rw [<- hW2,World.cell?_setCell_other _ _ _ _ (by intro e; injection e; omega)]
 have e3:∀ i,i ≠ k * 4+2->W3.cell? ⟨R,i,none⟩=W2.cell? ⟨R,i,none⟩:=fun i hi=>by rw [<- hW3,World.cell?_setCell_other _ _ _ _ (by intro e; injection e; omega)]
 have e4:∀ i,i ≠ k * 4+3->W4.cell? ⟨R,i,none⟩=W3.cell? ⟨R,i,none⟩:=fun i hi=>by rw [<- hW4,World.cell?_setCell_other _ _ _ _ (by intro e; injection e; omega)]
 have s1:W1.cell? ⟨R,k * 4,none⟩=some (.int .i64 p.lv):=by rw [<- hW1]; exact World.cell?_setCell_same _ _ _ g0
 have q1:W1.cell? ⟨R,k * 4+1,none⟩=some (.bool l[k].neg):=(e1 _ (by omega)).trans g1;have s2:W2.cell? ⟨R,k * 4+1,none⟩=some (.bool p.neg):=by rw [<- hW2]; exact World.cell?_setCell_same _ _ _ q1
 have q2:W2.cell? ⟨R,k * 4+2,none⟩=some (.slice B0 m0 d0):=((e2 _ (by omega)).trans (e1 _ (by omega))).trans g2;have s3:W3.cell? ⟨R,k * 4+2,none⟩=some (.slice A0 n0 c0):=by rw [<- hW3]; exact World.cell?_setCell_same _ _ _ q2
 have q3:W3.cell? ⟨R,k * 4+3,none⟩=some (.slice B1 m1 d1):=((e3 _ (by omega)).trans ((e2 _ (by omega)).trans (e1 _ (by omega)))).trans g3;have s4:W4.cell? ⟨R,k * 4+3,none⟩=some (.slice A1 n1 c1):=by rw [<- hW4]; exact World.cell?_setCell_same _ _ _ q3
 have hnat:∀ v ds,vc2 W v ds->vc2 W4 v ds:=fun v ds hv=>by
  rw [<- hW4];refine vc2.box ?_ q3 rfl _;rw [<- hW3];refine vc2.box ?_ q2 rfl _;rw [<- hW2];refine vc2.box ?_ q1 rfl _;rw [<- hW1];exact hv.box g0 rfl _
 have hother:∀ b,b ≠ R->W4.heap[b]?=W.heap[b]?:=fun b hb=>by
  rw [<- hW4,<- hW3,<- hW2,<- hW1];rw [Below.heap_setCell _ _ _ b hb,Below.heap_setCell _ _ _ b hb,Below.heap_setCell _ _ _ b hb,Below.heap_setCell _ _ _ b hb]
 have hsz:W4.heap.size=W.heap.size:=by rw [<- hW4,<- hW3,<- hW2,<- hW1]; simp [World.setCell]
 have hfr:∀ i,W4.frozen? ⟨R,i,none⟩=false:=fun i=>by rw [<- hW4,<- hW3,<- hW2,<- hW1]; simp only [World.frozen?_setCell]; exact h2 i
 refine ⟨⟨by omega,hfr,fun i hi=>?_⟩,hnat⟩;rw [List.length_set] at hi;have keep:∀ t v,PlV W (fun b=>q b/\b ≠ R) t v->PlV W4 (fun b=>q b/\b ≠ R) t v:=fun t v ht=>PlV.turn_ (by omega) hnat (fun b hb hq=>⟨hq,hother b hq.2⟩) ht
 by_cases hik:i=k
 · subst hik;rw [List.getElem_set_self];refine ⟨A0,n0,c0,A1,n1,c1,⟨?_,?_,?_,s4⟩,keep _ _ hp⟩
   · exact (e4 (i * 4) (by omega)).trans ((e3 (i * 4) (by omega)).trans ((e2 (i * 4) (by omega)).trans s1))
   · exact (e4 (i * 4+1) (by omega)).trans ((e3 (i * 4+1) (by omega)).trans s2)
   · exact (e4 (i * 4+2) (by omega)).trans s3
 · rw [List.getElem_set_ne (Ne.symm hik)];obtain ⟨C0,j0,f0,C1,j1,f1,h4,h5⟩:=h3 i hi;have far:∀ j,j < 4->W4.cell? ⟨R,i * 4+j,none⟩=W.cell? ⟨R,i * 4+j,none⟩:=fun j hj=>(e4 _ (by omega)).trans ((e3 _ (by omega)).trans ((e2 _ (by omega)).trans (e1 _ (by omega))))
   exact ⟨C0,j0,f0,C1,j1,f1,h4.same (far 0 (by omega)) (fun n hn=>far n hn),keep _ _ h5⟩
end
theorem khp:(Tryz.prog.info? 30).map (fun i=>(i.zero,i.size,i.bytes))=some (some (.agg #[.int .i64 0,.bool false,.slice none 0 0,.slice none 0 0]),4,64):=by kernel_rfl
theorem jgu (n:Int) (h0:0<=n) (h1:n<=1099511627776) (w:World) :
 ∃ w',(Instr.makeSlice 28 (.int .i64 n) (.int .i64 n)).run Tryz.prog w=.ok (.slice (some ⟨w.heap.size,0,none⟩) n.toNat n.toNat) w'/\Ext w w'/\w'.heap.size=w.heap.size+1/\∀ q,qgu w' q w.heap.size (List.replicate n.toNat Pl.zero):=by
 obtain ⟨i0,hi,hz0,hz1,hz2⟩:=info_parts khp;refine ⟨_,run_make w 28 30 i0 _ Tryz.underlying28 hi hz0 .i64 .i64 n n h0 (by omega) (by rw [hz2]; omega) (by omega),(Ext.refl w).alloc _,by simp,fun q=>⟨by simp,fun i=>by simp [go_sem],fun i hi2=>?_⟩⟩;rw [List.length_replicate] at hi2;have hc:∀ j,j < 4->(w.alloc (.cells (madeCells (Value.agg #[.int .i64 0,.bool false,.slice none 0 0,.slice none 0 0]).cells (n.toNat * i0.size)) 30)).cell? ⟨w.heap.size,i * 4+j,none⟩=#[Value.int .i64 0,.bool false,.slice none 0 0,.slice none 0 0][j]?:=by
  intro j hj;have hlt:i * 4+j < n.toNat * 4:=by omega
  have hmod:(i * 4+j) % 4=j:=by omega
  rw [cell_of_row _ _ (i * 4+j) _ _ (0,0) (heap_alloc_new w _)];rw [hz1];unfold madeCells;rw [Array.getElem?_map,Array.getElem?_range,if_pos hlt];show some ((#[Value.int .i64 0,.bool false,.slice none 0 0,.slice none 0 0]:Array Value)[(i * 4+j) % 4]!)=_;rw [hmod];rcases (show j=0\/j=1\/j=2\/j=3 by omega) with rfl | rfl | rfl | rfl <;> rfl
 rw [List.getElem_replicate];exact ⟨none,0,0,none,0,0,⟨hc 0 (by omega),hc 1 (by omega),hc 2 (by omega),hc 3 (by omega)⟩,Pl.zero_v _ _ none 0 (by omega)⟩
def yc5 (w:World) (g:Nat):Prop:=(w.cell? ⟨g,0,none⟩=some (.int .i64 0)/\w.cell? ⟨g,1,none⟩=some (.bool false)/\w.cell? ⟨g,2,none⟩=some (.slice none 0 0)/\w.cell? ⟨g,3,none⟩=some (.slice none 0 0))/\∀ i,w.frozen? ⟨g,i,none⟩=false
theorem yc5.ext {w w':World} {g:Nat} (h:yc5 w g) (hx:Ext w w') (hg:g < w.heap.size):yc5 w' g:=by
 obtain ⟨⟨h0,h1,h2,h3⟩,h4⟩:=h;have k:∀ i,w'.cell? ⟨g,i,none⟩=w.cell? ⟨g,i,none⟩:=fun i=>hx.cell (p:=⟨g,i,none⟩) hg
 exact ⟨⟨(k _).trans h0,(k _).trans h1,(k _).trans h2,(k _).trans h3⟩,fun i=>(hx.frozen (p:=⟨g,i,none⟩) hg).trans (h4 i)⟩
theorem yc5.new (w:World) (T:TypeId):yc5 (w.alloc (.cells #[.int .i64 0,.bool false,.slice none 0 0,.slice none 0 0] T)) w.heap.size:=by
 refine ⟨⟨?_,?_,?_,?_⟩,fun i=>?_⟩ <;> simp [go_sem]
theorem gc5 {w W:World} {g:Nat} {p:Pl} {q q':Nat->Prop} {A0 A1:Option Addr} {n0 c0 n1 c1:Nat} (hx:Ext w W) (hg:w.heap.size<=g) (hz:yc5 W g) (hp:PlV W q p (plV p (.slice A0 n0 c0) (.slice A1 n1 c1))) (hq:∀ b,b < W.heap.size->q b->b ≠ g/\q' b) :
 vc4 q' p w (.returned (plV p (.slice A0 n0 c0) (.slice A1 n1 c1))) ((((W.setCell ⟨g,0,none⟩ (.int .i64 p.lv)).setCell ⟨g,1,none⟩ (.bool p.neg)).setCell ⟨g,2,none⟩ (.slice A0 n0 c0)).setCell ⟨g,3,none⟩ (.slice A1 n1 c1)):=by
 obtain ⟨⟨z0,z1,z2,z3⟩,-⟩:=hz;refine ⟨_,rfl,?_,(((hx.setCell hg _).setCell hg _).setCell hg _).setCell hg _⟩;refine PlV.turn_ (by simp [World.setCell]) (fun v ds hv=>?_) (fun b hlt hb=>⟨(hq b hlt hb).2,?_⟩) hp
 · refine (((hv.box z0 rfl _).box (u:=.bool false) ?_ rfl _).box (u:=.slice none 0 0) ?_ rfl _).box (u:=.slice none 0 0) ?_ rfl _
   · rw [World.cell?_setCell_other _ _ _ _ (by simp)]; exact z1
   · rw [World.cell?_setCell_other _ _ _ _ (by simp),World.cell?_setCell_other _ _ _ _ (by simp)]; exact z2
   · rw [World.cell?_setCell_other _ _ _ _ (by simp),World.cell?_setCell_other _ _ _ _ (by simp),World.cell?_setCell_other _ _ _ _ (by simp)]; exact z3
 · have hne:=(hq b hlt hb).1;rw [Below.heap_setCell _ _ _ b hne,Below.heap_setCell _ _ _ b hne,Below.heap_setCell _ _ _ b hne,Below.heap_setCell _ _ _ b hne]
theorem qdf {α:Type} (L l:List α) (k:Nat) (h:L.take k=l.take k) (hL:k < L.length) (hl:k < l.length):(L.set k l[k]).take (k+1)=l.take (k+1):=by
 have h1:k < (L.set k l[k]).length:=by rw [List.length_set]; exact hL
 rw [List.take_succ_eq_append_getElem h1,List.take_succ_eq_append_getElem hl,List.getElem_set_self,List.take_set_of_le (Nat.le_refl _),h]
end Go.Proofs.YtopddaabiinboaaGreat

/- Layer 22: recpoly.copyOf. -/
set_option maxRecDepth 100000
set_option maxHeartbeats 8000000
namespace Go.Proofs.YtopddaabiinboaaGreat
open Go.RowKit
def qja (w0:World) (q:Nat->Prop) (n:Nat):Prop:=∀ (p:Pl) (v:Value) (w:World),p.sz < n->p.Can->p.sz<=1099511627776->p.dm<=35184372088832->PlV w0 q p v->Ext w0 w->Calls Tryz.prog 22 #[v] w (vc4 (fun b=>w.heap.size<=b) p w)
theorem yil {w0 w:World} {q:Nat->Prop} (p:Pl) (v:Value) (hcan:p.Can) (hdm:p.dm<=35184372088832) (h:PlV w0 q p v) (hx0:Ext w0 w) (hl:p.lv=0):Calls Tryz.prog 22 #[v] w (vc4 (fun b=>w.heap.size<=b) p w):=by
 have hds:=p.dm_ds;obtain ⟨A0,n0,c0,A,c,rfl,hnat,hl1,hl2,h4⟩:=h.open_;obtain ⟨l,ng,ds,cs⟩:=p
 change l=0 at hl
 subst hl;simp only [Pl.cs,Pl.ds,Pl.lv,Pl.neg,plV] at *;have hc2:cs=[]/\ds=dg (val ds)/\(ds=[]->ng=false):=by
  unfold Pl.Can at hcan;rcases hcan with h | h
  · exact h.2
  · omega
 obtain ⟨rfl,hdg,hng⟩:=hc2;have hngz:ng=decide (sgn ng (val ds) < 0):=by
  rw [yhe,<- hdg];cases ng
  · rfl
  · have:0 < ds.length:=List.length_pos_iff.2 (fun e=>by have:=hng e; cases this);simp [this]
 have HNG:=Lib.hid hngz;have HDG:=Lib.hid hdg;obtain ⟨W,hW⟩:=n_m ((w.alloc (.cells #[.int .i64 0,.bool ng,.slice A0 n0 c0,.slice A ([]:List Pl).length c] 30)).alloc (.cells #[.int .i64 0,.bool false,.slice none 0 0,.slice none 0 0] 30));have hWx:Ext w W:=by rw [<- hW]; exact ((Ext.refl w).alloc _).alloc _
 have hWs:W.heap.size=w.heap.size+1+1:=by rw [<- hW]; simp
 have hz:yc5 W (w.heap.size+1):=by
  have:=yc5.new (w.alloc (.cells #[.int .i64 0,.bool ng,.slice A0 n0 c0,.slice A ([]:List Pl).length c] 30)) 30;rw [hW] at this;simpa using this
 have HNAT:=Lib.hid (hnat.ext (hx0.trans hWx));have HWX:=Lib.hid hWx;have HZ:=Lib.hid hz;clear h h4 hnat hx0 hcan hng hdg hngz hWx hz;go_enter Tryz.func22,Tryz.ntmps22;go_wp2_with fail;rw [List.length_nil] at hW;rw [hW];clear hW;refine (xdi _ (sgn ng (val ds)) ds.length W ⟨ng,_,ds,rfl,HNAT.out,rfl,Nat.le_refl _⟩ (by omega)).mono ?_;rintro e w1 ⟨x,rfl,⟨v1,rfl,hv1⟩,x1⟩;rw [qc7,<- HDG.out] at hv1;rw [<- HNG.out];obtain ⟨⟨z0,z1,z2,z3⟩,zf⟩:=HZ.out.ext x1 (by omega);have hws:=x1.size;have HF:Hid (∀ A' n' c',v1=.slice A' n' c'->vc4 (fun b=>w.heap.size<=b) (.mk 0 ng ds []) w (.returned (plV (.mk 0 ng ds []) (.slice A' n' c') (.slice none 0 0))) ((((w1.setCell ⟨w.heap.size+1,0,none⟩ (.int .i64 0)).setCell ⟨w.heap.size+1,1,none⟩ (.bool ng)).setCell ⟨w.heap.size+1,2,none⟩ (.slice A' n' c')).setCell ⟨w.heap.size+1,3,none⟩ (.slice none 0 0))):=by
  intro A' n' c' e;subst e;exact gc5 (p:=.mk 0 ng ds []) (q:=fun _=>False) (HWX.out.trans x1) (by omega) (HZ.out.ext x1 (by omega)) (PlV.mk (t:=.mk 0 ng ds []) hv1 (Nat.le_refl _) (by simp [Pl.cs]) (by unfold Pl.cs kc3; trivial)) (fun b _ h=>h.elim)
 obtain ⟨A1,d1,rfl,-⟩:=hv1;have HF2:=Lib.hid (HF.out _ _ _ rfl);clear HF x1 HZ;go_wp2_with fail;exact bodyPost_ret (v:=plV (.mk 0 ng ds []) (.slice A1 ds.length d1) (.slice none 0 0)) (by simp [results,Tryz.results22,go_sem,z0,z1,z2,z3,plV,Pl.lv,Pl.neg]) rfl HF2.out
theorem xi4 (w0:World) (q:Nat->Prop) (n:Nat):qja w0 q n:=by
 induction n with
 | zero=>intro p v w h; omega
 | succ n ih =>
 intro p v w hn hcan hbig hdm h hx0
 by_cases hl:p.lv=0
 · exact yil p v hcan hdm h hx0 hl
 obtain ⟨A0,n0,c0,A,c,rfl,hnat,hl1,hl2,h4⟩:=h.open_;obtain ⟨l,ng,ds,cs⟩:=p;simp only [Pl.cs,Pl.ds,Pl.lv,Pl.neg,plV] at *;have hk:=hcan.kids (by have:=hcan.lv_nonneg.1; simp only [Pl.lv] at this; omega);obtain ⟨rfl,rfl,hlen,hcs,-⟩:=hk;have hszp:(Pl.mk l false [] cs).sz=kc5 cs+1:=by rw [Pl.sz]
 have hdmp:xdb cs<=(Pl.mk l false [] cs).dm:=by rw [Pl.dm]; exact Nat.le_max_right _ _
 have hlb:=ude cs;have IH:=Lib.hid ih;have H4:=Lib.hid h4;have HX0:=Lib.hid hx0;have HSZ:Hid (∀ k (hk:k < cs.length),cs[k].sz < n/\cs[k].Can/\cs[k].sz<=1099511627776/\cs[k].dm<=35184372088832):=by
  have:∀ k (hk:k < cs.length),cs[k].sz < n/\cs[k].Can/\cs[k].sz<=1099511627776/\cs[k].dm<=35184372088832:=fun k hk=>by
   have h1:=ygs (List.getElem_mem hk);have h2:=jg2 (List.getElem_mem hk);exact ⟨by omega,(hcs.mem _ (List.getElem_mem hk)).2,by omega,by omega⟩
  exact this
 have hlz:(l == 0)=false:=by simpa using hl
 have hcb:cs.length<=1099511627776:=by omega
 clear h h4 ih hx0 hnat hcan hcs hdmp hdm hlb;obtain ⟨W,hW⟩:=n_m ((w.alloc (.cells #[.int .i64 l,.bool false,.slice A0 n0 c0,.slice A cs.length c] 30)).alloc (.cells #[.int .i64 0,.bool false,.slice none 0 0,.slice none 0 0] 30));have hWx:Ext w W:=by rw [<- hW]; exact ((Ext.refl w).alloc _).alloc _
 have hWs:W.heap.size=w.heap.size+1+1:=by rw [<- hW]; simp
 have hbx:yc3 W w.heap.size (.mk l false [] cs) (.slice A0 n0 c0) (.slice A cs.length c):=by rw [<- hW]; exact (yc3.new w (.mk l false [] cs) _ _ _).ext ((Ext.refl _).alloc _) (by simp)
 have hz:yc5 W (w.heap.size+1):=by
  have:=yc5.new (w.alloc (.cells #[.int .i64 l,.bool false,.slice A0 n0 c0,.slice A cs.length c] 30)) 30;rw [hW] at this;simpa using this
 obtain ⟨V,hmk,hVx,hVs,hrow⟩:=jgu (cs.length:Int) (by omega) (by omega) W;rw [Int.toNat_natCast] at hmk hrow;have HWX:=Lib.hid hWx;have HVX:=Lib.hid hVx;have hrow0:=hrow (fun b=>w.heap.size+1+1<=b);rw [hWs] at hmk hrow0;have HROW:=Lib.hid hrow0;have HBX:=Lib.hid hbx;have HZ:=Lib.hid hz;obtain ⟨b0,b1,b2,b3⟩:=id hbx;obtain ⟨d0,d1,d2,d3⟩:=hbx.ext hVx (by omega);simp only [Pl.lv,Pl.neg] at b0 b1 d0 d1;clear hWx hVx hrow hrow0 hbx hz;go_enter Tryz.func22,Tryz.ntmps22;go_wp2_with fail;clear hW hmk b0 b1 b2 b3 d0 d1 d2 d3
 go_loopw [20] (fun iv wr=>∃ k:Nat,k<=cs.length/\iv=.int .i64 k/\Hid ((∃ L:List Pl,L.length=cs.length/\L.take k=cs.take k/\qgu wr (fun b=>w.heap.size+1+1<=b) (w.heap.size+1+1) L)/\Ext W wr)) (fun iv _=>cs.length - (intOf iv).toNat)
 case atStart=>exact ⟨0,Nat.zero_le _,rfl,⟨⟨_,List.length_replicate,by simp,HROW.out⟩,HVX.out⟩⟩
 case round =>
  obtain ⟨k,hk,rfl,⟨⟨L,hLl,hLt,hrow⟩,hx⟩⟩:=hrel;have HX:=Lib.hid hx;have HROWk:=Lib.hid hrow;have HLT:=Lib.hid hLt;obtain ⟨b0,b1,b2,b3⟩:=HBX.out.ext hx (by omega);simp only [Pl.lv,Pl.neg] at b0 b1;have hRlt:w.heap.size+1+1 < wr.heap.size:=hrow.1;clear hx hrow hLt HVX HROW
  by_cases hlt:k < cs.length
  · obtain ⟨ad,B0,m0,e0,B1,m1,e1,rfl,hadb,hnd,hkt⟩:=kc3.kid H4.out k hlt;have hxx:Ext w0 wr:=(HX0.out.trans HWX.out).trans HX.out;obtain ⟨a0,a1,a2,a3⟩:=hnd.ext hxx (by rw [uc2]; exact hadb);obtain ⟨hsz1,hsz2,hsz3,hsz4⟩:=HSZ.out k hlt;have HC:=Lib.hid (fun W' (hxW:Ext wr W')=>IH.out cs[k] _ W' hsz1 hsz2 hsz3 hsz4 hkt (hxx.trans hxW));have HSET:Hid ((L.set k cs[k]).take (k+1)=cs.take (k+1)):=qdf L cs k HLT.out (by omega) hlt;generalize cs[k]=ck at *;clear hnd hkt hadb hsz1 hsz2 hsz3 hsz4 hxx HLT;go_wp2_with fail;refine (HC.out _ ((Ext.refl _).alloc _)).mono ?_;rintro e w2 ⟨v2,rfl,p2,x2⟩;have x2':Ext wr w2:=((Ext.refl wr).alloc _).trans x2;obtain ⟨C0,j0,f0,C1,f1,rfl,-⟩:=id p2.open_;have hr2:=HROWk.out.ext x2';obtain ⟨D0,n2,g0,D1,n3,g1,⟨r0,r1,r2,r3⟩,-⟩:=hr2.2.2 k (by omega);have hfr:=hr2.2.1;have hst:=(hr2.set_ k (by omega) ck (p2.mono fun b hb=>by
     have hb':wr.heap.size+1<=b:=by simpa using hb
     exact ⟨by omega,by omega⟩)).1
    simp only at r0 r1 r2 r3;have HST:=Lib.hid hst;have X2:=Lib.hid (HX.out.trans x2');unfold plV;clear hr2 hst p2 x2 x2' HC HROWk a0 a1 a2 a3 b0 b1 b2 b3;go_wp2_with fail
    go_roundw
    case rel=>exact ⟨k+1,by omega,by go_num,⟨_,by rw [List.length_set]; exact hLl,HSET.out,HST.out⟩,(((X2.out.setCell (by show W.heap.size<=w.heap.size+1+1; omega) _).setCell (by show W.heap.size<=w.heap.size+1+1; omega) _).setCell (by show W.heap.size<=w.heap.size+1+1; omega) _).setCell (by show W.heap.size<=w.heap.size+1+1; omega) _⟩
    case measure=>simp [intOf]; omega
  · have hke:k=cs.length:=by omega
    have hLe:L=cs:=by
     have h:=HLT.out;rw [hke,List.take_length,<- hLl,List.take_length] at h;exact h
    obtain ⟨⟨z0,z1,z2,z3⟩,zf⟩:=HZ.out.ext HX.out (by omega);have hfin:=HROWk.out.fin (Nat.le_refl _);rw [hLe] at hfin;have HF:=Lib.hid (gc5 (p:=.mk l false [] cs) (q':=fun b=>w.heap.size<=b) (HWX.out.trans HX.out) (Nat.le_succ _) (HZ.out.ext HX.out (by omega)) (PlV.mk (t:=.mk l false [] cs) (c:=cs.length) (vc2.nil _) (Nat.le_refl _) (by omega) hfin) (fun b _ hb=>⟨by omega,by omega⟩));clear hfin HROWk HLT hLe HZ;go_wp2_with fail;exact bodyPost_ret (v:=plV (.mk l false [] cs) (.slice none 0 0) (.slice (some ⟨w.heap.size+1+1,0,none⟩) cs.length cs.length)) (by simp [results,Tryz.results22,go_sem,z0,z1,z2,z3,plV,Pl.lv,Pl.neg]) rfl HF.out
theorem ug8 {w:World} {q:Nat->Prop} (p:Pl) (v:Value) (hcan:p.Can) (hsz:p.sz<=1099511627776) (hdm:p.dm<=35184372088832) (h:PlV w q p v):Calls Tryz.prog 22 #[v] w (vc4 (fun b=>w.heap.size<=b) p w):=
 xi4 w q (p.sz+1) p v w (Nat.lt_succ_self _) hcan hsz hdm h (Ext.refl w)
end Go.Proofs.YtopddaabiinboaaGreat

/- Layer 20: sparse.negative, cmp.Compare, sparse.CompareMono. -/
set_option maxRecDepth 100000
set_option maxHeartbeats 8000000
namespace Go.Proofs.YtopddaabiinboaaGreat
open Go.RowKit Go.Sort
theorem uis (a b c d:Int) (w:World):(Instr.index 114 (.agg #[.int .i64 a,.int .i64 b,.int .i64 c,.int .i64 d]) (.int .i64 0)).run Tryz.prog w=.ok (.int .i64 a) w/\(Instr.index 114 (.agg #[.int .i64 a,.int .i64 b,.int .i64 c,.int .i64 d]) (.int .i64 1)).run Tryz.prog w=.ok (.int .i64 b) w/\(Instr.index 114 (.agg #[.int .i64 a,.int .i64 b,.int .i64 c,.int .i64 d]) (.int .i64 2)).run Tryz.prog w=.ok (.int .i64 c) w/\(Instr.index 114 (.agg #[.int .i64 a,.int .i64 b,.int .i64 c,.int .i64 d]) (.int .i64 3)).run Tryz.prog w=.ok (.int .i64 d) w:=
 ⟨by kernel_rfl,by kernel_rfl,by kernel_rfl,by kernel_rfl⟩
theorem kg2 (m:Mo) (w:World):Calls Tryz.prog 127 #[moV m] w fun e w'=>e=.returned (.bool (decide (¬ m.nonneg)))/\Ext w w':=by
 have HX:Hid (∀ o,Ext w (w.alloc o)):=fun o=>(Ext.refl w).alloc o
 obtain ⟨W,hW⟩:=n_m (w.alloc (.cells #[.int .i64 m.a,.int .i64 m.b,.int .i64 m.c,.int .i64 m.d] 114));have HWX:Hid (Ext w W):=by
  have:Ext w W:=by rw [<- hW]; exact HX.out _
  exact this
 obtain ⟨d0,d1,d2,d3⟩:vc9 W w.heap.size m:=by rw [<- hW]; exact vc9.new w m _
 obtain ⟨i0,i1,i2,i3⟩:=uis m.a m.b m.c m.d W;unfold moV
 by_cases h0:m.a < 0
 · have HR:Hid (decide (¬ m.nonneg)=true):=by
    have:decide (¬ m.nonneg)=true:=decide_eq_true (by unfold Mo.nonneg; omega);exact this
   have q0:decide (m.a < 0)=true:=decide_eq_true h0;go_enter Tryz.func127,Tryz.ntmps127;go_wp2_with fail;refine wp_loop_rounds 1 ?_;rw [rounds_succ];go_wp2_with fail;go_ret;exact ⟨by rw [HR.out]; rfl,HWX.out⟩
 · have q0:decide (m.a < 0)=false:=decide_eq_false h0
   by_cases h1:m.b < 0
   · have HR:Hid (decide (¬ m.nonneg)=true):=by
      have:decide (¬ m.nonneg)=true:=decide_eq_true (by unfold Mo.nonneg; omega);exact this
     have q1:decide (m.b < 0)=true:=decide_eq_true h1;go_enter Tryz.func127,Tryz.ntmps127;go_wp2_with fail;refine wp_loop_rounds 2 ?_;rw [rounds_succ];go_wp2_with fail;rw [rounds_succ];go_wp2_with fail;go_ret;exact ⟨by rw [HR.out]; rfl,HWX.out⟩
   · have q1:decide (m.b < 0)=false:=decide_eq_false h1
     by_cases h2:m.c < 0
     · have HR:Hid (decide (¬ m.nonneg)=true):=by
        have:decide (¬ m.nonneg)=true:=decide_eq_true (by unfold Mo.nonneg; omega);exact this
       have q2:decide (m.c < 0)=true:=decide_eq_true h2;go_enter Tryz.func127,Tryz.ntmps127;go_wp2_with fail;refine wp_loop_rounds 3 ?_;rw [rounds_succ];go_wp2_with fail;rw [rounds_succ];go_wp2_with fail;rw [rounds_succ];go_wp2_with fail;go_ret;exact ⟨by rw [HR.out]; rfl,HWX.out⟩
     · have q2:decide (m.c < 0)=false:=decide_eq_false h2
       by_cases h3:m.d < 0
       · have HR:Hid (decide (¬ m.nonneg)=true):=by
          have:decide (¬ m.nonneg)=true:=decide_eq_true (by unfold Mo.nonneg; omega);exact this
         have q3:decide (m.d < 0)=true:=decide_eq_true h3;go_enter Tryz.func127,Tryz.ntmps127;go_wp2_with fail;refine wp_loop_rounds 4 ?_;rw [rounds_succ];go_wp2_with fail;rw [rounds_succ];go_wp2_with fail;rw [rounds_succ];go_wp2_with fail;rw [rounds_succ];go_wp2_with fail;go_ret;exact ⟨by rw [HR.out]; rfl,HWX.out⟩
       · have HR:Hid (decide (¬ m.nonneg)=false):=by
          have:decide (¬ m.nonneg)=false:=decide_eq_false (by unfold Mo.nonneg; omega);exact this
         have q3:decide (m.d < 0)=false:=decide_eq_false h3;go_enter Tryz.func127,Tryz.ntmps127;go_wp2_with fail;refine wp_loop_rounds 5 ?_;rw [rounds_succ];go_wp2_with fail;rw [rounds_succ];go_wp2_with fail;rw [rounds_succ];go_wp2_with fail;rw [rounds_succ];go_wp2_with fail;rw [rounds_succ];go_wp2_with fail;go_ret;exact ⟨by rw [HR.out]; rfl,HWX.out⟩
theorem zgw (a:Int) (w:World):Calls Tryz.prog 218 #[.int .i64 a] w fun e w'=>e=.returned (.bool false)/\w'=w:=by
 go_enter Tryz.func218,Tryz.ntmps218;go_wp2_with fail;go_ret;simp
theorem qc8 (a b:Int) (w:World):Calls Tryz.prog 174 #[.int .i64 a,.int .i64 b] w fun e w'=>e=.returned (.int .i64 (kc4 a b))/\w'=w:=by
 rcases Int.lt_trichotomy a b with h | h | h
 · have q1:decide (a < b)=true:=decide_eq_true h;have HR:=Lib.hid (kdg h);go_enter Tryz.func174,Tryz.ntmps174;go_wp2_with fail;refine (zgw _ _).mono ?_;rintro e w1 ⟨rfl,rfl⟩;go_wp2_with fail;refine (zgw _ _).mono ?_;rintro e w1 ⟨rfl,rfl⟩;go_wp2_with fail;go_ret;exact ⟨by rw [HR.out]; rfl,rfl⟩
 · have q1:decide (a < b)=false:=decide_eq_false (by omega);have q2:decide (a > b)=false:=decide_eq_false (by omega);have HR:=Lib.hid (jda h);go_enter Tryz.func174,Tryz.ntmps174;go_wp2_with fail;refine (zgw _ _).mono ?_;rintro e w1 ⟨rfl,rfl⟩;go_wp2_with fail;refine (zgw _ _).mono ?_;rintro e w1 ⟨rfl,rfl⟩;go_wp2_with fail;go_ret;exact ⟨by rw [HR.out]; rfl,rfl⟩
 · have q1:decide (a < b)=false:=decide_eq_false (by omega);have q2:decide (a > b)=true:=decide_eq_true (by omega);have HR:=Lib.hid (qgw h);go_enter Tryz.func174,Tryz.ntmps174;go_wp2_with fail;refine (zgw _ _).mono ?_;rintro e w1 ⟨rfl,rfl⟩;go_wp2_with fail;refine (zgw _ _).mono ?_;rintro e w1 ⟨rfl,rfl⟩;go_wp2_with fail;go_ret;exact ⟨by rw [HR.out]; rfl,rfl⟩
def gg8 (m n:Mo):Int:=if m.lt n then -1 else if n.lt m then 1 else 0
theorem jiv (m n:Mo):gg8 m n=if m.d ≠ n.d then kc4 m.d n.d else if m.c ≠ n.c then kc4 m.c n.c else if m.b ≠ n.b then kc4 m.b n.b else kc4 m.a n.a:=by
 unfold gg8 kc4 Mo.lt
 repeat' split
 all_goals first | rfl | omega
theorem qg6 {a b:Int} (h:a ≠ b):(kc4 a b != 0)=true:=by
 unfold kc4; split
 · rfl
 · split
   · rfl
   · omega
theorem qil (a:Int):kc4 a a=0:=jda rfl
theorem ghk (m n:Mo) (w:World):Calls Tryz.prog 130 #[moV m,moV n] w fun e w'=>e=.returned (.int .i64 (gg8 m n))/\∃ q os,w'=grow (w.drewN q) os:=by
 have HG:Hid (∀ o o' q,∃ q' os,(((w.alloc o).alloc o').drewN q)=grow (w.drewN q') os):=fun o o' q=>⟨q,#[o] ++ #[o'],by rw [alloc_eq_grow,alloc_eq_grow,grow_grow]; rfl⟩
 obtain ⟨W,hW⟩:=n_m ((w.alloc (.cells #[.int .i64 m.a,.int .i64 m.b,.int .i64 m.c,.int .i64 m.d] 114)).alloc (.cells #[.int .i64 n.a,.int .i64 n.b,.int .i64 n.c,.int .i64 n.d] 114));have HGW:Hid (∀ q,∃ q' os,W.drewN q=grow (w.drewN q') os):=fun q=>by rw [<- hW]; exact HG.out _ _ q
 have hm:vc9 W w.heap.size m:=by rw [<- hW]; exact (vc9.new w m _).ext ((Ext.refl _).alloc _) (by simp)
 have hn:vc9 W (w.heap.size+1) n:=by
  have:=vc9.new (w.alloc (.cells #[.int .i64 m.a,.int .i64 m.b,.int .i64 m.c,.int .i64 m.d] 114)) n 114;rw [hW] at this;simpa using this
 obtain ⟨d0,d1,d2,d3⟩:=hm;obtain ⟨e0,e1,e2,e3⟩:=hn;have HC:=Lib.hid (jiv m n);generalize gg8 m n=r at *;unfold moV
 by_cases h3:m.d=n.d
 · by_cases h2:m.c=n.c
   · by_cases h1:m.b=n.b
     · by_cases h0:m.a=n.a
       · have HR:Hid (r=0):=by
          have:r=0:=by rw [HC.out,if_neg (fun h=>h h3),if_neg (fun h=>h h2),if_neg (fun h=>h h1),h0,qil]
          exact this
         have z3:kc4 m.d n.d=0:=jda h3;have z2:kc4 m.c n.c=0:=jda h2;have z1:kc4 m.b n.b=0:=jda h1;have z0:kc4 m.a n.a=0:=jda h0;clear h3 h2 h1 h0;go_enter Tryz.func130,Tryz.ntmps130;go_wp2_with fail;refine wp_loop_rounds 5 ?_;rw [rounds_succ];go_wp2_with fail
         go_region_held3 (fun W'=>W'=W.drew) (first | rfl | assumption) ((go_at_call 174; refine (qc8 _ _ _).mono ?_; rintro e v1 ⟨rfl,hv1⟩))
         all_goals
          subst hv1;go_wp2_with fail;rw [rounds_succ];go_wp2_with fail
          go_region_held3 (fun W'=>W'=W.drew.drew) (first | rfl | assumption) ((go_at_call 174; refine (qc8 _ _ _).mono ?_; rintro e v1 ⟨rfl,hv1⟩))
          all_goals
           subst hv1;go_wp2_with fail;rw [rounds_succ];go_wp2_with fail
           go_region_held3 (fun W'=>W'=W.drew.drew.drew) (first | rfl | assumption) ((go_at_call 174; refine (qc8 _ _ _).mono ?_; rintro e v1 ⟨rfl,hv1⟩))
           all_goals
            subst hv1;go_wp2_with fail;rw [rounds_succ];go_wp2_with fail
            go_region_held3 (fun W'=>W'=W.drew.drew.drew.drew) (first | rfl | assumption) ((go_at_call 174; refine (qc8 _ _ _).mono ?_; rintro e v1 ⟨rfl,hv1⟩))
            all_goals
             subst hv1;go_wp2_with fail;rw [rounds_succ];go_wp2_with fail;go_ret;exact ⟨by rw [HR.out]; rfl,HGW.out 4⟩
       · have HR:Hid (r=kc4 m.a n.a):=by
          have:r=kc4 m.a n.a:=by rw [HC.out,if_neg (fun h=>h h3),if_neg (fun h=>h h2),if_neg (fun h=>h h1)]
          exact this
         have q0:=qg6 h0;have z3:kc4 m.d n.d=0:=jda h3;have z2:kc4 m.c n.c=0:=jda h2;have z1:kc4 m.b n.b=0:=jda h1;clear h3 h2 h1;go_enter Tryz.func130,Tryz.ntmps130;go_wp2_with fail;refine wp_loop_rounds 4 ?_;rw [rounds_succ];go_wp2_with fail
         go_region_held3 (fun W'=>W'=W.drew) (first | rfl | assumption) ((go_at_call 174; refine (qc8 _ _ _).mono ?_; rintro e v1 ⟨rfl,hv1⟩))
         all_goals
          subst hv1;go_wp2_with fail;rw [rounds_succ];go_wp2_with fail
          go_region_held3 (fun W'=>W'=W.drew.drew) (first | rfl | assumption) ((go_at_call 174; refine (qc8 _ _ _).mono ?_; rintro e v1 ⟨rfl,hv1⟩))
          all_goals
           subst hv1;go_wp2_with fail;rw [rounds_succ];go_wp2_with fail
           go_region_held3 (fun W'=>W'=W.drew.drew.drew) (first | rfl | assumption) ((go_at_call 174; refine (qc8 _ _ _).mono ?_; rintro e v1 ⟨rfl,hv1⟩))
           all_goals
            subst hv1;go_wp2_with fail;rw [rounds_succ];go_wp2_with fail
            go_region_held3 (fun W'=>W'=W.drew.drew.drew.drew) (first | rfl | assumption) ((go_at_call 174; refine (qc8 _ _ _).mono ?_; rintro e v1 ⟨rfl,hv1⟩))
            all_goals
             subst hv1;go_wp2_with fail;go_ret;exact ⟨by rw [HR.out]; rfl,HGW.out 4⟩
     · have HR:Hid (r=kc4 m.b n.b):=by
        have:r=kc4 m.b n.b:=by rw [HC.out,if_neg (fun h=>h h3),if_neg (fun h=>h h2),if_pos h1]
        exact this
       have q1:=qg6 h1;have z3:kc4 m.d n.d=0:=jda h3;have z2:kc4 m.c n.c=0:=jda h2;clear h3 h2;go_enter Tryz.func130,Tryz.ntmps130;go_wp2_with fail;refine wp_loop_rounds 3 ?_;rw [rounds_succ];go_wp2_with fail
       go_region_held3 (fun W'=>W'=W.drew) (first | rfl | assumption) ((go_at_call 174; refine (qc8 _ _ _).mono ?_; rintro e v1 ⟨rfl,hv1⟩))
       all_goals
        subst hv1;go_wp2_with fail;rw [rounds_succ];go_wp2_with fail
        go_region_held3 (fun W'=>W'=W.drew.drew) (first | rfl | assumption) ((go_at_call 174; refine (qc8 _ _ _).mono ?_; rintro e v1 ⟨rfl,hv1⟩))
        all_goals
         subst hv1;go_wp2_with fail;rw [rounds_succ];go_wp2_with fail
         go_region_held3 (fun W'=>W'=W.drew.drew.drew) (first | rfl | assumption) ((go_at_call 174; refine (qc8 _ _ _).mono ?_; rintro e v1 ⟨rfl,hv1⟩))
         all_goals
          subst hv1;go_wp2_with fail;go_ret;exact ⟨by rw [HR.out]; rfl,HGW.out 3⟩
   · have HR:Hid (r=kc4 m.c n.c):=by
      have:r=kc4 m.c n.c:=by rw [HC.out,if_neg (fun h=>h h3),if_pos h2]
      exact this
     have q2:=qg6 h2;have z3:kc4 m.d n.d=0:=jda h3;clear h3;go_enter Tryz.func130,Tryz.ntmps130;go_wp2_with fail;refine wp_loop_rounds 2 ?_;rw [rounds_succ];go_wp2_with fail
     go_region_held3 (fun W'=>W'=W.drew) (first | rfl | assumption) ((go_at_call 174; refine (qc8 _ _ _).mono ?_; rintro e v1 ⟨rfl,hv1⟩))
     all_goals
      subst hv1;go_wp2_with fail;rw [rounds_succ];go_wp2_with fail
      go_region_held3 (fun W'=>W'=W.drew.drew) (first | rfl | assumption) ((go_at_call 174; refine (qc8 _ _ _).mono ?_; rintro e v1 ⟨rfl,hv1⟩))
      all_goals
       subst hv1;go_wp2_with fail;go_ret;exact ⟨by rw [HR.out]; rfl,HGW.out 2⟩
 · have HR:Hid (r=kc4 m.d n.d):=by
    have:r=kc4 m.d n.d:=by rw [HC.out,if_pos h3]
    exact this
   have q3:=qg6 h3;go_enter Tryz.func130,Tryz.ntmps130;go_wp2_with fail;refine wp_loop_rounds 1 ?_;rw [rounds_succ];go_wp2_with fail
   go_region_held3 (fun W'=>W'=W.drew) (first | rfl | assumption) ((go_at_call 174; refine (qc8 _ _ _).mono ?_; rintro e v1 ⟨rfl,hv1⟩))
   all_goals
    subst hv1;go_wp2_with fail;go_ret;exact ⟨by rw [HR.out]; rfl,HGW.out 1⟩
end Go.Proofs.YtopddaabiinboaaGreat

/- Layer 20: (*gather).add: the terms collected by their monomials. -/
set_option maxRecDepth 100000
set_option maxHeartbeats 8000000
namespace Go.Proofs.YtopddaabiinboaaGreat
open Go.RowKit
def wdd (c : Int) (m : Mo) : Sp -> Sp
 | []=>[(c,m)]
 | (d,n) :: r=>if m=n then (d+c,n) :: r else (d,n) :: wdd c m r
theorem zik (c:Int) (m:Mo) (l:Sp) (k:Mo):wc2 (wdd c m l) k=wc2 l k+if m=k then c else 0:=by
 induction l with
 | nil=>simp [wdd,wc2]
 | cons x r ih =>
   obtain ⟨d,n⟩:=x;unfold wdd
   by_cases h:m=n
   · rw [if_pos h]; subst h; simp only [wc2]; split <;> omega
   · rw [if_neg h]; simp only [wc2,ih]; omega
theorem jit (c:Int) (m:Mo) (l:Sp):yc4 (wdd c m l)<=yc4 l+c.natAbs:=by
 induction l with
 | nil=>simp [wdd,yc4]
 | cons x r ih =>
   obtain ⟨d,n⟩:=x;unfold wdd
   by_cases h:m=n
   · rw [if_pos h]; simp only [yc4]; omega
   · rw [if_neg h]; simp only [yc4]; omega
theorem vit (c:Int) (m:Mo) (l:Sp):(wdd c m l).length<=l.length+1:=by
 induction l with
 | nil=>simp [wdd]
 | cons x r ih =>
   obtain ⟨d,n⟩:=x;unfold wdd
   by_cases h:m=n
   · rw [if_pos h]; simp
   · rw [if_neg h]; simp; omega
theorem khx {c:Int} {m:Mo} {l:Sp} {x:Int × Mo} (h:x ∈ wdd c m l):x.2=m\/∃ y ∈ l,y.2=x.2:=by
 induction l with
 | nil=>left; rw [List.mem_singleton.1 h]
 | cons y r ih =>
   obtain ⟨d,n⟩:=y;unfold wdd at h
   split at h
   · rcases List.mem_cons.1 h with rfl | h
     · exact .inr ⟨_,List.mem_cons_self,rfl⟩
     · exact .inr ⟨x,List.mem_cons_of_mem _ h,rfl⟩
   · rcases List.mem_cons.1 h with rfl | h
     · exact .inr ⟨_,List.mem_cons_self,rfl⟩
     · rcases ih h with h | ⟨y,hy,e⟩
       · exact .inl h
       · exact .inr ⟨y,List.mem_cons_of_mem _ hy,e⟩
def Apart (l:Sp):Prop:=l.Pairwise fun x y=>x.2 ≠ y.2
theorem qib (c:Int) (m:Mo) (l:Sp) (h:Apart l):Apart (wdd c m l):=by
 induction l with
 | nil=>exact List.pairwise_singleton _ _
 | cons x r ih =>
   obtain ⟨d,n⟩:=x;unfold Apart at h ih ⊢;rw [List.pairwise_cons] at h;unfold wdd
   by_cases hm:m=n
   · rw [if_pos hm,List.pairwise_cons]; exact h
   · rw [if_neg hm,List.pairwise_cons];refine ⟨fun y hy=>?_,ih h.2⟩;rcases khx hy with e | ⟨z,hz,e⟩
     · rw [e]; exact fun e'=>hm e'.symm
     · rw [<- e]; exact h.1 z hz
def zdf (i : Nat) : Sp -> List (Mo × Value)
 | []=>[]
 | (_,m) :: r=>(m,.int .i64 i) :: zdf (i+1) r
theorem xib (c:Int) (m:Mo) (l:Sp):∀ i,(mog (zdf i l) m=none/\wdd c m l=l ++ [(c,m)]/\∀ z,mop (zdf i l) m (.int .i64 (i+l.length:Nat))=zdf i (l ++ [(z,m)])) \/
 ∃ k,∃ hk:k < l.length,mog (zdf i l) m=some (.int .i64 (i+k:Nat))/\l[k].2=m/\wdd c m l=l.set k (l[k].1+c,m)/\zdf i (l.set k (l[k].1+c,m))=zdf i l:=by
 induction l with
 | nil=>intro i; exact .inl ⟨rfl,rfl,fun z=>by simp [zdf,mop]⟩
 | cons x r ih =>
   intro i;obtain ⟨d,n⟩:=x
   by_cases hm:m=n
   · subst hm;exact .inr ⟨0,by simp,by simp [zdf,mog],rfl,by simp [wdd],by simp [zdf]⟩
   · rcases ih (i+1) with ⟨h1,h2,h3⟩ | ⟨k,hk,h1,h2,h3,h4⟩
     · refine .inl ⟨by simp [zdf,mog,hm,h1],by simp [wdd,hm,h2],fun z=>?_⟩;have:=h3 z;simp only [zdf,mop,List.cons_append,List.length_cons,if_neg hm];rw [<- this,show i+1+r.length=i+(r.length+1) by omega]
     · refine .inr ⟨k+1,by simpa using hk,?_,by simpa using h2,by simp [wdd,hm,h3],by simp [zdf,h4]⟩;simp only [zdf,mog,if_neg hm,h1];rw [show i+1+k=i+(k+1) by omega]
def GaV (base:Nat) (w:World) (G M:Nat) (v:Value) (l:Sp):Prop:=
 w.cell? ⟨G,0,none⟩=some (.map (some M))/\w.cell? ⟨G,1,none⟩=some v/\(∀ i,w.frozen? ⟨G,i,none⟩=false)/\xdf w M (zdf 0 l)/\TsV none base w v l/\(base<=G/\base<=M/\G ≠ M/\G < w.heap.size)/\∀ R,v.ownBlock=some R->R ≠ G/\R ≠ M
theorem GaV.ext {base:Nat} {w w':World} {G M:Nat} {v:Value} {l:Sp} (h:GaV base w G M v l) (hx:Ext w w'):GaV base w' G M v l:=by
 obtain ⟨h1,h2,h3,h4,h5,h6,h7⟩:=h;exact ⟨(hx.cell (p:=⟨G,0,none⟩) h6.2.2.2).trans h1,(hx.cell (p:=⟨G,1,none⟩) h6.2.2.2).trans h2,fun i=>(hx.frozen (p:=⟨G,i,none⟩) h6.2.2.2).trans (h3 i),h4.ext hx,h5.ext hx,⟨h6.1,h6.2.1,h6.2.2.1,Nat.lt_of_lt_of_le h6.2.2.2 hx.size⟩,h7⟩
def jid (G M:Nat) (v v':Value) (w w':World):Prop:=(∀ b,b < w.heap.size->b ≠ G->b ≠ M->v.ownBlock ≠ some b->w'.heap[b]?=w.heap[b]?)/\(v'.ownBlock=v.ownBlock\/∃ R,v'.ownBlock=some R/\w.heap.size<=R)
def wgz (base:Nat) (G M:Nat) (v:Value) (l:Sp) (w:World) (e:Ending) (w':World):Prop:=e=.returned (.tuple #[])/\∃ v',GaV base w' G M v' l/\Below base w w'/\(∀ v ds,vc2 w v ds->vc2 w' v ds)/\jid G M v v' w w'
theorem xiu {base G M:Nat} {l':Sp} {w w4:World} {v0 v v':Value} (hfar:jid G M v0 v' w w4) (hbl:Below base w w4) (hn:∀ x ds,vc2 w x ds->vc2 w4 x ds) (h0:w4.cell? ⟨G,0,none⟩=some (.map (some M))) (h1:w4.cell? ⟨G,1,none⟩=some v) (hd:gc6 v=false) (hf:∀ i,w4.frozen? ⟨G,i,none⟩=false) (hm:xdf w4 M (zdf 0 l')) (ht:TsV none base w4 v' l') (hb:base<=G/\base<=M/\G ≠ M/\G < w4.heap.size) (ho:∀ R,v'.ownBlock=some R->R ≠ G/\R ≠ M):wgz base G M v0 l' w (.returned (.tuple #[])) (w4.setCell ⟨G,1,none⟩ v'):=by
 have hnn:∀ x ds,vc2 w4 x ds->vc2 (w4.setCell ⟨G,1,none⟩ v') x ds:=fun x ds hx=>hx.box h1 hd _
 refine ⟨rfl,v',⟨?_,World.cell?_setCell_same _ _ _ h1,fun i=>?_,hm.block (Below.heap_setCell _ _ _ M (Ne.symm hb.2.2.1)),ht.turn (fun R hR=>Below.heap_setCell _ _ _ R (ho R hR).1) hnn,⟨hb.1,hb.2.1,hb.2.2.1,by simpa [World.setCell] using hb.2.2.2⟩,ho⟩,Below.setCell hbl hb.1 _,fun x ds hx=>hnn x ds (hn x ds hx),fun b h1 h2 h3 h4=>(Below.heap_setCell _ _ _ b h2).trans (hfar.1 b h1 h2 h3 h4),hfar.2⟩
 · rw [World.cell?_setCell_other _ _ _ _ (by simp)]; exact h0
 · rw [World.frozen?_setCell]; exact hf i
theorem xhw {w w':World} {M:Nat} {l:List (Mo × Value)} {v:Value} {ds:List Nat} (hv:vc2 w v ds) (hm:xdf w M l) (ho:Only M w w'):vc2 w' v ds:=by
 obtain ⟨A,c,e,h1,h2,h3,h4⟩:=hv;refine ⟨A,c,e,h1,h2,h3,fun hd=>?_⟩;obtain ⟨ad,e4,hlt,hc⟩:=h4 hd;refine ⟨ad,e4,Nat.lt_of_lt_of_le hlt ho.size,fun j hj=>?_⟩;have hne:ad.block ≠ M:=fun e=>by
  obtain ⟨es,clock,hb,-⟩:=hm;have h0:=hc 0 hd;rw [World.cell?,uc2,e,hb] at h0;cases h0
 exact (ho.cell (p:=ad.add j) (by rw [uc2]; exact hlt) (by rw [uc2]; exact hne)).trans (hc j hj)
theorem ziu {base G M:Nat} {v:Value} {l:Sp} {w:World} (h:GaV base w G M v l) (m:Mo) (x:Value) (k:Option Nat) (z:Int) (hc:Cf w k x z) (hm:¬ m.nonneg) (hb:base<=w.heap.size):Calls Tryz.prog 91 #[.pointer (some ⟨G,0,none⟩),moV m,x] w (wgz base G M v l w):=by
 obtain ⟨b,B,n,c,rfl⟩:=hc.unpack;have HQ:Hid (decide (¬ m.nonneg)=true):=by
  have:decide (¬ m.nonneg)=true:=decide_eq_true hm;exact this
 have H:=Lib.hid h;obtain ⟨W,hW⟩:=n_m ((w.alloc (.cells #[.int .i64 m.a,.int .i64 m.b,.int .i64 m.c,.int .i64 m.d] 114)).alloc (.cells #[.bool b,.slice B n c] 27));have hWx:Ext w W:=by rw [<- hW]; exact ((Ext.refl w).alloc _).alloc _
 obtain ⟨d0,d1,d2,d3⟩:vc9 W w.heap.size m:=by rw [<- hW]; exact (vc9.new w m _).ext ((Ext.refl _).alloc _) (by simp)
 have HWX:=Lib.hid hWx;clear h hc hWx;unfold moV;go_enter Tryz.func91,Tryz.ntmps91;go_wp2_with fail;refine (kg2 m W).mono ?_;rintro e w1 ⟨rfl,x1⟩;rw [HQ.out];have X1:=Lib.hid (HWX.out.trans x1);clear x1;go_wp2_with fail;exact bodyPost_ret (results_none rfl _ _ _) rfl ⟨rfl,v,H.out.ext X1.out,Below.mono X1.out (by omega),fun v ds hv=>hv.ext X1.out,fun b hb _ _ _=>X1.out.below.block b hb,.inl rfl⟩
theorem git {base G M:Nat} {v:Value} {l:Sp} {w:World} (h:GaV base w G M v l) (m:Mo) (x:Value) (L:Nat) (z:Int) (hc:xc4 w x z L) (hL:L<=35184372088832) (hm:m.nonneg) (hb:base<=w.heap.size) (hlen:l.length < 1099511627776) (hn:mog (zdf 0 l) m=none) (hp:∀ z,mop (zdf 0 l) m (.int .i64 (0+l.length:Nat))=zdf 0 (l ++ [(z,m)])):Calls Tryz.prog 91 #[.pointer (some ⟨G,0,none⟩),moV m,x] w (wgz base G M v (l ++ [(z,m)]) w):=by
 have HC:=Lib.hid hc;obtain ⟨b,B,n,c,rfl⟩:=hc.unpack;have HQ:Hid (decide (¬ m.nonneg)=false):=by
  have:decide (¬ m.nonneg)=false:=decide_eq_false (fun h=>h hm);exact this
 have H:=Lib.hid h;obtain ⟨W,hW⟩:=n_m ((w.alloc (.cells #[.int .i64 m.a,.int .i64 m.b,.int .i64 m.c,.int .i64 m.d] 114)).alloc (.cells #[.bool b,.slice B n c] 27));have hWx:Ext w W:=by rw [<- hW]; exact ((Ext.refl w).alloc _).alloc _
 have hWs:W.heap.size=w.heap.size+1+1:=by rw [<- hW]; simp
 have hmx:vc9 W w.heap.size m:=by rw [<- hW]; exact (vc9.new w m _).ext ((Ext.refl _).alloc _) (by simp)
 have hc0:W.cell? ⟨w.heap.size+1,0,none⟩=some (.bool b):=by rw [<- hW]; simp [go_sem]
 have hc1:W.cell? ⟨w.heap.size+1,1,none⟩=some (.slice B n c):=by rw [<- hW]; simp [go_sem]
 obtain ⟨d0,d1,d2,d3⟩:=id hmx;have HMX:=Lib.hid hmx;have HC0:=Lib.hid hc0;have HC1:=Lib.hid hc1;have HWX:=Lib.hid hWx;have HN:=Lib.hid hn;have HP:=Lib.hid hp;clear h hc hWx hmx hn hp hc0 hc1;unfold moV;go_enter Tryz.func91,Tryz.ntmps91;go_wp2_with fail;refine (kg2 m W).mono ?_;rintro e w1 ⟨rfl,x1⟩;rw [HQ.out];have h1:=H.out.ext (HWX.out.trans x1);have hw1:=x1.size;obtain ⟨d0,d1,d2,d3⟩:=HMX.out.ext x1 (by omega);have c0:=(x1.cell (p:=⟨w.heap.size+1,0,none⟩) (by show w.heap.size+1 < _; omega)).trans HC0.out;have c1:=(x1.cell (p:=⟨w.heap.size+1,1,none⟩) (by show w.heap.size+1 < _; omega)).trans HC1.out;have X1:=Lib.hid (HWX.out.trans x1);obtain ⟨g0,g1,gf,gm,gt,⟨gb1,gb2,gne,glt⟩,gown⟩:=h1;have hlook:=xdf.look (w:=w1.drew) gm m true;rw [HN.out] at hlook;simp only [Option.getD_none,Option.isSome_none,if_true,moV] at hlook;obtain ⟨At,ct,rfl,-,-⟩:=gt.len;have GM:=Lib.hid gm;have GT:=Lib.hid gt;have GOWN:=Lib.hid gown;clear gm gt gown x1 hW;go_upto_region 2 with fail
 go_region
 all_goals
  clear hlook;have hMlt:=H.out.2.2.2.1.lt;have hGlt:=H.out.2.2.2.2.2.1.2.2.2;obtain ⟨W5,hput,gm5,ho5⟩:=xdf.put (w:=w1.drew.drew) GM.out m (.int .i64 (0+l.length:Nat));rw [HP.out z] at gm5;simp only [moV,Nat.zero_add] at hput;have hs5:w1.heap.size<=W5.heap.size:=ho5.size;have hb5:∀ b,b < w1.heap.size->b ≠ M->W5.heap[b]?=w1.heap[b]?:=fun b hb hne=>ho5.block hb hne
  have k5:∀ b i,b < w1.heap.size->b ≠ M->W5.cell? ⟨b,i,none⟩=w1.cell? ⟨b,i,none⟩:=fun b i hb hne=>World.cell?_of_block (a:=⟨b,i,none⟩) (hb5 b hb hne)
  have G0:=(k5 G 0 glt gne).trans g0;have G1:=(k5 G 1 glt gne).trans g1;have D0:=(k5 w.heap.size 0 (by omega) (by omega)).trans d0;have D1:=(k5 w.heap.size 1 (by omega) (by omega)).trans d1;have D2:=(k5 w.heap.size 2 (by omega) (by omega)).trans d2;have D3:=(k5 w.heap.size 3 (by omega) (by omega)).trans d3;have C0:=(k5 (w.heap.size+1) 0 (by omega) (by omega)).trans c0;have C1:=(k5 (w.heap.size+1) 1 (by omega) (by omega)).trans c1;have HK5:=Lib.hid k5;have HB5:=Lib.hid hb5;have HO5:=Lib.hid ho5;have GM5:=Lib.hid gm5;clear k5 hb5 ho5 gm5;go_upto_region 5 with fail
  go_region
  all_goals
   clear hput d0 d1 d2 d3 c0 c1 g0 g1;have ho5':Only M w1 W5:=by
    obtain ⟨q1,q2,q3,q4,q5⟩:=HO5.out.g;exact ⟨q1,q2,q3,q4,q5⟩
   have x05:Below base w W5:=Below.grown (Below.mono X1.out hb) ho5' (by have:=X1.out.size; omega) (fun k e=>by injection e with e; omega);have n05:∀ v ds,vc2 w v ds->vc2 W5 v ds:=fun v ds hv=>xhw (hv.ext X1.out) GM.out ho5'
   have gt5:TsV none base W5 (.slice At l.length ct) l:=GT.out.turn (fun R hR=>HB5.out R (GT.out.own hR).2 (GOWN.out R hR).2) (fun v ds hv=>xhw hv GM.out ho5');have GT5:=Lib.hid gt5;have N05:=Lib.hid n05;have X05:=Lib.hid x05;clear gt5 n05 x05 ho5';go_upto_region 6 with fail;have HSTEP:Hid (∀ (w3:World) (A3:Option Addr) (c3:Nat),vc2 w3 (.slice A3 (dg z.natAbs).length c3) (dg z.natAbs)->Ext W5.drew w3->∃ w4 A4 c4,(Builtin.append_ #[110,110] 110 #[.slice At l.length ct,.slice (some ⟨w3.heap.size,0,none⟩) 1 1]).run Tryz.prog (w3.alloc (.cells #[.bool (decide (z < 0)),.slice A3 (dg z.natAbs).length c3,.int .i64 m.a,.int .i64 m.b,.int .i64 m.c,.int .i64 m.d] 165))=.ok (.slice A4 (l.length+1) c4) w4/\(w3.cell? ⟨w.heap.size,0,none⟩=some (.int .i64 m.a)/\w3.cell? ⟨w.heap.size,1,none⟩=some (.int .i64 m.b)/\w3.cell? ⟨w.heap.size,2,none⟩=some (.int .i64 m.c)/\w3.cell? ⟨w.heap.size,3,none⟩=some (.int .i64 m.d))/\(w3.cell? ⟨G,0,none⟩=some (.map (some M))/\w3.cell? ⟨G,1,none⟩=some (.slice At l.length ct))/\(G < w3.heap.size/\w.heap.size < w3.heap.size/\w.heap.size+1 < w3.heap.size)/\w4.cell? ⟨G,1,none⟩=some (.slice At l.length ct)/\(∀ i,w4.frozen? ⟨G,i,none⟩=false)/\wgz base G M (.slice At l.length ct) (l ++ [(z,m)]) w (.returned (.tuple #[])) (w4.setCell ⟨G,1,none⟩ (.slice A4 (l.length+1) c4))):=by
    intro w3 A3 c3 n3 x3;have y3:Ext W5 w3:=Ext.trans ((Ext.refl W5).drew) x3;obtain ⟨v4,w4,hrun,t4,gg4,nn4,oo4⟩:=(GT5.out.ext y3).push (by have:=y3.size; omega) (k:=none) (z:=z) (b:=decide (z < 0)) (s:=.slice A3 (dg z.natAbs).length c3) ⟨_,rfl,n3⟩ m hlen 110;obtain ⟨A4,c4,e4,-,-⟩:=t4.len;rw [show (l ++ [(z,m)]).length=l.length+1 by simp] at e4;subst e4;have e3:∀ b i,b < w1.heap.size->w3.cell? ⟨b,i,none⟩=W5.cell? ⟨b,i,none⟩:=fun b i hb=>y3.cell (p:=⟨b,i,none⟩) (by show b < _; omega)
    have E0:=(e3 w.heap.size 0 (by omega)).trans D0;have E1:=(e3 w.heap.size 1 (by omega)).trans D1;have E2:=(e3 w.heap.size 2 (by omega)).trans D2;have E3:=(e3 w.heap.size 3 (by omega)).trans D3;have F0:=(e3 G 0 glt).trans G0;have F1:=(e3 G 1 glt).trans G1;have y3s:=y3.size;have hG3:G < w3.heap.size:=by omega
    have hB3:w.heap.size < w3.heap.size:=by omega
    have hC3:w.heap.size+1 < w3.heap.size:=by omega
    have gblk:∀ b,b < w1.heap.size->(Value.slice At l.length ct).ownBlock ≠ some b->w4.heap[b]?=w3.heap[b]?:=fun b hb hne=>World.grownBy.block gg4 b (by omega) (fun e=>hne e.symm)
    have gG:=gblk G glt (fun e=>(GOWN.out G e).1 rfl);have H1:w4.cell? ⟨G,1,none⟩=some (.slice At l.length ct):=(World.cell?_of_block (a:=⟨G,1,none⟩) gG).trans F1;have HF:∀ i,w4.frozen? ⟨G,i,none⟩=false:=fun i=>(World.frozen?_of_block (a:=⟨G,i,none⟩) gG).trans ((y3.frozen (p:=⟨G,i,none⟩) (by show G < _; omega)).trans ((World.frozen?_of_block (a:=⟨G,i,none⟩) (HB5.out G glt gne)).trans (gf i)))
    have hown4:∀ R,(Value.slice A4 (l.length+1) c4).ownBlock=some R->R ≠ G/\R ≠ M:=fun R hR=>by
     rcases oo4 with o | o
     · exact GOWN.out R (o.symm.trans hR)
     · rw [o] at hR; injection hR with hR; omega
    have HFIN:Hid (wgz base G M (.slice At l.length ct) (l ++ [(z,m)]) w (.returned (.tuple #[])) (w4.setCell ⟨G,1,none⟩ (.slice A4 (l.length+1) c4))):=by
     have gg4s:=gg4.size;have hX1:=X1.out;have hX1s:=hX1.size;have hfar:jid G M (.slice At l.length ct) (.slice A4 (l.length+1) c4) w w4:=⟨fun b h1 h2 h3 h4=>(gblk b (by omega) h4).trans ((y3.below.block b (by omega)).trans ((HB5.out b (by omega) h3).trans (hX1.below.block b h1))),oo4.imp id (fun h=>⟨_,h,by omega⟩)⟩;exact xiu (v:=.slice At l.length ct) hfar (Below.grown (Below.trans X05.out (Below.mono y3 (by omega))) gg4 (by omega) (fun b hb=>(GT5.out.own hb).1)) (fun x ds hx=>nn4 x ds ((N05.out x ds hx).ext y3)) ((World.cell?_of_block (a:=⟨G,0,none⟩) gG).trans F0) H1 rfl HF (GM5.out.block ((gblk M (by omega) (fun e=>(GOWN.out M e).2 rfl)).trans (y3.below.block M (by omega)))) t4 ⟨gb1,gb2,gne,by omega⟩ hown4
    exact ⟨w4,A4,c4,hrun,⟨E0,E1,E2,E3⟩,⟨F0,F1⟩,⟨hG3,hB3,hC3⟩,H1,HF,HFIN.out⟩
   have HARG:=Lib.hid (Cf.turn (k:=some L) (w:=w) HC.out (fun v ds hv=>(N05.out v ds hv).ext ((Ext.refl W5).drew)));clear GT5 N05 X05 GM5 HB5 HO5 HK5 GOWN HC GM GT H HP HN HWX X1 HMX HC0 HC1
   go_region_law (first
    | (go_simp
       go_at_call 28
       refine (xdi _ z L _ HARG.out hL).mono ?_;rintro e w3 ⟨v3,rfl,⟨s3,rfl,n3⟩,x3⟩;obtain ⟨A3,c3,rfl,-⟩:=id n3;obtain ⟨w4,A4,c4,hrun,⟨E0,E1,E2,E3⟩,⟨F0,F1⟩,⟨hG3,hB3,hC3⟩,H1,HF,hfin⟩:=HSTEP.out _ _ _ n3 x3;have HFIN:=Lib.hid hfin
       clear n3 x3 hfin)
    | (refine kgw rfl (.tmp 51) (.tmp 56) _ _ rfl _ _ _ _ (by simp [Act.eval,Act.put]) (by simp [Act.eval,Act.put]) hrun ?_))
   all_goals
    clear hrun E0 E1 E2 E3 F0 F1 H1 HF
    go_end0
    exact HFIN.out
end Go.Proofs.YtopddaabiinboaaGreat

/- Layer 20: a coefficient of a row of terms is overwritten. -/
namespace Go.Proofs.YtopddaabiinboaaGreat
open Go.RowKit
theorem zc8.set_ {T k base:Nat} {W:World} {g c n:Nat} {xs:List Value} (h:zc8 T k base W (.slice (some ⟨g,0,none⟩) n c) n xs) (j:Nat) (hj:j < n * k) (u:Value) (hu:gc6 u=false) :
 zc8 T k base (W.setCell ⟨g,j,none⟩ u) (.slice (some ⟨g,0,none⟩) n c) n (xs.set j u):=by
 obtain ⟨⟨h1,h2⟩,h3⟩:=h;rcases h2 with ⟨h2,-⟩ | ⟨g',cap,cur,e,hb,hg,hc,hm,hs,ht⟩
 · cases h2
 injection e with e1 e2 e3
 injection e1 with e1
 injection e1 with e1
 subst e1 e3;have hheap:(W.setCell ⟨g,j,none⟩ u).heap[g]?=some (.cells (cur.setIfInBounds j u) T (0,0)):=by
  simp [World.setCell,Array.getElem?_modify,hg]
 refine ⟨⟨by rw [List.length_set]; exact h1,.inr ⟨g,c,cur.setIfInBounds j u,rfl,hb,hheap,hc,hm,by simpa using hs,?_⟩⟩,?_⟩
 · rw [Array.toList_setIfInBounds,List.take_set,ht]
 · intro R cur' T' fr e hb' u' hu';have hR:g=R:=by simpa [Value.ownBlock] using e
   rw [<- hR,hheap] at hb';injection hb' with hb'
   injection hb' with hb'
   rw [<- hb',Array.toList_setIfInBounds] at hu';rcases List.mem_or_eq_of_mem_set hu' with hu' | rfl
   · exact h3 g cur T (0,0) rfl hg u' hu'
   · exact hu
theorem jik (rs:List (Bool × Value × Int × Mo)):∀ (k:Nat) (hk:k < rs.length) (b:Bool) (s:Value) (z:Int),vgx (rs.set k (b,s,z,rs[k].2.2.2))=((vgx rs).set (k * 6) (.bool b)).set (k * 6+1) s:=by
 induction rs with
 | nil=>intro k hk; simp at hk
 | cons r rs ih =>
   intro k hk b s z;have hl:(tmC r.1 r.2.1 r.2.2.2).length=6:=rfl;cases k with
   | zero=>simp [vgx,tmC]
   | succ k =>
     have:=ih k (by simpa using hk) b s z;simp only [List.set_cons_succ,List.getElem_cons_succ,vgx,List.flatMap_cons] at this ⊢;rw [this,List.set_append_right _ _ (by rw [hl]; omega),List.set_append_right _ _ (by rw [hl]; omega),hl]
     congr 3 <;> omega
theorem TsV.set_ {base:Nat} {W:World} {g c:Nat} {l:Sp} (h:TsV none base W (.slice (some ⟨g,0,none⟩) l.length c) l) (k:Nat) (hk:k < l.length) {b:Bool} {A:Option Addr} {n d:Nat} {z:Int} (hc:Cf W none (.agg #[.bool b,.slice A n d]) z) :
 TsV none base ((W.setCell ⟨g,k * 6,none⟩ (.bool b)).setCell ⟨g,k * 6+1,none⟩ (.slice A n d)) (.slice (some ⟨g,0,none⟩) l.length c) (l.set k (z,l[k].2))/\(∀ v ds,vc2 W v ds->vc2 ((W.setCell ⟨g,k * 6,none⟩ (.bool b)).setCell ⟨g,k * 6+1,none⟩ (.slice A n d)) v ds):=by
 obtain ⟨rs,rfl,h2,h3⟩:=h;rw [List.length_map] at hk;simp only [List.length_map] at h2 ⊢;have q0:=h2.cell (k * 6) (by omega);have q1:=h2.cell (k * 6+1) (by omega);have f0:=gg3 rs k hk 0 (by omega);have f1:=gg3 rs k hk 1 (by omega);rw [Nat.add_zero] at f0;rw [f0] at q0;rw [f1] at q1;obtain ⟨b',B',n',c',e'⟩:=(h3 rs[k] (List.getElem_mem hk)).unpack;simp only [Value.agg.injEq,Array.mk.injEq,List.cons.injEq,and_true] at e';have q1':W.cell? ⟨g,k * 6+1,none⟩=some (.slice B' n' c'):=by rw [q1,<- e'.2]; rfl
 have hnat:∀ v ds,vc2 W v ds->vc2 ((W.setCell ⟨g,k * 6,none⟩ (.bool b)).setCell ⟨g,k * 6+1,none⟩ (.slice A n d)) v ds:=fun v ds hv =>
  (hv.box q0 rfl _).box (u:=.slice B' n' c') (by rw [World.cell?_setCell_other _ _ _ _ (by simp)]; exact q1') rfl _
 refine ⟨⟨rs.set k (b,.slice A n d,z,rs[k].2.2.2),?_,?_,fun r hr=>?_⟩,hnat⟩
 · rw [List.map_set]; simp
 · rw [List.length_set,jik rs k hk];exact (h2.set_ (k * 6) (by omega) _ rfl).set_ (k * 6+1) (by omega) _ rfl
 · rcases List.mem_or_eq_of_mem_set hr with hr | rfl
   · exact (h3 r hr).turn hnat
   · exact hc.turn hnat
end Go.Proofs.YtopddaabiinboaaGreat
