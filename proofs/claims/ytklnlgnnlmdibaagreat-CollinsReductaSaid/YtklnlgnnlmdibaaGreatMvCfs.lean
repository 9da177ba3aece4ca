/- Layer 23: mainvar.coefs. -/
import Derived.Test.YtklnlgnnlmdibaaGreatMr26
import Derived.Test.YtklnlgnnlmdibaaGreatMr27
import Derived.Test.YtklnlgnnlmdibaaGreatMr21
set_option linter.unusedSimpArgs false
set_option linter.unusedVariables false

set_option maxRecDepth 100000
set_option maxHeartbeats 8000000
namespace Go.Proofs.YtklnlgnnlmdibaaGreat
open Go.RowKit
theorem qay : ∀ (n : Nat) (cs : List Pl), cs.length <= n + 1 -> qaa n cs = cs ++ List.replicate (n + 1 - cs.length) Pl.zero
 | 0,[],_=>rfl
 | 0,[c],_=>rfl
 | n+1,[],_=>by
   rw [qaa,qay n [] (by simp)];simp [List.replicate_succ]
 | n+1,c :: r,h=>by
   rw [qaa,qay n r (by simpa using h)];simp
theorem xca (n:Nat) (p:Pl):(List.replicate (n+1) Pl.zero).set 0 p=qaa n [p]:=by
 rw [qay n [p] (by simp)];simp [List.replicate_succ]
def qcf (q:Nat->Prop) (L:List Pl) (w:World) (e:Ending) (w':World):Prop:=∃ R,e=.returned (.slice (some ⟨R,0,none⟩) L.length L.length)/\w.heap.size<=R/\jh w' (fun b=>q b\/w.heap.size<=b) R L/\Ext w w'
theorem jh.turn {W W':World} {q q':Nat->Prop} {R:Nat} {l:List Pl} (h:jh W q R l) (hs:W.heap.size<=W'.heap.size) (hn:∀ v ds,jc W v ds->jc W' v ds) (hb:W'.heap[R]?=W.heap[R]?) (hc:∀ b,b < W.heap.size->q b->b ≠ R->q' b/\W'.heap[b]?=W.heap[b]?):jh W' q' R l:=by
 obtain ⟨h1,h2,h3⟩:=h;have k:∀ i,W'.cell? ⟨R,i,none⟩=W.cell? ⟨R,i,none⟩:=fun i=>World.cell?_of_block (a:=⟨R,i,none⟩) hb
 refine ⟨by omega,fun i=>(World.frozen?_of_block (a:=⟨R,i,none⟩) hb).trans (h2 i),fun i hi=>?_⟩;obtain ⟨A0,n0,c0,A1,n1,c1,h4,h5⟩:=h3 i hi;exact ⟨A0,n0,c0,A1,n1,c1,h4.same (k _) (fun n _=>k _),PlV.turn_ hs hn (fun b hb' hq=>⟨⟨(hc b hb' hq.1 hq.2).1,hq.2⟩,(hc b hb' hq.1 hq.2).2⟩) h5⟩
structure CfS (W : World) (base : Nat) (q : Nat -> Prop) (lv : Int) (m : Nat) (R : Nat) (bs : List Nat) (LL : List (List Pl)) : Prop where
 len:bs.length=LL.length
 rlt:R < W.heap.size
 rb:base<=R
 bb:∀ b ∈ bs,R < b/\b < W.heap.size
 dist:bs.Pairwise (· ≠ ·)
 hd:∀ i (h:i < LL.length) (h':i < bs.length),W.cell? ⟨R,i * 4,none⟩=some (.int .i64 lv)/\W.cell? ⟨R,i * 4+1,none⟩=some (.bool false)/\W.cell? ⟨R,i * 4+2,none⟩=some (.slice none 0 0)/\W.cell? ⟨R,i * 4+3,none⟩=some (.slice (some ⟨bs[i],0,none⟩) m m)
 row:∀ i (h:i < LL.length) (h':i < bs.length),LL[i].length=m/\jh W (fun b=>q b/\b ≠ R/\b ∉ bs) bs[i] LL[i]
theorem CfS.ext {W W' : World} {base : Nat} {q : Nat -> Prop} {lv : Int} {m R : Nat} {bs : List Nat} {LL : List (List Pl)} (h : CfS W base q lv m R bs LL) (hx : Ext W W') : CfS W' base q lv m R bs LL where
 len:=h.len
 rlt:=Nat.lt_of_lt_of_le h.rlt hx.size
 rb:=h.rb
 bb b hb:=⟨(h.bb b hb).1,Nat.lt_of_lt_of_le (h.bb b hb).2 hx.size⟩
 dist:=h.dist
 hd i h1 h2:=by
  have k:∀ j,W'.cell? ⟨R,j,none⟩=W.cell? ⟨R,j,none⟩:=fun j=>hx.cell (p:=⟨R,j,none⟩) h.rlt
  obtain ⟨a,b,c,d⟩:=h.hd i h1 h2;exact ⟨(k _).trans a,(k _).trans b,(k _).trans c,(k _).trans d⟩
 row i h1 h2:=⟨(h.row i h1 h2).1,(h.row i h1 h2).2.ext hx⟩
theorem CfS.push {W W' : World} {base : Nat} {q : Nat -> Prop} {lv : Int} {m R B : Nat} {bs : List Nat} {LL : List (List Pl)} {L : List Pl} (h : CfS W base q lv m R bs LL) (hq : ∀ b, q b -> b < W.heap.size -> b < B) (hB : ∀ b ∈ bs, b < B) (hRB : R < B) (hBs : B < W'.heap.size) (hs : W.heap.size <= W'.heap.size) (hn : ∀ v ds, jc W v ds -> jc W' v ds) (hc : ∀ b, b ≠ R -> b < W.heap.size -> W'.heap[b]? = W.heap[b]?)
 (hcell:∀ j,j < LL.length * 4->W'.cell? ⟨R,j,none⟩=W.cell? ⟨R,j,none⟩)
 (hL:L.length=m) (hrow:jh W' (fun b=>q b/\b ≠ R/\b ∉ bs ++ [B]) B L)
 (hnew:W'.cell? ⟨R,LL.length * 4,none⟩=some (.int .i64 lv)/\W'.cell? ⟨R,LL.length * 4+1,none⟩=some (.bool false)/\W'.cell? ⟨R,LL.length * 4+2,none⟩=some (.slice none 0 0)/\W'.cell? ⟨R,LL.length * 4+3,none⟩=some (.slice (some ⟨B,0,none⟩) m m)) :
 CfS W' base q lv m R (bs ++ [B]) (LL ++ [L]) where
 len:=by simp [h.len]
 rlt:=Nat.lt_of_lt_of_le h.rlt hs
 rb:=h.rb
 bb b hb:=by
  rcases List.mem_append.1 hb with hb | hb
  · exact ⟨(h.bb b hb).1,Nat.lt_of_lt_of_le (h.bb b hb).2 hs⟩
  · rw [List.mem_singleton.1 hb]; exact ⟨hRB,hBs⟩
 dist:=by
  rw [List.pairwise_append];refine ⟨h.dist,by simp,fun a ha b hb=>?_⟩;rw [List.mem_singleton.1 hb];have:=hB a ha;omega
 hd i h1 h2:=by
  have hlen:=h.len
  by_cases hi:i < LL.length
  · obtain ⟨a,b,c,d⟩:=h.hd i hi (by omega);rw [List.getElem_append_left (by omega)];exact ⟨(hcell _ (by omega)).trans a,(hcell _ (by omega)).trans b,(hcell _ (by omega)).trans c,(hcell _ (by omega)).trans d⟩
  · obtain rfl:i=LL.length:=by simp at h1; omega
    rw [List.getElem_append_right (by omega)];simpa using hnew
 row i h1 h2:=by
  have hlen:=h.len
  by_cases hi:i < LL.length
  · rw [List.getElem_append_left hi,List.getElem_append_left (show i < bs.length by omega)];obtain ⟨a,b⟩:=h.row i hi (by omega);have hbi:=h.bb _ (List.getElem_mem (by omega:i < bs.length));refine ⟨a,b.turn hs hn (hc _ (by omega) hbi.2) fun c hc1 hc2 _=>⟨⟨hc2.1,hc2.2.1,fun hm=>?_⟩,hc c hc2.2.1 hc1⟩⟩;rcases List.mem_append.1 hm with hm | hm
    · exact hc2.2.2 hm
    · have:=hq c hc2.1 hc1;rw [List.mem_singleton.1 hm] at this;omega
  · obtain rfl:i=LL.length:=by simp at h1; omega
    rw [List.getElem_append_right (Nat.le_refl LL.length),List.getElem_append_right (show bs.length<=LL.length by omega)];simp only [hlen,Nat.sub_self,List.getElem_cons_zero];exact ⟨hL,hrow⟩
theorem CfS.set_ {W:World} {base:Nat} {q:Nat->Prop} {lv:Int} {m R:Nat} {bs:List Nat} {LL:List (List Pl)} (h:CfS W base q lv m R bs LL) (i k:Nat) (hi:i < LL.length) (hi':i < bs.length) (hk:k < m) (p:Pl) {A0 A1:Option Addr} {n0 c0 n1 c1:Nat} (hp:PlV W (fun b=>q b/\b ≠ R/\b ∉ bs) p (plV p (.slice A0 n0 c0) (.slice A1 n1 c1))) :
 CfS ((((W.setCell ⟨bs[i],k * 4,none⟩ (.int .i64 p.lv)).setCell ⟨bs[i],k * 4+1,none⟩ (.bool p.neg)).setCell ⟨bs[i],k * 4+2,none⟩ (.slice A0 n0 c0)).setCell ⟨bs[i],k * 4+3,none⟩ (.slice A1 n1 c1)) base q lv m R bs (LL.set i (LL[i].set k p))/\(∀ v ds,jc W v ds->jc ((((W.setCell ⟨bs[i],k * 4,none⟩ (.int .i64 p.lv)).setCell ⟨bs[i],k * 4+1,none⟩ (.bool p.neg)).setCell ⟨bs[i],k * 4+2,none⟩ (.slice A0 n0 c0)).setCell ⟨bs[i],k * 4+3,none⟩ (.slice A1 n1 c1)) v ds):=by
 obtain ⟨hlm,hrow⟩:=h.row i hi hi';have hbi:=h.bb _ (List.getElem_mem hi');obtain ⟨hset,hnat⟩:=hrow.set_ k (by omega) p (hp.mono fun b hb=>⟨hb,fun e=>hb.2.2 (e ▸ List.getElem_mem hi')⟩);obtain ⟨W',hW'⟩:∃ W',((((W.setCell ⟨bs[i],k * 4,none⟩ (.int .i64 p.lv)).setCell ⟨bs[i],k * 4+1,none⟩ (.bool p.neg)).setCell ⟨bs[i],k * 4+2,none⟩ (.slice A0 n0 c0)).setCell ⟨bs[i],k * 4+3,none⟩ (.slice A1 n1 c1))=W':=⟨_,rfl⟩;have hother:∀ b,b ≠ bs[i]->W'.heap[b]?=W.heap[b]?:=fun b hb=>by
  rw [<- hW'];rw [Below.heap_setCell _ _ _ b hb,Below.heap_setCell _ _ _ b hb,Below.heap_setCell _ _ _ b hb,Below.heap_setCell _ _ _ b hb]
 have hsz:W'.heap.size=W.heap.size:=by rw [<- hW']; simp [World.setCell]
 rw [hW'] at hset hnat ⊢;have hRb:R ≠ bs[i]:=by omega
 have hdist:∀ j (hj:j < bs.length),j ≠ i->bs[j] ≠ bs[i]:=fun j hj hne=>by
  have:=List.pairwise_iff_getElem.1 h.dist;rcases Nat.lt_or_gt_of_ne hne with hlt | hlt
  · exact this j i hj hi' hlt
  · exact fun e=>this i j hi' hj hlt e.symm
 refine ⟨?_,hnat⟩
 exact {
  len:=by rw [List.length_set]; exact h.len
  rlt:=by rw [hsz]; exact h.rlt
  rb:=h.rb
  bb:=fun b hb=>by rw [hsz]; exact h.bb b hb
  dist:=h.dist
  hd:=fun j h1 h2=>by
   rw [List.length_set] at h1;have kk:∀ j,W'.cell? ⟨R,j,none⟩=W.cell? ⟨R,j,none⟩:=fun j=>World.cell?_of_block (a:=⟨R,j,none⟩) (hother R hRb)
   obtain ⟨a,b,c,d⟩:=h.hd j h1 h2;exact ⟨(kk _).trans a,(kk _).trans b,(kk _).trans c,(kk _).trans d⟩
  row:=fun j h1 h2=>by
   rw [List.length_set] at h1
   by_cases hj:j=i
   · subst hj;rw [List.getElem_set_self];exact ⟨by rw [List.length_set]; exact hlm,hset⟩
   · rw [List.getElem_set_ne (Ne.symm hj)];obtain ⟨a,b⟩:=h.row j h1 h2
     exact ⟨a,b.turn (by omega) hnat (hother _ (hdist j h2 hj)) fun c _ hc _=>⟨hc,hother c fun e=>hc.2.2 (e ▸ List.getElem_mem hi')⟩⟩ }
theorem CfS.fin {W:World} {base:Nat} {q q':Nat->Prop} {lv:Int} {m R:Nat} {bs:List Nat} {LL:List (List Pl)} (h:CfS W base q lv m R bs LL) (hfr:∀ i,W.frozen? ⟨R,i,none⟩=false) (hm:m<=9223372036854775807) (hq:∀ b,(q b\/base<=b)->q' b):jh W q' R (LL.map fun ks=>.mk lv false [] ks):=by
 refine ⟨h.rlt,hfr,fun i hi=>?_⟩;rw [List.length_map] at hi;have hi':i < bs.length:=by rw [h.len]; exact hi
 obtain ⟨a,b,c,d⟩:=h.hd i hi hi';obtain ⟨hl,hr⟩:=h.row i hi hi';have hbi:=h.bb _ (List.getElem_mem hi');have hrb:=h.rb;rw [List.getElem_map];refine ⟨none,0,0,some ⟨bs[i],0,none⟩,m,m,⟨a,b,c,d⟩,?_⟩;have hpl:jd W (fun b=>q' b/\b ≠ R) LL[i] (some ⟨bs[i],0,none⟩) 0:=(hr.mono (q':=fun b=>q' b/\b ≠ R) fun b hb=>⟨hq b (.inl hb.1),hb.2.1⟩).fin ⟨hq _ (.inr (by omega)),by omega⟩;have:=PlV.mk (t:=.mk lv false [] LL[i]) (s:=.slice none 0 0) (A:=some ⟨bs[i],0,none⟩) (c:=m) (jc.nil W) (by show LL[i].length<=m; omega) hm hpl;unfold plV at this ⊢;simp only [Pl.lv,Pl.neg,Pl.cs] at this ⊢;rw [hl] at this;exact this
theorem Pl.dgL_cs {l:Int} {p:Pl} (h:p.lv=l):p.dgL l=p.cs.length - 1:=by
 cases p; simp only [Pl.lv,Pl.cs] at *; rw [Pl.dgL,if_neg (by omega),if_pos h]
theorem Pl.cfs_low_ {l:Int} {n:Nat} {p:Pl} (h:p.lv < l):p.cfs l n=qaa n [p]:=by cases p; simp only [Pl.lv] at h; rw [Pl.cfs,if_pos h]
theorem Pl.cfs_eq_ {l:Int} {n:Nat} {p:Pl} (h:p.lv=l):p.cfs l n=qaa n p.cs:=by cases p; simp only [Pl.lv,Pl.cs] at *; rw [Pl.cfs,if_neg (by omega),if_pos h]
theorem Pl.cfs_gt_ {l:Int} {n:Nat} {p:Pl} (h:l < p.lv):p.cfs l n=(List.range (n+1)).map fun i=>.mk p.lv false [] (p.cs.map fun c=>(c.cfs l n).getD i Pl.zero):=by
 cases p; simp only [Pl.lv,Pl.cs] at *; rw [Pl.cfs,if_neg (by omega),if_neg (by omega)]; simp only [zaf]
theorem gbs (N:Nat):∀ u ∈ jl (List.replicate N zx),um u=false:=fun u hu=>by
 simp only [jl,List.mem_flatMap] at hu;obtain ⟨r,hr,hu⟩:=hu;rw [List.eq_of_mem_replicate hr] at hu;simp only [plC,zx,List.mem_cons,List.not_mem_nil,or_false] at hu;rcases hu with rfl | rfl | rfl | rfl <;> rfl
def CfJ (base:Nat) (W:World) (Q:Nat->Prop) (lv:Int) (mm R n k:Nat) (wr:World):Prop:=Ext W wr/\(∀ i,wr.frozen? ⟨R,i,none⟩=false)/\(∀ j,j < (n+1) * 4->∃ u,wr.cell? ⟨R,j,none⟩=some u/\um u=false)/\∃ bs,CfS wr base Q lv mm R bs (List.replicate k (List.replicate mm Pl.zero))
theorem uau {V:World} {R k:Nat} {u0 u1 u2 u3:Value} (h0:V.cell? ⟨R,k,none⟩=some u0) (h1:V.cell? ⟨R,k+1,none⟩=some u1) (h2:V.cell? ⟨R,k+2,none⟩=some u2) (h3:V.cell? ⟨R,k+3,none⟩=some u3) (d0:um u0=false) (d1:um u1=false) (d2:um u2=false) (d3:um u3=false) (x0 x1 x2 x3:Value) :
 let V':=(((V.setCell ⟨R,k,none⟩ x0).setCell ⟨R,k+1,none⟩ x1).setCell ⟨R,k+2,none⟩ x2).setCell ⟨R,k+3,none⟩ x3
 (V'.cell? ⟨R,k,none⟩=some x0/\V'.cell? ⟨R,k+1,none⟩=some x1/\V'.cell? ⟨R,k+2,none⟩=some x2/\V'.cell? ⟨R,k+3,none⟩=some x3)/\(∀ j,(j < k\/k+3 < j)->V'.cell? ⟨R,j,none⟩=V.cell? ⟨R,j,none⟩)/\(∀ b,b ≠ R->V'.heap[b]?=V.heap[b]?)/\(∀ a,V'.frozen? a=V.frozen? a)/\V'.heap.size=V.heap.size/\∀ v ds,jc V v ds->jc V' v ds:=by
 intro V';have e1:(V.setCell ⟨R,k,none⟩ x0).cell? ⟨R,k+1,none⟩=some u1:=by rw [World.cell?_setCell_other _ _ _ _ (by simp)]; exact h1
 have e2:((V.setCell ⟨R,k,none⟩ x0).setCell ⟨R,k+1,none⟩ x1).cell? ⟨R,k+2,none⟩=some u2:=by rw [World.cell?_setCell_other _ _ _ _ (by simp),World.cell?_setCell_other _ _ _ _ (by simp)]; exact h2
 have e3:(((V.setCell ⟨R,k,none⟩ x0).setCell ⟨R,k+1,none⟩ x1).setCell ⟨R,k+2,none⟩ x2).cell? ⟨R,k+3,none⟩=some u3:=by rw [World.cell?_setCell_other _ _ _ _ (by simp),World.cell?_setCell_other _ _ _ _ (by simp),World.cell?_setCell_other _ _ _ _ (by simp)]; exact h3
 refine ⟨⟨?_,?_,?_,World.cell?_setCell_same _ _ _ e3⟩,fun j hj=>?_,fun b hb=>?_,fun a=>?_,?_,fun v ds hv=>(((hv.box h0 d0 _).box e1 d1 _).box e2 d2 _).box e3 d3 _⟩
 · rw [World.cell?_setCell_other _ _ _ _ (by simp),World.cell?_setCell_other _ _ _ _ (by simp),World.cell?_setCell_other _ _ _ _ (by simp)]; exact World.cell?_setCell_same _ _ _ h0
 · rw [World.cell?_setCell_other _ _ _ _ (by simp),World.cell?_setCell_other _ _ _ _ (by simp)]; exact World.cell?_setCell_same _ _ _ e1
 · rw [World.cell?_setCell_other _ _ _ _ (by simp)]; exact World.cell?_setCell_same _ _ _ e2
 · iterate 4 rw [World.cell?_setCell_other _ _ _ _ (by intro e; injection e; omega)]
 · rw [Below.heap_setCell _ _ _ b hb,Below.heap_setCell _ _ _ b hb,Below.heap_setCell _ _ _ b hb,Below.heap_setCell _ _ _ b hb]
 · simp only [V',World.frozen?_setCell]
 · simp [V',World.setCell]
theorem CfJ.step {base:Nat} {W:World} {Q:Nat->Prop} {lv:Int} {mm R n k:Nat} {wr V2:World} (h:CfJ base W Q lv mm R n k wr) (hk:k < n+1) (hW:W.heap.size<=R) (hx:Ext wr V2) (hs:V2.heap.size=wr.heap.size+1) (hrow:∀ q,jh V2 q wr.heap.size (List.replicate mm Pl.zero)) :
 (∃ u0 u1 u2 u3,V2.cell? ⟨R,k * 4,none⟩=some u0/\V2.cell? ⟨R,k * 4+1,none⟩=some u1/\V2.cell? ⟨R,k * 4+2,none⟩=some u2/\V2.cell? ⟨R,k * 4+3,none⟩=some u3)/\(∀ i,V2.frozen? ⟨R,i,none⟩=false) /\
 CfJ base W Q lv mm R n (k+1) ((((V2.setCell ⟨R,k * 4,none⟩ (.int .i64 lv)).setCell ⟨R,k * 4+1,none⟩ (.bool false)).setCell ⟨R,k * 4+2,none⟩ (.slice none 0 0)).setCell ⟨R,k * 4+3,none⟩ (.slice (some ⟨wr.heap.size,0,none⟩) mm mm)):=by
 obtain ⟨h1,h2,h3,bs,h4⟩:=h;have hc:∀ j,V2.cell? ⟨R,j,none⟩=wr.cell? ⟨R,j,none⟩:=fun j=>hx.cell (p:=⟨R,j,none⟩) h4.rlt
 have hf:∀ i,V2.frozen? ⟨R,i,none⟩=false:=fun i=>(hx.frozen (p:=⟨R,i,none⟩) h4.rlt).trans (h2 i)
 obtain ⟨u0,c0,d0⟩:=h3 (k * 4) (by omega);obtain ⟨u1,c1,d1⟩:=h3 (k * 4+1) (by omega);obtain ⟨u2,c2,d2⟩:=h3 (k * 4+2) (by omega);obtain ⟨u3,c3,d3⟩:=h3 (k * 4+3) (by omega);have hfour:=uau ((hc _).trans c0) ((hc _).trans c1) ((hc _).trans c2) ((hc _).trans c3) d0 d1 d2 d3 (.int .i64 lv) (.bool false) (.slice none 0 0) (.slice (some ⟨wr.heap.size,0,none⟩) mm mm);refine ⟨⟨u0,u1,u2,u3,(hc _).trans c0,(hc _).trans c1,(hc _).trans c2,(hc _).trans c3⟩,hf,?_⟩;obtain ⟨V3,hV3⟩:∃ V3,((((V2.setCell ⟨R,k * 4,none⟩ (.int .i64 lv)).setCell ⟨R,k * 4+1,none⟩ (.bool false)).setCell ⟨R,k * 4+2,none⟩ (.slice none 0 0)).setCell ⟨R,k * 4+3,none⟩ (.slice (some ⟨wr.heap.size,0,none⟩) mm mm))=V3:=⟨_,rfl⟩;have hext:Ext W V3:=by rw [<- hV3]; exact ((((h1.trans hx).setCell hW _).setCell hW _).setCell hW _).setCell hW _
 simp only [hV3] at hfour ⊢;obtain ⟨f1,f2,f3,f4,f5,f6⟩:=hfour;refine ⟨hext,fun i=>(f4 _).trans (hf i),fun j hj=>?_,bs ++ [wr.heap.size],?_⟩
 · by_cases hjk:j < k * 4\/k * 4+3 < j
   · rw [f2 j hjk,hc]; exact h3 j hj
   · rcases (show j=k * 4\/j=k * 4+1\/j=k * 4+2\/j=k * 4+3 by omega) with rfl | rfl | rfl | rfl
     · exact ⟨_,f1.1,rfl⟩
     · exact ⟨_,f1.2.1,rfl⟩
     · exact ⟨_,f1.2.2.1,rfl⟩
     · exact ⟨_,f1.2.2.2,rfl⟩
 · have hrl:=h4.rlt
   have := h4.push (W' := V3) (B := wr.heap.size) (L := List.replicate mm Pl.zero) (fun b _ hb => hb) (fun b hb => (h4.bb b hb).2) h4.rlt (by omega) (by omega) (fun v ds hv => f6 v ds (hv.ext hx)) (fun b hb hlt => (f3 b hb).trans (hx.below.block b hlt))
    (fun j hj=>by rw [List.length_replicate] at hj; exact (f2 j (.inl hj)).trans (hc j)) List.length_replicate
    ((hrow (fun b=>Q b/\b ≠ R/\b ∉ bs ++ [wr.heap.size])).turn (by omega) f6 (f3 _ (by omega)) (fun b _ hq _=>⟨hq,f3 b hq.2.1⟩))
    (by rw [List.length_replicate]; exact f1)
   rw [show List.replicate (k+1) (List.replicate mm Pl.zero)=List.replicate k (List.replicate mm Pl.zero) ++ [List.replicate mm Pl.zero] from List.replicate_succ'];exact this
structure CfK (base D : Nat) (W : World) (Q : Nat -> Prop) (p : Pl) (l : Int) (n R k i : Nat) (wr : World) : Prop where
 ext:Ext W wr
 fr:∀ j,wr.frozen? ⟨R,j,none⟩=false
 rd:R < D/\D<=wr.heap.size
 rows:∃ bs LL,CfS wr base Q p.lv p.cs.length R bs LL/\LL.length=n+1/\(∀ b ∈ bs,b < D)/\∀ r (h:r < LL.length) j (h':j < LL[r].length),(j < k\/(j=k/\r < i))->LL[r][j]=((p.cs.getD j Pl.zero).cfs l n).getD r Pl.zero
theorem CfK.ext_ {base D:Nat} {W:World} {Q:Nat->Prop} {p:Pl} {l:Int} {n R k i:Nat} {wr W':World} (h:CfK base D W Q p l n R k i wr) (hx:Ext wr W'):CfK base D W Q p l n R k i W':=by
 obtain ⟨bs,LL,h1,h2⟩:=h.rows;exact ⟨h.ext.trans hx,fun j=>(hx.frozen (p:=⟨R,j,none⟩) h1.rlt).trans (h.fr j),⟨h.rd.1,Nat.le_trans h.rd.2 hx.size⟩,bs,LL,h1.ext hx,h2⟩
theorem CfK.next {base D:Nat} {W:World} {Q:Nat->Prop} {p:Pl} {l:Int} {n R k:Nat} {wr:World} (h:CfK base D W Q p l n R k (n+1) wr):CfK base D W Q p l n R (k+1) 0 wr:=by
 obtain ⟨bs,LL,h1,h2,h3,h4⟩:=h.rows;exact ⟨h.ext,h.fr,h.rd,bs,LL,h1,h2,h3,fun r hr j hj hc=>h4 r hr j hj (by omega)⟩
theorem CfK.step {base D:Nat} {W:World} {Q:Nat->Prop} {p:Pl} {l:Int} {n R k i:Nat} {wr:World} (h:CfK base D W Q p l n R k i wr) (hW:W.heap.size<=R) (hi:i < n+1) (hk:k < p.cs.length):∃ B,wr.cell? ⟨R,i * 4+3,none⟩=some (.slice (some ⟨B,0,none⟩) p.cs.length p.cs.length)/\R < B/\B < D /\
 (∃ u0 u1 u2 u3,wr.cell? ⟨B,k * 4,none⟩=some u0/\wr.cell? ⟨B,k * 4+1,none⟩=some u1/\wr.cell? ⟨B,k * 4+2,none⟩=some u2/\wr.cell? ⟨B,k * 4+3,none⟩=some u3)/\(∀ j,wr.frozen? ⟨B,j,none⟩=false) /\
 ∀ (x:Pl) (A0 A1:Option Addr) (n0 c0 n1 c1:Nat),x=((p.cs.getD k Pl.zero).cfs l n).getD i Pl.zero->PlV wr (fun b=>Q b/\b ≠ R/\(b < base\/D<=b)) x (plV x (.slice A0 n0 c0) (.slice A1 n1 c1)) ->
   CfK base D W Q p l n R k (i+1) ((((wr.setCell ⟨B,k * 4,none⟩ (.int .i64 x.lv)).setCell ⟨B,k * 4+1,none⟩ (.bool x.neg)).setCell ⟨B,k * 4+2,none⟩ (.slice A0 n0 c0)).setCell ⟨B,k * 4+3,none⟩ (.slice A1 n1 c1)) /\
   ∀ v ds,jc wr v ds->jc ((((wr.setCell ⟨B,k * 4,none⟩ (.int .i64 x.lv)).setCell ⟨B,k * 4+1,none⟩ (.bool x.neg)).setCell ⟨B,k * 4+2,none⟩ (.slice A0 n0 c0)).setCell ⟨B,k * 4+3,none⟩ (.slice A1 n1 c1)) v ds:=by
 obtain ⟨bs,LL,h1,h2,h3,h4⟩:=h.rows;have hil:i < LL.length:=by omega
 have hib:i < bs.length:=by rw [h1.len]; exact hil
 obtain ⟨-,-,-,hd⟩:=h1.hd i hil hib;have hbb:=h1.bb _ (List.getElem_mem hib);obtain ⟨hlm,hrow⟩:=h1.row i hil hib;obtain ⟨C0,j0,f0,C1,j1,f1,⟨r0,r1,r2,r3⟩,-⟩:=hrow.2.2 k (by omega);refine ⟨bs[i],hd,hbb.1,h3 _ (List.getElem_mem hib),⟨_,_,_,_,r0,r1,r2,r3⟩,hrow.2.1,fun x A0 A1 n0 c0 n1 c1 hx hp=>?_⟩;have hrb:=h1.rb;obtain ⟨hset,hnat⟩:=h1.set_ i k hil hib hk x (hp.mono fun b hb=>⟨hb.1,hb.2.1,fun hm=>by
  have e1:=h3 b hm;have e2:=(h1.bb b hm).1
  rcases hb.2.2 with e | e <;> omega⟩)
 have hWB:W.heap.size<=bs[i]:=by omega
 refine ⟨⟨(((h.ext.setCell hWB _).setCell hWB _).setCell hWB _).setCell hWB _,fun j=>by simp only [World.frozen?_setCell]; exact h.fr j,⟨h.rd.1,by have:=h.rd.2; simpa [World.setCell] using this⟩,bs,_,hset,by rw [List.length_set]; exact h2,h3,fun r hr j hj hc=>?_⟩,hnat⟩;have hr':r < LL.length:=by rw [List.length_set] at hr; exact hr
 by_cases hri:r=i
 · subst hri
   by_cases hjk:j=k
   · subst hjk;simp only [List.getElem_set_self];exact hx
   · simp only [List.getElem_set_self,List.getElem_set_ne (Ne.symm hjk)];simp only [List.getElem_set_self,List.length_set] at hj;exact h4 r hr' j hj (by omega)
 · simp only [List.getElem_set_ne (Ne.symm hri)] at hj ⊢;exact h4 r hr' j hj (by omega)
def vco (w0:World) (q:Nat->Prop) (l:Int) (n m:Nat):Prop:=∀ (p:Pl) (v:Value) (w:World),p.sz < m->p.Can->p.sz<=1099511627776->p.dgL l<=n->PlV w0 q p v->Ext w0 w->Calls Tryz.prog 81 #[v,.int .i64 l,.int .i64 n] w (qcf (fun b=>q b/\b < w0.heap.size) (p.cfs l n) w)
theorem jcm (w0:World) (q:Nat->Prop) (l:Int) (hl:1<=l) (n:Nat) (hn:n<=1000000000) (m:Nat):vco w0 q l n m:=by
 induction m with
 | zero=>intro p v w h; omega
 | succ m ih =>
 intro p v w hsz hcan hbig hdg h hx0;have hp':PlV w (fun b=>q b/\b < w0.heap.size) p v:=(PlV.turn_ (Nat.le_refl _) (fun _ _ h=>h) (fun b hb hq=>⟨⟨hq,hb⟩,rfl⟩) h).ext hx0;have IH:=Lib.hid ih;have HP:=Lib.hid hp';obtain ⟨A0,n0,c0,A,c,rfl,hnat,hl1,hl2,h4⟩:=h.open_;have H4:=Lib.hid h4;have HX0:=Lib.hid hx0;obtain ⟨W,hW⟩:∃ W,w.alloc (.cells #[.int .i64 p.lv,.bool p.neg,.slice A0 n0 c0,.slice A p.cs.length c] 35)=W:=⟨_,rfl⟩;have hWx:Ext w W:=by rw [<- hW]; exact (Ext.refl w).alloc _
 have hWs:W.heap.size=w.heap.size+1:=by rw [<- hW]; simp
 have hbx:jb W w.heap.size p (.slice A0 n0 c0) (.slice A p.cs.length c):=by rw [<- hW]; exact jb.new w p _ _ _
 obtain ⟨V,hmk,hVx,hVs,hflat⟩:=wbg (n+1) (by omega) W;rw [hWs] at hmk hflat;have hn1:((n+1:Nat):Int)=(n:Int)+1:=by omega
 rw [hn1] at hmk;have HBX:=Lib.hid (fun (W':World) (hx:Ext W W')=>hbx.ext hx (by omega));have HVX:=Lib.hid hVx;have HWX:=Lib.hid hWx;have HFL:=Lib.hid hflat;obtain ⟨b0,b1,b2,b3⟩:=id hbx;obtain ⟨d0,d1,d2,d3⟩:=HBX.out V hVx;have hsx:=hx0.size;clear h hx0 ih hbx hWx hVx hflat hnat h4 hp';unfold plV
 by_cases k1:p.lv < l
 · have hpr:=HFL.out.prow (q:=fun b=>(q b/\b < w0.heap.size)\/w.heap.size<=b) (gas V _ (n+1));rw [List.map_replicate] at hpr;have hset:=(hpr.set_ 0 (by simp) p ((HP.out.ext (HWX.out.trans HVX.out)).mono fun b hb=>⟨.inl hb,by omega⟩)).1;rw [show (List.replicate (n+1) zx.1).set 0 p=p.cfs l n by rw [Pl.cfs_low_ k1]; exact xca n p] at hset;have HST:=Lib.hid hset;obtain ⟨C0,j0,f0,C1,j1,f1,⟨r0,r1,r2,r3⟩,-⟩:=hpr.2.2 0 (by simp);have hfr:=hpr.2.1;simp only [Nat.zero_mul,Nat.zero_add] at r0 r1 r2 r3 HST;have hlen:=p.cfs_len l n;have HLN:=Lib.hid hlen;have q1:decide (p.lv < l)=true:=by simpa using k1
   clear k1 hpr hset hlen;go_enter Tryz.func81,Tryz.ntmps81;go_wp2_with fail;go_ret;exact ⟨w.heap.size+1,by rw [HLN.out]; rfl,by omega,HST.out,(((((HWX.out.trans HVX.out).setCell (by show w.heap.size<=w.heap.size+1; omega) _).setCell (by show w.heap.size<=w.heap.size+1; omega) _).setCell (by show w.heap.size<=w.heap.size+1; omega) _).setCell (by show w.heap.size<=w.heap.size+1; omega) _)⟩
 by_cases k2:p.lv=l
 · have hcl:p.cs.length<=n+1:=by have:=Pl.dgL_cs k2; omega
   have h4':jd V (fun b=>q b/\b < w0.heap.size) p.cs A 0:=jd.turn (by have:=(HX0.out.trans (HWX.out.trans HVX.out)).size; omega) (fun _ _ h=>h.ext (HX0.out.trans (HWX.out.trans HVX.out))) (fun b hb hq=>⟨⟨hq,hb⟩,(HX0.out.trans (HWX.out.trans HVX.out)).below.block b hb⟩) p.cs A 0 H4.out;obtain ⟨W',hcp,-,hsz',hext,-,hprow⟩:=jbn (q':=fun b=>(q b/\b < w0.heap.size)\/w.heap.size<=b) (dc:=n+1) (sc:=c) HFL.out h4' (fun b hb=>⟨.inl hb,by omega⟩) hcl 3;rw [<- qay n _ hcl,<- Pl.cfs_eq_ k2] at hprow;have HST:=Lib.hid hprow;have HEX:=Lib.hid (hext w (HWX.out.trans HVX.out) (by omega));have HLN:=Lib.hid (p.cfs_len l n);have q1:decide (p.lv < l)=false:=by simp; omega
   have q2:(p.lv == l)=true:=by simpa using k2
   clear k1 k2 hext hprow h4' hcl hdg;go_enter Tryz.func81,Tryz.ntmps81
   go_wp2_with (at_builtin
                refine wpList_copy_run rfl (.tmp 73) (.tmp 75) _ _ rfl _ _ _ _ rfl rfl hcp ?_)
   go_ret;exact ⟨w.heap.size+1,by rw [HLN.out]; rfl,by omega,HST.out,HEX.out⟩
 · have k3:l < p.lv:=by omega
   have q1:decide (p.lv < l)=false:=by simp; omega
   have q2:(p.lv == l)=false:=by simpa using k2
   obtain ⟨mm,hmm⟩:∃ mm,p.cs.length=mm:=⟨_,rfl⟩;have hmb:mm<=1099511627776:=by have:=Pl.sz_len p; omega
   have HKID:Hid (∀ k (hk:k < p.cs.length),p.cs[k].sz < m/\p.cs[k].Can/\p.cs[k].sz<=1099511627776/\p.cs[k].dgL l<=n):=Lib.hid (fun k hk=>by
    have hm:=List.getElem_mem hk;have h1:=Pl.sz_kid hm;obtain ⟨lv,ng,ds,cs⟩:=p;simp only [Pl.lv,Pl.cs] at *;have hkk:=hcan.kids (by omega);have h2:=uap l cs 0 _ hm;rw [Pl.dgL,if_neg (by omega),if_neg (by omega)] at hdg
    exact ⟨by omega,(hkk.2.2.2.1.mem _ hm).2,by omega,by omega⟩)
   have HCF:=Lib.hid (Pl.cfs_gt_ (n:=n) k3);obtain ⟨Q,hQ⟩:∃ Q:Nat->Prop,Q=fun b=>(q b/\b < w0.heap.size)\/w.heap.size<=b:=⟨_,rfl⟩
   have hpr:=HFL.out.prow (q:=Q) (gas V _ (n+1));rw [List.map_replicate] at hpr;have hJ0:CfJ w.heap.size W Q p.lv mm (w.heap.size+1) n 0 V:=by
    refine ⟨HVX.out,hpr.2.1,fun j hj=>?_,[],⟨rfl,hpr.1,by omega,by simp,by simp,fun i h=>by simp at h,fun i h=>by simp at h⟩⟩;have hf:V.heap[w.heap.size+1]?=some (.cells (jl (List.replicate (n+1) zx)).toArray 35 (0,0)):=HFL.out;rw [cell_of_row _ _ j _ _ (0,0) hf,List.getElem?_toArray];have hjl:j < (jl (List.replicate (n+1) zx)).length:=by rw [xy,List.length_replicate]; exact hj
    rw [List.getElem?_eq_getElem hjl];refine ⟨_,rfl,?_⟩;exact gbs _ _ (List.getElem_mem hjl)
   have HJ0:=Lib.hid hJ0;have HQ:=Lib.hid hQ;rw [hmm] at d3 b3;have HMM:=Lib.hid hmm;have HBX3:Hid (∀ W',Ext W W'->W'.cell? ⟨w.heap.size,0,none⟩=some (.int .i64 p.lv)/\W'.cell? ⟨w.heap.size,1,none⟩=some (.bool p.neg)/\W'.cell? ⟨w.heap.size,2,none⟩=some (.slice A0 n0 c0)/\W'.cell? ⟨w.heap.size,3,none⟩=some (.slice A mm c)):=Lib.hid (fun W' hx=>by rw [<- HMM.out]; exact HBX.out W' hx);have hW':w.alloc (.cells #[.int .i64 p.lv,.bool p.neg,.slice A0 n0 c0,.slice A mm c] 35)=W:=by rw [<- hmm]; exact hW
   have HHW:=Lib.hid hW';clear hpr hJ0 hQ k1 k2 hdg hW hcan hsz hbig;rw [hmm];clear hmm;have hW:=HHW.out;clear hW';go_enter Tryz.func81,Tryz.ntmps81;go_wp2_with fail;clear b0 b1 b2 b3 d0 d1 d2 d3 hW hmk
   go_loopw [18] (fun iv wr=>∃ k:Nat,k<=n+1/\iv=.int .i64 k/\Hid (CfJ w.heap.size W Q p.lv mm (w.heap.size+1) n k wr)) (fun iv _=>n+1 - (intOf iv).toNat)
   case atStart=>exact ⟨0,Nat.zero_le _,rfl,HJ0⟩
   case round =>
    obtain ⟨k,hk,rfl,HJ⟩:=hrel
    by_cases hlt:k < n+1
    · obtain ⟨V2,hmk2,hx2,hs2,hrow2⟩:=wz (mm:Int) (by omega) (by omega) wr.drew;rw [Int.toNat_natCast] at hmk2 hrow2;rw [World.size_drew] at hmk2 hs2 hrow2;have hx2':Ext wr V2:=((Ext.refl wr).drew).trans hx2;obtain ⟨⟨u0,u1,u2,u3,c0',c1',c2',c3'⟩,hfr2,hJ2⟩:=HJ.out.step hlt (by omega) hx2' hs2 hrow2;have HJ2:=Lib.hid hJ2;have f0':=hfr2 (k * 4);have f1':=hfr2 (k * 4+1);have f2':=hfr2 (k * 4+2);have f3':=hfr2 (k * 4+3);have Y0:=Lib.hid (HJ.out.1.drew);have Y2:=Lib.hid (HJ.out.1.trans hx2');have hlk:(k:Int) < (n:Int)+1:=by omega
      clear hx2 hx2' hs2 hrow2 hJ2 hfr2;go_upto_region 5 with fail;refine wp_region_held_drew (S:=fun W'=>Ext W W') (by kernel_rfl) Y0.out (fun hHeld=>?_);refine tk 0 ?_;refine tk 1 ?_;refine tk 2 ?_;refine tk 3 ?_ (hy:=Or.inl ⟨by rfl,by intro w' hSw; obtain ⟨b0,b1,b2,b3⟩:=HBX3.out w' hSw; go_simp; (try (with_reducible rfl))⟩);refine tk 4 ?_;refine tk 5 ?_ (hy:=Or.inl ⟨by rfl,by intro w' hSw; obtain ⟨b0,b1,b2,b3⟩:=HBX3.out w' hSw; go_simp; (try (with_reducible rfl))⟩);refine tk 6 ?_;refine wpAnyH_ready (rs:=[7]) (by kernel_rfl) (by simp) ?_;refine AllReadyH.cons rfl (fun K hK=>?_) AllReadyH.nil;go_simp;refine hK.out _ _ Y2.out (fun hHeld=>?_);clear hK K hmk2
      try simp only [Act.put,List.getElem_toArray,List.getElem_cons_zero,List.getElem_cons_succ,List.setIfInBounds_toArray,List.set_cons_zero,List.set_cons_succ]
      refine tk 8 ?_;refine tk 9 ?_;refine wpAnyH_ready (rs:=[10]) (by kernel_rfl) (by simp) ?_;refine AllReadyH.cons rfl (fun K hK=>?_) AllReadyH.nil;go_simp;refine hK.out _ _ HJ2.out.1 (fun hHeld=>?_);clear hK K c0' c1' c2' c3' f0' f1' f2' f3'
      try simp only [Act.put,List.getElem_toArray,List.getElem_cons_zero,List.getElem_cons_succ,List.setIfInBounds_toArray,List.set_cons_zero,List.set_cons_succ]
      refine wpAnyH_done (by kernel_rfl) ?_ _;clear hHeld;go_wp2_with fail
      go_roundw
      case rel=>exact ⟨k+1,by omega,by go_num,HJ2⟩
      case measure=>simp only [intOf]; omega
    · have hke:k=n+1:=by omega
      have hJe:=HJ.out;rw [hke] at hJe
      replace HJ:=Lib.hid hJe
      clear hJe hke;obtain ⟨kk0,rfl⟩:∃ kk0,kk0=k:=⟨k,rfl⟩;obtain ⟨wd,rfl⟩:∃ wd,wd=wr:=⟨wr,rfl⟩;have hK0:CfK w.heap.size wd.heap.size W Q p l n (w.heap.size+1) 0 0 wd:=by
       obtain ⟨j1,j2,j3,bs,j4⟩:=HJ.out;exact ⟨j1,j2,⟨j4.rlt,Nat.le_refl _⟩,bs,_,by rw [HMM.out]; exact j4,List.length_replicate,fun b hb=>(j4.bb b hb).2,fun r hr j hj hc=>by omega⟩
      have HK0:=Lib.hid hK0;obtain ⟨b0,b1,b2,b3⟩:=HBX3.out _ HJ.out.1;clear hK0 HJ HJ0;go_wp2_with fail;clear b0 b1 b2 b3
      go_loopw [35] (fun iv wr=>∃ k:Nat,k<=mm/\iv=.int .i64 k/\Hid (CfK w.heap.size wd.heap.size W Q p l n (w.heap.size+1) k 0 wr)) (fun iv _=>mm - (intOf iv).toNat)
      case atStart=>exact ⟨0,Nat.zero_le _,rfl,HK0⟩
      case round =>
       obtain ⟨k,hk,rfl,HK⟩:=hrel
       by_cases hlt:k < mm
       · have hkc:k < p.cs.length:=by rw [HMM.out]; exact hlt
         obtain ⟨ad,C0,cn0,cc0,C1,cn1,cc1,hA,hadb,hat,hkt⟩:=jd.kid H4.out k hkc;subst hA;have hxx:Ext w0 wr:=HX0.out.trans (HWX.out.trans HK.out.ext);obtain ⟨a0,a1,a2,a3⟩:=hat.ext hxx (by rw [ja]; exact hadb);obtain ⟨s1,s2,s3,s4⟩:=HKID.out k hkc;have HC:=Lib.hid (fun (W':World) (hx:Ext wr W')=>IH.out p.cs[k] _ W' s1 s2 s3 s4 hkt (hxx.trans hx));have HGD:Hid (p.cs.getD k Pl.zero=p.cs[k]):=Lib.hid (by rw [List.getD_eq_getElem?_getD,List.getElem?_eq_getElem hkc]; rfl);have HKC:=Lib.hid hkc;generalize p.cs[k]=ck at *;unfold plV at HC;clear hat hkt hadb hxx s1 s2 s3 s4 hkc;go_wp2_with fail;clear a0 a1 a2 a3;refine (HC.out _ ((Ext.refl _).alloc _)).mono ?_;rintro e w5 ⟨R5,rfl,hR5,hrow5,x5⟩;rw [Pl.cfs_len];have hx5:Ext wr w5:=((Ext.refl wr).alloc _).trans x5;have hD:=HK.out.rd;have hRD5:wd.heap.size<=R5:=by have:=hR5; simp at this; omega
         have hrow6:jh w5 (fun b=>Q b/\b ≠ w.heap.size+1/\(b < w.heap.size\/wd.heap.size<=b)) R5 (ck.cfs l n):=hrow5.mono fun b hb=>by
          rw [HQ.out];rcases hb with hb | hb
          · exact ⟨.inl hb,by omega,.inl (by omega)⟩
          · have hb':=hb;simp at hb';exact ⟨.inr (by omega),by omega,.inr (by omega)⟩
         have HI0:=Lib.hid (And.intro (HK.out.ext_ hx5) hrow6);clear hrow5 hrow6 x5 hx5 HC hR5;go_wp2_with fail
         go_loopw [45] (fun iv wi=>∃ i:Nat,i<=n+1/\iv=.int .i64 i/\Hid (CfK w.heap.size wd.heap.size W Q p l n (w.heap.size+1) k i wi/\jh wi (fun b=>Q b/\b ≠ w.heap.size+1/\(b < w.heap.size\/wd.heap.size<=b)) R5 (ck.cfs l n))) (fun iv _=>n+1 - (intOf iv).toNat)
         case atStart=>exact ⟨0,Nat.zero_le _,rfl,HI0⟩
         case round =>
          obtain ⟨i,hi,rfl,HI⟩:=hrel
          by_cases hli:i < n+1
          · obtain ⟨D0,dn0,dc0,D1,dn1,dc1,⟨r0,r1,r2,r3⟩,hpv⟩:=HI.out.2.2.2 i (by rw [Pl.cfs_len]; exact hli);have HGE:Hid ((ck.cfs l n).getD i Pl.zero=(ck.cfs l n)[i]'(by rw [Pl.cfs_len]; exact hli)):=Lib.hid (by rw [List.getD_eq_getElem?_getD,List.getElem?_eq_getElem (by rw [Pl.cfs_len]; exact hli)]; rfl);have HPV:=Lib.hid (hpv.mono (q:=fun b=>Q b/\b ≠ w.heap.size+1/\(b < w.heap.size\/wd.heap.size<=b)) fun b hb=>hb.1);generalize (ck.cfs l n)[i]'(by rw [Pl.cfs_len]; exact hli)=x at *;obtain ⟨V6,hV6⟩:∃ V6,wr.alloc (.cells #[.int .i64 x.lv,.bool x.neg,.slice D0 dn0 dc0,.slice D1 dn1 dc1] 35)=V6:=⟨_,rfl⟩;have hx6:Ext wr V6:=by rw [<- hV6]; exact (Ext.refl wr).alloc _
            have hbx6:jb V6 wr.heap.size x (.slice D0 dn0 dc0) (.slice D1 dn1 dc1):=by rw [<- hV6]; exact jb.new wr x _ _ _
            have hs6:V6.heap.size=wr.heap.size+1:=by rw [<- hV6]; simp
            have hK6:=HI.out.1.ext_ hx6;have hrow6:=HI.out.2.ext hx6;obtain ⟨B,hhd,hRB,hBD,⟨u0,u1,u2,u3,g0,g1,g2,g3⟩,hBf,hstep⟩:=hK6.step (by omega) hli HKC.out;obtain ⟨hst,hnat⟩:=hstep x _ _ _ _ _ _ (by rw [HGD.out,HGE.out]) (HPV.out.ext hx6);rw [HMM.out] at hhd;have hDw:=HI.out.1.rd;have HFULL:Hid (∀ V7,V7=((((V6.setCell ⟨B,k * 4,none⟩ (.int .i64 x.lv)).setCell ⟨B,k * 4+1,none⟩ (.bool x.neg)).setCell ⟨B,k * 4+2,none⟩ (.slice D0 dn0 dc0)).setCell ⟨B,k * 4+3,none⟩ (.slice D1 dn1 dc1))->CfK w.heap.size wd.heap.size W Q p l n (w.heap.size+1) k (i+1) V7/\jh V7 (fun b=>Q b/\b ≠ w.heap.size+1/\(b < w.heap.size\/wd.heap.size<=b)) R5 (ck.cfs l n)/\(V7.cell? ⟨w.heap.size+1,i * 4+3,none⟩=some (.slice (some ⟨B,0,none⟩) mm mm)/\V7.cell? ⟨wr.heap.size,0,none⟩=some (.int .i64 x.lv)/\V7.cell? ⟨wr.heap.size,1,none⟩=some (.bool x.neg)/\V7.cell? ⟨wr.heap.size,2,none⟩=some (.slice D0 dn0 dc0)/\V7.cell? ⟨wr.heap.size,3,none⟩=some (.slice D1 dn1 dc1))):=Lib.hid (by
             intro V7 hV7;have hother:∀ b,b ≠ B->V7.heap[b]?=V6.heap[b]?:=fun b hb=>by
              rw [hV7,Below.heap_setCell _ _ _ b hb,Below.heap_setCell _ _ _ b hb,Below.heap_setCell _ _ _ b hb,Below.heap_setCell _ _ _ b hb]
             have hsz7:V7.heap.size=V6.heap.size:=by rw [hV7]; simp [World.setCell]
             have kc:∀ b j,b ≠ B->V7.cell? ⟨b,j,none⟩=V6.cell? ⟨b,j,none⟩:=fun b j hb=>World.cell?_of_block (a:=⟨b,j,none⟩) (hother b hb)
             rw [<- hV7] at hst hnat
             refine ⟨hst,hrow6.turn (by omega) hnat (hother _ (by omega)) (fun b _ hb _=>⟨hb,hother b (by omega)⟩),(kc _ _ (by omega)).trans hhd,(kc _ _ (by omega)).trans hbx6.1,(kc _ _ (by omega)).trans hbx6.2.1,(kc _ _ (by omega)).trans hbx6.2.2.1,(kc _ _ (by omega)).trans hbx6.2.2.2⟩)
            have f0:=hBf (k * 4);have f1:=hBf (k * 4+1);have f2:=hBf (k * 4+2);have f3:=hBf (k * 4+3);have HX6:=Lib.hid hK6.ext;have HS6:Hid (∀ W',Ext V6 W'->(W'.cell? ⟨w.heap.size+1,i * 4+3,none⟩=some (.slice (some ⟨B,0,none⟩) mm mm)/\W'.cell? ⟨wr.heap.size,0,none⟩=some (.int .i64 x.lv)/\W'.cell? ⟨wr.heap.size,1,none⟩=some (.bool x.neg)/\W'.cell? ⟨wr.heap.size,2,none⟩=some (.slice D0 dn0 dc0)/\W'.cell? ⟨wr.heap.size,3,none⟩=some (.slice D1 dn1 dc1))):=Lib.hid (fun W' hx=>by
             obtain ⟨c0,c1,c2,c3⟩:=hbx6.ext hx (by omega)
             exact ⟨(hx.cell (p:=⟨w.heap.size+1,i * 4+3,none⟩) (by show w.heap.size+1 < _; omega)).trans hhd,c0,c1,c2,c3⟩)
            have hin:(i:Int) < (n:Int)+1:=by omega
            have hkm:(k:Int) < (mm:Int):=by omega
            clear hst hnat hstep hrow6 hK6 hbx6 hBf hhd hpv hx6;go_upto_region 13 with fail
            try rw [hV6]
            clear hV6 r0 r1 r2 r3;refine wp_region_held_drew (S:=fun W'=>(W'.cell? ⟨w.heap.size+1,i * 4+3,none⟩=some (.slice (some ⟨B,0,none⟩) mm mm)/\W'.cell? ⟨wr.heap.size,0,none⟩=some (.int .i64 x.lv)/\W'.cell? ⟨wr.heap.size,1,none⟩=some (.bool x.neg)/\W'.cell? ⟨wr.heap.size,2,none⟩=some (.slice D0 dn0 dc0)/\W'.cell? ⟨wr.heap.size,3,none⟩=some (.slice D1 dn1 dc1))) (by kernel_rfl) (HS6.out _ (Ext.refl V6).drew) (fun hHeld=>?_);refine tk 0 ?_;refine tk 1 ?_;refine tk 2 ?_;refine tk 3 ?_;refine tk 4 ?_ (hy:=Or.inl ⟨by rfl,by intro w' hSw; obtain ⟨k0,k1,k2,k3,k4⟩:=hSw; go_simp; (try (with_reducible rfl))⟩);refine tk 5 ?_;refine tk 6 ?_ (hy:=Or.inl ⟨by rfl,by intro w' hSw; obtain ⟨k0,k1,k2,k3,k4⟩:=hSw; go_simp; (try (with_reducible rfl))⟩);refine tk 7 ?_;refine wpAnyH_ready (rs:=[8]) (by kernel_rfl) (by simp) ?_;refine AllReadyH.cons rfl (fun K hK=>?_) AllReadyH.nil;go_simp;refine (?g9:∀ V7,(CfK w.heap.size wd.heap.size W Q p l n (w.heap.size+1) k (i+1) V7/\jh V7 (fun b=>Q b/\b ≠ w.heap.size+1/\(b < w.heap.size\/wd.heap.size<=b)) R5 (ck.cfs l n)/\(V7.cell? ⟨w.heap.size+1,i * 4+3,none⟩=some (.slice (some ⟨B,0,none⟩) mm mm)/\V7.cell? ⟨wr.heap.size,0,none⟩=some (.int .i64 x.lv)/\V7.cell? ⟨wr.heap.size,1,none⟩=some (.bool x.neg)/\V7.cell? ⟨wr.heap.size,2,none⟩=some (.slice D0 dn0 dc0)/\V7.cell? ⟨wr.heap.size,3,none⟩=some (.slice D1 dn1 dc1)))->K _ V7.drew) _ (HFULL.out _ rfl);intro V7 hV7;obtain ⟨k7,r7,c7⟩:=hV7;have hd7:Ext V7 V7.drew:=(Ext.refl V7).drew;refine hK.out _ _ c7 (fun hHeld=>?_);clear hK K g0 g1 g2 g3 f0 f1 f2 f3 c7
            try simp only [Act.put,List.getElem_toArray,List.getElem_cons_zero,List.getElem_cons_succ,List.setIfInBounds_toArray,List.set_cons_zero,List.set_cons_succ]
            refine wpAnyH_done (by kernel_rfl) ?_ _;have HV7:=Lib.hid (And.intro (k7.ext_ hd7) (r7.ext hd7));clear hHeld HFULL HS6 k7 r7 hd7;go_wp2_with fail
            go_roundw
            case rel=>exact ⟨i+1,by omega,by go_num,HV7⟩
            case measure=>simp only [intOf]; omega
          · have hie:i=n+1:=by omega
            have hIe:=HI.out.1;rw [hie] at hIe;have HN:=Lib.hid hIe.next;clear HI hIe hie;go_wp2_with fail
            go_roundw
            case rel=>exact ⟨k+1,by omega,by go_num,HN⟩
            case measure=>simp only [intOf]; omega
       · have hke:k=mm:=by omega
         have hKe:=HK.out;rw [hke] at hKe
         replace HK:=Lib.hid hKe
         clear hKe hke;obtain ⟨bs,LL,h1,h2,h3,h4⟩:=HK.out.rows;have hfin:=h1.fin (q':=fun b=>(q b/\b < w0.heap.size)\/w.heap.size<=b) HK.out.fr (by rw [HMM.out]; omega) (fun b hb=>by
          rcases hb with hb | hb
          · rw [HQ.out] at hb; exact hb
          · exact .inr hb)
         have hLL:LL.map (fun ks=>Pl.mk p.lv false [] ks)=p.cfs l n:=by
          rw [HCF.out];refine List.ext_getElem (by simp [h2]) fun r hr1 hr2=>?_
          simp only [List.length_map] at hr1;simp only [List.getElem_map,List.getElem_range]
          congr 1
          have hib:r < bs.length:=by rw [h1.len]; exact hr1
          refine List.ext_getElem (by rw [(h1.row r hr1 hib).1,List.length_map]) fun j hj1 hj2=>?_
          rw [List.length_map] at hj2;rw [h4 r hr1 j hj1 (.inl (by rw [<- HMM.out]; exact hj2)),List.getElem_map,List.getD_eq_getElem?_getD (l:=p.cs),List.getElem?_eq_getElem hj2]
          rfl
         rw [hLL] at hfin;have HFIN:=Lib.hid hfin;have HLN:=Lib.hid (p.cfs_len l n);have HEX:=Lib.hid (HWX.out.trans HK.out.ext);clear h1 h2 h3 h4 hfin hLL HK;go_wp2_with fail;go_ret;exact ⟨w.heap.size+1,by rw [HLN.out]; rfl,by omega,HFIN.out,HEX.out⟩
theorem vcj {w:World} {q:Nat->Prop} {l:Int} (hl:1<=l) (n:Nat) (hn:n<=1000000000) (p:Pl) (v:Value) (hcan:p.Can) (hsz:p.sz<=1099511627776) (hd:p.dgL l<=n) (h:PlV w q p v):Calls Tryz.prog 81 #[v,.int .i64 l,.int .i64 n] w (qcf q (p.cfs l n) w):=
 (jcm w q l hl n hn (p.sz+1) p v w (Nat.lt_succ_self _) hcan hsz hd h (Ext.refl w)).mono fun e w' ⟨R,h1,h2,h3,h4⟩=>⟨R,h1,h2,h3.mono fun b hb=>hb.imp (fun h=>h.1) id,h4⟩
end Go.Proofs.YtklnlgnnlmdibaaGreat
