/- Layer 23: mainvar.coefs. -/
import Derived.Test.YtcepajijiabkmaaGreatMq26
set_option linter.unusedSimpArgs false
set_option linter.unusedVariables false

set_option maxRecDepth 100000
set_option maxHeartbeats 8000000
namespace Go.Proofs.YtcepajijiabkmaaGreat
open Lib (hid)
open Go.RowKit
theorem wa6 : ∀ (n : Nat) (cs : List Pl), cs.length <= n + 1 -> vab n cs = cs ++ List.replicate (n + 1 - cs.length) Pl.zero
 | 0,[],_=>rfl
 | 0,[c],_=>rfl
 | n+1,[],_=>by
   rw [vab,wa6 n [] (by simp)];simp [List.replicate_succ]
 | n+1,c :: r,h=>by
   rw [vab,wa6 n r (by simpa using h)];simp
theorem vcs (n:Nat) (p:Pl):(List.replicate (n+1) Pl.zero).set 0 p=vab n [p]:=by
 rw [wa6 n [p] (by simp)];simp [List.replicate_succ]
def qcy (q:Nat->Prop) (L:List Pl) (w:World) (e:Ending) (w':World):Prop:=∃ R,e=.returned (.slice (some ⟨R,0,none⟩) L.length L.length)/\w.heap.size<=R/\zi w' (fun b=>q b\/w.heap.size<=b) R L/\Ext w w'
theorem zi.turn {W W':World} {q q':Nat->Prop} {R:Nat} {l:List Pl} (h:zi W q R l) (hs:W.heap.size<=W'.heap.size) (hn:∀ v ds,jb W v ds->jb W' v ds) (hb:W'.heap[R]?=W.heap[R]?) (hc:∀ b,b < W.heap.size->q b->b ≠ R->q' b/\W'.heap[b]?=W.heap[b]?):zi W' q' R l:=by
 obtain ⟨h1,h2,h3⟩:=h;have k:∀ i,W'.cell? ⟨R,i,none⟩=W.cell? ⟨R,i,none⟩:=fun i=>World.cell?_of_block (a:=⟨R,i,none⟩) hb
 refine ⟨by omega,fun i=>(World.frozen?_of_block (a:=⟨R,i,none⟩) hb).trans (h2 i),fun i hi=>?_⟩;obtain ⟨A0,n0,c0,A1,n1,c1,h4,h5⟩:=h3 i hi;exact ⟨A0,n0,c0,A1,n1,c1,h4.same (k _) (fun n _=>k _),PlV.turn_ hs hn (fun b dX hq=>⟨⟨(hc b dX hq.1 hq.2).1,hq.2⟩,(hc b dX hq.1 hq.2).2⟩) h5⟩
structure CfS (W : World) (base : Nat) (q : Nat -> Prop) (lv : Int) (m : Nat) (R : Nat) (bs : List Nat) (LL : List (List Pl)) : Prop where
 len:bs.length=LL.length
 rlt:R < W.heap.size
 rb:base<=R
 bb:∀ b ∈ bs,R < b/\b < W.heap.size
 dist:bs.Pairwise (· ≠ ·)
 hd:∀ i (h:i < LL.length) (h':i < bs.length),W.cell? ⟨R,i * 4,none⟩=some (.int .i64 lv)/\W.cell? ⟨R,i * 4+1,none⟩=some (.bool false)/\W.cell? ⟨R,i * 4+2,none⟩=some (.slice none 0 0)/\W.cell? ⟨R,i * 4+3,none⟩=some (.slice (some ⟨bs[i],0,none⟩) m m)
 row:∀ i (h:i < LL.length) (h':i < bs.length),LL[i].length=m/\zi W (fun b=>q b/\b ≠ R/\b ∉ bs) bs[i] LL[i]
theorem CfS.ext {W W' : World} {base : Nat} {q : Nat -> Prop} {lv : Int} {m R : Nat} {bs : List Nat} {LL : List (List Pl)} (h : CfS W base q lv m R bs LL) (hx : Ext W W') : CfS W' base q lv m R bs LL where
 len:=h.len
 rlt:=Nat.lt_of_lt_of_le h.rlt hx.size
 rb:=h.rb
 bb b hb:=⟨(h.bb b hb).1,Nat.lt_of_lt_of_le (h.bb b hb).2 hx.size⟩
 dist:=h.dist
 hd i h1 h2:=by
  have k:∀ j,W'.cell? ⟨R,j,none⟩=W.cell? ⟨R,j,none⟩:=fun j=>hx.cell (p:=⟨R,j,none⟩) h.rlt
  obtain ⟨a,b,c,d⟩:=h.hd i h1 h2;exact ⟨(k _).trans a,(k _).trans b,(k _).trans c,(k _).trans d⟩
 row i h1 h2:=⟨(h.row i h1 h2).1,(h.row i h1 h2).2.ext hx⟩
theorem CfS.push {W W' : World} {base : Nat} {q : Nat -> Prop} {lv : Int} {m R B : Nat} {bs : List Nat} {LL : List (List Pl)} {L : List Pl} (h : CfS W base q lv m R bs LL) (hq : ∀ b, q b -> b < W.heap.size -> b < B) (hB : ∀ b ∈ bs, b < B) (hRB : R < B) (hBs : B < W'.heap.size) (hs : W.heap.size <= W'.heap.size) (hn : ∀ v ds, jb W v ds -> jb W' v ds) (hc : ∀ b, b ≠ R -> b < W.heap.size -> W'.heap[b]? = W.heap[b]?)
 (ai:∀ j,j < LL.length * 4->W'.cell? ⟨R,j,none⟩=W.cell? ⟨R,j,none⟩)
 (hL:L.length=m) (ae:zi W' (fun b=>q b/\b ≠ R/\b ∉ bs ++ [B]) B L)
 (OE:W'.cell? ⟨R,LL.length * 4,none⟩=some (.int .i64 lv)/\W'.cell? ⟨R,LL.length * 4+1,none⟩=some (.bool false)/\W'.cell? ⟨R,LL.length * 4+2,none⟩=some (.slice none 0 0)/\W'.cell? ⟨R,LL.length * 4+3,none⟩=some (.slice (some ⟨B,0,none⟩) m m)) :
 CfS W' base q lv m R (bs ++ [B]) (LL ++ [L]) where
 len:=by simp [h.len]
 rlt:=Nat.lt_of_lt_of_le h.rlt hs
 rb:=h.rb
 bb b hb:=by
  rcases List.mem_append.1 hb with hb | hb
  · exact ⟨(h.bb b hb).1,Nat.lt_of_lt_of_le (h.bb b hb).2 hs⟩
  · rw [List.mem_singleton.1 hb]; exact ⟨hRB,hBs⟩
 dist:=by
  rw [List.pairwise_append];refine ⟨h.dist,by simp,fun a ha b hb=>?_⟩;rw [List.mem_singleton.1 hb];have:=hB a ha;omega
 hd i h1 h2:=by
  have hlen:=h.len
  by_cases hi:i < LL.length
  · obtain ⟨a,b,c,d⟩:=h.hd i hi (by omega);rw [List.getElem_append_left (by omega)];exact ⟨(ai _ (by omega)).trans a,(ai _ (by omega)).trans b,(ai _ (by omega)).trans c,(ai _ (by omega)).trans d⟩
  · obtain rfl:i=LL.length:=by simp at h1; omega
    rw [List.getElem_append_right (by omega)];simpa using OE
 row i h1 h2:=by
  have hlen:=h.len
  by_cases hi:i < LL.length
  · rw [List.getElem_append_left hi,List.getElem_append_left (show i < bs.length by omega)];obtain ⟨a,b⟩:=h.row i hi (by omega);have Yp:=h.bb _ (List.getElem_mem (by omega:i < bs.length));refine ⟨a,b.turn hs hn (hc _ (by omega) Yp.2) fun c bZ dw _=>⟨⟨dw.1,dw.2.1,fun hm=>?_⟩,hc c dw.2.1 bZ⟩⟩;rcases List.mem_append.1 hm with hm | hm
    · exact dw.2.2 hm
    · have:=hq c dw.1 bZ;rw [List.mem_singleton.1 hm] at this;omega
  · obtain rfl:i=LL.length:=by simp at h1; omega
    rw [List.getElem_append_right (Nat.le_refl LL.length),List.getElem_append_right (show bs.length<=LL.length by omega)];simp only [hlen,Nat.sub_self,List.getElem_cons_zero];exact ⟨hL,ae⟩
theorem CfS.set_ {W:World} {base:Nat} {q:Nat->Prop} {lv:Int} {m R:Nat} {bs:List Nat} {LL:List (List Pl)} (h:CfS W base q lv m R bs LL) (i k:Nat) (hi:i < LL.length) (iO:i < bs.length) (hk:k < m) (p:Pl) {A0 A1:Option Addr} {n0 c0 n1 c1:Nat} (hp:PlV W (fun b=>q b/\b ≠ R/\b ∉ bs) p (plV p (.slice A0 n0 c0) (.slice A1 n1 c1))) :
 CfS ((((W.setCell ⟨bs[i],k * 4,none⟩ (.int .i64 p.lv)).setCell ⟨bs[i],k * 4+1,none⟩ (.bool p.neg)).setCell ⟨bs[i],k * 4+2,none⟩ (.slice A0 n0 c0)).setCell ⟨bs[i],k * 4+3,none⟩ (.slice A1 n1 c1)) base q lv m R bs (LL.set i (LL[i].set k p))/\(∀ v ds,jb W v ds->jb ((((W.setCell ⟨bs[i],k * 4,none⟩ (.int .i64 p.lv)).setCell ⟨bs[i],k * 4+1,none⟩ (.bool p.neg)).setCell ⟨bs[i],k * 4+2,none⟩ (.slice A0 n0 c0)).setCell ⟨bs[i],k * 4+3,none⟩ (.slice A1 n1 c1)) v ds):=by
 obtain ⟨Ue,ae⟩:=h.row i hi iO;have Yp:=h.bb _ (List.getElem_mem iO);obtain ⟨aT,ak⟩:=ae.set_ k (by omega) p (hp.mono fun b hb=>⟨hb,fun e=>hb.2.2 (e ▸ List.getElem_mem iO)⟩);obtain ⟨W',bg⟩:=n_m (((((W.setCell ⟨bs[i],k * 4,none⟩ (.int .i64 p.lv)).setCell ⟨bs[i],k * 4+1,none⟩ (.bool p.neg)).setCell ⟨bs[i],k * 4+2,none⟩ (.slice A0 n0 c0)).setCell ⟨bs[i],k * 4+3,none⟩ (.slice A1 n1 c1)));have bH:∀ b,b ≠ bs[i]->W'.heap[b]?=W.heap[b]?:=fun b hb=>by
  rw [<- bg];rw [Below.heap_setCell _ _ _ b hb,Below.heap_setCell _ _ _ b hb,Below.heap_setCell _ _ _ b hb,Below.heap_setCell _ _ _ b hb]
 have hsz:W'.heap.size=W.heap.size:=by rw [<- bg]; simp [World.setCell]
 rw [bg] at aT ak ⊢;have YL:R ≠ bs[i]:=by omega
 have PY:∀ j (hj:j < bs.length),j ≠ i->bs[j] ≠ bs[i]:=fun j hj au=>by
  have:=List.pairwise_iff_getElem.1 h.dist;rcases Nat.lt_or_gt_of_ne au with af | af
  · exact this j i hj iO af
  · exact fun e=>this i j iO hj af e.symm
 refine ⟨?_,ak⟩
 exact {
  len:=by rw [List.length_set]; exact h.len
  rlt:=by rw [hsz]; exact h.rlt
  rb:=h.rb
  bb:=fun b hb=>by rw [hsz]; exact h.bb b hb
  dist:=h.dist
  hd:=fun j h1 h2=>by
   rw [List.length_set] at h1;have kk:∀ j,W'.cell? ⟨R,j,none⟩=W.cell? ⟨R,j,none⟩:=fun j=>World.cell?_of_block (a:=⟨R,j,none⟩) (bH R YL)
   obtain ⟨a,b,c,d⟩:=h.hd j h1 h2;exact ⟨(kk _).trans a,(kk _).trans b,(kk _).trans c,(kk _).trans d⟩
  row:=fun j h1 h2=>by
   rw [List.length_set] at h1
   by_cases hj:j=i
   · subst hj;rw [List.getElem_set_self];exact ⟨by rw [List.length_set]; exact Ue,aT⟩
   · rw [List.getElem_set_ne (Ne.symm hj)];obtain ⟨a,b⟩:=h.row j h1 h2
     exact ⟨a,b.turn (by omega) ak (bH _ (PY j h2 hj)) fun c _ hc _=>⟨hc,bH c fun e=>hc.2.2 (e ▸ List.getElem_mem iO)⟩⟩ }
theorem CfS.fin {W:World} {base:Nat} {q q':Nat->Prop} {lv:Int} {m R:Nat} {bs:List Nat} {LL:List (List Pl)} (h:CfS W base q lv m R bs LL) (bu:∀ i,W.frozen? ⟨R,i,none⟩=false) (hm:m<=9223372036854775807) (hq:∀ b,(q b\/base<=b)->q' b):zi W q' R (LL.map fun ks=>.mk lv false [] ks):=by
 refine ⟨h.rlt,bu,fun i hi=>?_⟩;rw [List.length_map] at hi;have iO:i < bs.length:=by rw [h.len]; exact hi
 obtain ⟨a,b,c,d⟩:=h.hd i hi iO;obtain ⟨hl,hr⟩:=h.row i hi iO;have Yp:=h.bb _ (List.getElem_mem iO);have Ia:=h.rb;rw [List.getElem_map];refine ⟨none,0,0,some ⟨bs[i],0,none⟩,m,m,⟨a,b,c,d⟩,?_⟩;have jV:jd W (fun b=>q' b/\b ≠ R) LL[i] (some ⟨bs[i],0,none⟩) 0:=(hr.mono (q':=fun b=>q' b/\b ≠ R) fun b hb=>⟨hq b (.inl hb.1),hb.2.1⟩).fin ⟨hq _ (.inr (by omega)),by omega⟩;have:=PlV.mk (t:=.mk lv false [] LL[i]) (s:=.slice none 0 0) (A:=some ⟨bs[i],0,none⟩) (c:=m) (jb.nil W) (by show LL[i].length<=m; omega) hm jV;unfold plV at this ⊢;simp only [Pl.lv,Pl.neg,Pl.cs] at this ⊢;rw [hl] at this;exact this
theorem Pl.dgL_cs {l:Int} {p:Pl} (h:p.lv=l):p.dgL l=p.cs.length - 1:=by
 cases p; simp only [Pl.lv,Pl.cs] at *; rw [Pl.dgL,if_neg (by omega),if_pos h]
theorem Pl.cfs_low_ {l:Int} {n:Nat} {p:Pl} (h:p.lv < l):p.cfs l n=vab n [p]:=by cases p; simp only [Pl.lv] at h; rw [Pl.cfs,if_pos h]
theorem Pl.cfs_eq_ {l:Int} {n:Nat} {p:Pl} (h:p.lv=l):p.cfs l n=vab n p.cs:=by cases p; simp only [Pl.lv,Pl.cs] at *; rw [Pl.cfs,if_neg (by omega),if_pos h]
theorem Pl.cfs_gt_ {l:Int} {n:Nat} {p:Pl} (h:l < p.lv):p.cfs l n=(List.range (n+1)).map fun i=>.mk p.lv false [] (p.cs.map fun c=>(c.cfs l n).getD i Pl.zero):=by
 cases p; simp only [Pl.lv,Pl.cs] at *; rw [Pl.cfs,if_neg (by omega),if_neg (by omega)]; simp only [wah]
theorem wb8 (N:Nat):∀ u ∈ yl (List.replicate N wz),qo u=false:=fun u hu=>by
 simp only [yl,List.mem_flatMap] at hu;obtain ⟨r,hr,hu⟩:=hu;rw [List.eq_of_mem_replicate hr] at hu;simp only [plC,wz,List.mem_cons,List.not_mem_nil,or_false] at hu;rcases hu with rfl | rfl | rfl | rfl <;> rfl
def CfJ (base:Nat) (W:World) (Q:Nat->Prop) (lv:Int) (mm R n k:Nat) (wr:World):Prop:=Ext W wr/\(∀ i,wr.frozen? ⟨R,i,none⟩=false)/\(∀ j,j < (n+1) * 4->∃ u,wr.cell? ⟨R,j,none⟩=some u/\qo u=false)/\∃ bs,CfS wr base Q lv mm R bs (List.replicate k (List.replicate mm Pl.zero))
theorem va1 {V:World} {R k:Nat} {u0 u1 u2 u3:Value} (h0:V.cell? ⟨R,k,none⟩=some u0) (h1:V.cell? ⟨R,k+1,none⟩=some u1) (h2:V.cell? ⟨R,k+2,none⟩=some u2) (h3:V.cell? ⟨R,k+3,none⟩=some u3) (d0:qo u0=false) (d1:qo u1=false) (d2:qo u2=false) (d3:qo u3=false) (x0 x1 x2 x3:Value) :
 let V':=(((V.setCell ⟨R,k,none⟩ x0).setCell ⟨R,k+1,none⟩ x1).setCell ⟨R,k+2,none⟩ x2).setCell ⟨R,k+3,none⟩ x3
 (V'.cell? ⟨R,k,none⟩=some x0/\V'.cell? ⟨R,k+1,none⟩=some x1/\V'.cell? ⟨R,k+2,none⟩=some x2/\V'.cell? ⟨R,k+3,none⟩=some x3)/\(∀ j,(j < k\/k+3 < j)->V'.cell? ⟨R,j,none⟩=V.cell? ⟨R,j,none⟩)/\(∀ b,b ≠ R->V'.heap[b]?=V.heap[b]?)/\(∀ a,V'.frozen? a=V.frozen? a)/\V'.heap.size=V.heap.size/\∀ v ds,jb V v ds->jb V' v ds:=by
 intro V';have e1:(V.setCell ⟨R,k,none⟩ x0).cell? ⟨R,k+1,none⟩=some u1:=by rw [World.cell?_setCell_other _ _ _ _ (by simp)]; exact h1
 have e2:((V.setCell ⟨R,k,none⟩ x0).setCell ⟨R,k+1,none⟩ x1).cell? ⟨R,k+2,none⟩=some u2:=by rw [World.cell?_setCell_other _ _ _ _ (by simp),World.cell?_setCell_other _ _ _ _ (by simp)]; exact h2
 have e3:(((V.setCell ⟨R,k,none⟩ x0).setCell ⟨R,k+1,none⟩ x1).setCell ⟨R,k+2,none⟩ x2).cell? ⟨R,k+3,none⟩=some u3:=by rw [World.cell?_setCell_other _ _ _ _ (by simp),World.cell?_setCell_other _ _ _ _ (by simp),World.cell?_setCell_other _ _ _ _ (by simp)]; exact h3
 refine ⟨⟨?_,?_,?_,World.cell?_setCell_same _ _ _ e3⟩,fun j hj=>?_,fun b hb=>?_,fun a=>?_,?_,fun v ds hv=>(((hv.box h0 d0 _).box e1 d1 _).box e2 d2 _).box e3 d3 _⟩
 · rw [World.cell?_setCell_other _ _ _ _ (by simp),World.cell?_setCell_other _ _ _ _ (by simp),World.cell?_setCell_other _ _ _ _ (by simp)]; exact World.cell?_setCell_same _ _ _ h0
 · rw [World.cell?_setCell_other _ _ _ _ (by simp),World.cell?_setCell_other _ _ _ _ (by simp)]; exact World.cell?_setCell_same _ _ _ e1
 · rw [World.cell?_setCell_other _ _ _ _ (by simp)]; exact World.cell?_setCell_same _ _ _ e2
 · iterate 4 rw [World.cell?_setCell_other _ _ _ _ (by intro e; injection e; omega)]
 · rw [Below.heap_setCell _ _ _ b hb,Below.heap_setCell _ _ _ b hb,Below.heap_setCell _ _ _ b hb,Below.heap_setCell _ _ _ b hb]
 · simp only [V',World.frozen?_setCell]
 · simp [V',World.setCell]
theorem CfJ.step {base:Nat} {W:World} {Q:Nat->Prop} {lv:Int} {mm R n k:Nat} {wr V2:World} (h:CfJ base W Q lv mm R n k wr) (hk:k < n+1) (hW:W.heap.size<=R) (hx:Ext wr V2) (hs:V2.heap.size=wr.heap.size+1) (ae:∀ q,zi V2 q wr.heap.size (List.replicate mm Pl.zero)) :
 (∃ u0 u1 u2 u3,V2.cell? ⟨R,k * 4,none⟩=some u0/\V2.cell? ⟨R,k * 4+1,none⟩=some u1/\V2.cell? ⟨R,k * 4+2,none⟩=some u2/\V2.cell? ⟨R,k * 4+3,none⟩=some u3)/\(∀ i,V2.frozen? ⟨R,i,none⟩=false) /\
 CfJ base W Q lv mm R n (k+1) ((((V2.setCell ⟨R,k * 4,none⟩ (.int .i64 lv)).setCell ⟨R,k * 4+1,none⟩ (.bool false)).setCell ⟨R,k * 4+2,none⟩ (.slice none 0 0)).setCell ⟨R,k * 4+3,none⟩ (.slice (some ⟨wr.heap.size,0,none⟩) mm mm)):=by
 obtain ⟨h1,h2,h3,bs,h4⟩:=h;have hc:∀ j,V2.cell? ⟨R,j,none⟩=wr.cell? ⟨R,j,none⟩:=fun j=>hx.cell (p:=⟨R,j,none⟩) h4.rlt
 have hf:∀ i,V2.frozen? ⟨R,i,none⟩=false:=fun i=>(hx.frozen (p:=⟨R,i,none⟩) h4.rlt).trans (h2 i)
 obtain ⟨u0,c0,d0⟩:=h3 (k * 4) (by omega);obtain ⟨u1,c1,d1⟩:=h3 (k * 4+1) (by omega);obtain ⟨u2,c2,d2⟩:=h3 (k * 4+2) (by omega);obtain ⟨u3,c3,d3⟩:=h3 (k * 4+3) (by omega);have jZ:=va1 ((hc _).trans c0) ((hc _).trans c1) ((hc _).trans c2) ((hc _).trans c3) d0 d1 d2 d3 (.int .i64 lv) (.bool false) (.slice none 0 0) (.slice (some ⟨wr.heap.size,0,none⟩) mm mm);refine ⟨⟨u0,u1,u2,u3,(hc _).trans c0,(hc _).trans c1,(hc _).trans c2,(hc _).trans c3⟩,hf,?_⟩;obtain ⟨V3,Jm⟩:=n_m (((((V2.setCell ⟨R,k * 4,none⟩ (.int .i64 lv)).setCell ⟨R,k * 4+1,none⟩ (.bool false)).setCell ⟨R,k * 4+2,none⟩ (.slice none 0 0)).setCell ⟨R,k * 4+3,none⟩ (.slice (some ⟨wr.heap.size,0,none⟩) mm mm)));have aA:Ext W V3:=by rw [<- Jm]; exact ((((h1.trans hx).setCell hW _).setCell hW _).setCell hW _).setCell hW _
 simp only [Jm] at jZ ⊢;obtain ⟨f1,f2,f3,f4,f5,f6⟩:=jZ;refine ⟨aA,fun i=>(f4 _).trans (hf i),fun j hj=>?_,bs ++ [wr.heap.size],?_⟩
 · by_cases jM:j < k * 4\/k * 4+3 < j
   · rw [f2 j jM,hc]; exact h3 j hj
   · rcases (show j=k * 4\/j=k * 4+1\/j=k * 4+2\/j=k * 4+3 by omega) with rfl | rfl | rfl | rfl
     · exact ⟨_,f1.1,rfl⟩
     · exact ⟨_,f1.2.1,rfl⟩
     · exact ⟨_,f1.2.2.1,rfl⟩
     · exact ⟨_,f1.2.2.2,rfl⟩
 · have uD:=h4.rlt
   have := h4.push (W' := V3) (B := wr.heap.size) (L := List.replicate mm Pl.zero) (fun b _ hb => hb) (fun b hb => (h4.bb b hb).2) h4.rlt (by omega) (by omega) (fun v ds hv => f6 v ds (hv.ext hx)) (fun b hb af => (f3 b hb).trans (hx.below.block b af))
    (fun j hj=>by rw [List.length_replicate] at hj; exact (f2 j (.inl hj)).trans (hc j)) List.length_replicate
    ((ae (fun b=>Q b/\b ≠ R/\b ∉ bs ++ [wr.heap.size])).turn (by omega) f6 (f3 _ (by omega)) (fun b _ hq _=>⟨hq,f3 b hq.2.1⟩))
    (by rw [List.length_replicate]; exact f1)
   rw [show List.replicate (k+1) (List.replicate mm Pl.zero)=List.replicate k (List.replicate mm Pl.zero) ++ [List.replicate mm Pl.zero] from List.replicate_succ'];exact this
structure CfK (base D : Nat) (W : World) (Q : Nat -> Prop) (p : Pl) (l : Int) (n R k i : Nat) (wr : World) : Prop where
 ext:Ext W wr
 fr:∀ j,wr.frozen? ⟨R,j,none⟩=false
 rd:R < D/\D<=wr.heap.size
 rows:∃ bs LL,CfS wr base Q p.lv p.cs.length R bs LL/\LL.length=n+1/\(∀ b ∈ bs,b < D)/\∀ r (h:r < LL.length) j (h':j < LL[r].length),(j < k\/(j=k/\r < i))->LL[r][j]=((p.cs.getD j Pl.zero).cfs l n).getD r Pl.zero
theorem CfK.ext_ {base D:Nat} {W:World} {Q:Nat->Prop} {p:Pl} {l:Int} {n R k i:Nat} {wr W':World} (h:CfK base D W Q p l n R k i wr) (hx:Ext wr W'):CfK base D W Q p l n R k i W':=by
 obtain ⟨bs,LL,h1,h2⟩:=h.rows;exact ⟨h.ext.trans hx,fun j=>(hx.frozen (p:=⟨R,j,none⟩) h1.rlt).trans (h.fr j),⟨h.rd.1,Nat.le_trans h.rd.2 hx.size⟩,bs,LL,h1.ext hx,h2⟩
theorem CfK.next {base D:Nat} {W:World} {Q:Nat->Prop} {p:Pl} {l:Int} {n R k:Nat} {wr:World} (h:CfK base D W Q p l n R k (n+1) wr):CfK base D W Q p l n R (k+1) 0 wr:=by
 obtain ⟨bs,LL,h1,h2,h3,h4⟩:=h.rows;exact ⟨h.ext,h.fr,h.rd,bs,LL,h1,h2,h3,fun r hr j hj hc=>h4 r hr j hj (by omega)⟩
theorem CfK.step {base D:Nat} {W:World} {Q:Nat->Prop} {p:Pl} {l:Int} {n R k i:Nat} {wr:World} (h:CfK base D W Q p l n R k i wr) (hW:W.heap.size<=R) (hi:i < n+1) (hk:k < p.cs.length):∃ B,wr.cell? ⟨R,i * 4+3,none⟩=some (.slice (some ⟨B,0,none⟩) p.cs.length p.cs.length)/\R < B/\B < D /\
 (∃ u0 u1 u2 u3,wr.cell? ⟨B,k * 4,none⟩=some u0/\wr.cell? ⟨B,k * 4+1,none⟩=some u1/\wr.cell? ⟨B,k * 4+2,none⟩=some u2/\wr.cell? ⟨B,k * 4+3,none⟩=some u3)/\(∀ j,wr.frozen? ⟨B,j,none⟩=false) /\
 ∀ (x:Pl) (A0 A1:Option Addr) (n0 c0 n1 c1:Nat),x=((p.cs.getD k Pl.zero).cfs l n).getD i Pl.zero->PlV wr (fun b=>Q b/\b ≠ R/\(b < base\/D<=b)) x (plV x (.slice A0 n0 c0) (.slice A1 n1 c1)) ->
   CfK base D W Q p l n R k (i+1) ((((wr.setCell ⟨B,k * 4,none⟩ (.int .i64 x.lv)).setCell ⟨B,k * 4+1,none⟩ (.bool x.neg)).setCell ⟨B,k * 4+2,none⟩ (.slice A0 n0 c0)).setCell ⟨B,k * 4+3,none⟩ (.slice A1 n1 c1)) /\
   ∀ v ds,jb wr v ds->jb ((((wr.setCell ⟨B,k * 4,none⟩ (.int .i64 x.lv)).setCell ⟨B,k * 4+1,none⟩ (.bool x.neg)).setCell ⟨B,k * 4+2,none⟩ (.slice A0 n0 c0)).setCell ⟨B,k * 4+3,none⟩ (.slice A1 n1 c1)) v ds:=by
 obtain ⟨bs,LL,h1,h2,h3,h4⟩:=h.rows;have Cb:i < LL.length:=by omega
 have uO:i < bs.length:=by rw [h1.len]; exact Cb
 obtain ⟨-,-,-,hd⟩:=h1.hd i Cb uO;have AP:=h1.bb _ (List.getElem_mem uO);obtain ⟨Ue,ae⟩:=h1.row i Cb uO;obtain ⟨C0,j0,f0,C1,j1,f1,⟨r0,r1,r2,r3⟩,-⟩:=ae.2.2 k (by omega);refine ⟨bs[i],hd,AP.1,h3 _ (List.getElem_mem uO),⟨_,_,_,_,r0,r1,r2,r3⟩,ae.2.1,fun x A0 A1 n0 c0 n1 c1 hx hp=>?_⟩;have Ia:=h1.rb;obtain ⟨aT,ak⟩:=h1.set_ i k Cb uO hk x (hp.mono fun b hb=>⟨hb.1,hb.2.1,fun hm=>by
  have e1:=h3 b hm;have e2:=(h1.bb b hm).1
  rcases hb.2.2 with e | e <;> omega⟩)
 have Ut:W.heap.size<=bs[i]:=by omega
 refine ⟨⟨(((h.ext.setCell Ut _).setCell Ut _).setCell Ut _).setCell Ut _,fun j=>by simp only [World.frozen?_setCell]; exact h.fr j,⟨h.rd.1,by have:=h.rd.2; simpa [World.setCell] using this⟩,bs,_,aT,by rw [List.length_set]; exact h2,h3,fun r hr j hj hc=>?_⟩,ak⟩;have Oh:r < LL.length:=by rw [List.length_set] at hr; exact hr
 by_cases KR:r=i
 · subst KR
   by_cases jM:j=k
   · subst jM;simp only [List.getElem_set_self];exact hx
   · simp only [List.getElem_set_self,List.getElem_set_ne (Ne.symm jM)];simp only [List.getElem_set_self,List.length_set] at hj;exact h4 r Oh j hj (by omega)
 · simp only [List.getElem_set_ne (Ne.symm KR)] at hj ⊢;exact h4 r Oh j hj (by omega)
def gc8 (w0:World) (q:Nat->Prop) (l:Int) (n m:Nat):Prop:=∀ (p:Pl) (v:Value) (w:World),p.sz < m->p.Can->p.sz<=1099511627776->p.dgL l<=n->PlV w0 q p v->Ext w0 w->Calls Tryz.prog 152 #[v,.int .i64 l,.int .i64 n] w (qcy (fun b=>q b/\b < w0.heap.size) (p.cfs l n) w)
theorem kc6 (w0:World) (q:Nat->Prop) (l:Int) (hl:1<=l) (n:Nat) (hn:n<=1000000000) (m:Nat):gc8 w0 q l n m:=by
 induction m with
 | zero=>intro p v w h; omega
 | succ m ih =>
 intro p v w hsz bQ xJ eG h aF;have Ii:PlV w (fun b=>q b/\b < w0.heap.size) p v:=(PlV.turn_ (Nat.le_refl _) (fun _ _ h=>h) (fun b hb hq=>⟨⟨hq,hb⟩,rfl⟩) h).ext aF;have IH:=hid ih;have HP:=hid Ii;obtain ⟨A0,n0,c0,A,c,rfl,ak,dY,dK,h4⟩:=h.open_;have H4:=hid h4;have ay:=hid aF;obtain ⟨W,hW⟩:=n_m (w.alloc (.cells #[.int .i64 p.lv,.bool p.neg,.slice A0 n0 c0,.slice A p.cs.length c] 33));have ag:Ext w W:=by rw [<- hW]; exact (Ext.refl w).alloc _
 have bY:W.heap.size=w.heap.size+1:=by rw [<- hW]; simp
 have bJ:jc W w.heap.size p (.slice A0 n0 c0) (.slice A p.cs.length c):=by rw [<- hW]; exact jc.new w p _ _ _
 obtain ⟨V,dB,fD,AV,AA⟩:=kbs (n+1) (by omega) W;rw [bY] at dB AA;have sH:((n+1:Nat):Int)=(n:Int)+1:=by omega
 rw [sH] at dB;have eY:=hid (fun (W':World) (hx:Ext W W')=>bJ.ext hx (by omega));have kQ:=hid fD;have aB:=hid ag;have SN:=hid AA;obtain ⟨b0,b1,b2,b3⟩:=id bJ;obtain ⟨d0,d1,d2,d3⟩:=eY.out V fD;have hsx:=aF.size;clear h aF ih bJ ag fD AA ak h4 Ii;unfold plV
 by_cases k1:p.lv < l
 · have cZ:=SN.out.prow (q:=fun b=>(q b/\b < w0.heap.size)\/w.heap.size<=b) (kaz V _ (n+1));rw [List.map_replicate] at cZ;have aT:=(cZ.set_ 0 (by simp) p ((HP.out.ext (aB.out.trans kQ.out)).mono fun b hb=>⟨.inl hb,by omega⟩)).1;rw [show (List.replicate (n+1) wz.1).set 0 p=p.cfs l n by rw [Pl.cfs_low_ k1]; exact vcs n p] at aT;have dP:=hid aT;obtain ⟨C0,j0,f0,C1,j1,f1,⟨r0,r1,r2,r3⟩,-⟩:=cZ.2.2 0 (by simp);have bu:=cZ.2.1;simp only [Nat.zero_mul,Nat.zero_add] at r0 r1 r2 r3 dP;have hlen:=p.cfs_len l n;have tV:=hid hlen;have q1:decide (p.lv < l)=true:=by simpa using k1
   clear k1 cZ aT hlen;go_enter Tryz.func152,Tryz.ntmps152;go_wp2_with fail;go_ret;exact ⟨w.heap.size+1,by rw [tV.out]; rfl,by omega,dP.out,(((((aB.out.trans kQ.out).setCell (by show w.heap.size<=w.heap.size+1; omega) _).setCell (by show w.heap.size<=w.heap.size+1; omega) _).setCell (by show w.heap.size<=w.heap.size+1; omega) _).setCell (by show w.heap.size<=w.heap.size+1; omega) _)⟩
 by_cases k2:p.lv=l
 · have mP:p.cs.length<=n+1:=by have:=Pl.dgL_cs k2; omega
   have FZ:jd V (fun b=>q b/\b < w0.heap.size) p.cs A 0:=jd.turn (by have:=(ay.out.trans (aB.out.trans kQ.out)).size; omega) (fun _ _ h=>h.ext (ay.out.trans (aB.out.trans kQ.out))) (fun b hb hq=>⟨⟨hq,hb⟩,(ay.out.trans (aB.out.trans kQ.out)).below.block b hb⟩) p.cs A 0 H4.out;obtain ⟨W',hcp,-,NT,aA,-,zW⟩:=gb0 (q':=fun b=>(q b/\b < w0.heap.size)\/w.heap.size<=b) (dc:=n+1) (sc:=c) SN.out FZ (fun b hb=>⟨.inl hb,by omega⟩) mP 3;rw [<- wa6 n _ mP,<- Pl.cfs_eq_ k2] at zW;have dP:=hid zW;have vY:=hid (aA w (aB.out.trans kQ.out) (by omega));have tV:=hid (p.cfs_len l n);have q1:decide (p.lv < l)=false:=by simp; omega
   have q2:(p.lv == l)=true:=by simpa using k2
   clear k1 k2 aA zW FZ mP eG;go_enter Tryz.func152,Tryz.ntmps152
   go_wp2_with (at_builtin
                refine wpList_copy_run rfl (.tmp 73) (.tmp 75) _ _ rfl _ _ _ _ rfl rfl hcp ?_)
   go_ret;exact ⟨w.heap.size+1,by rw [tV.out]; rfl,by omega,dP.out,vY.out⟩
 · have k3:l < p.lv:=by omega
   have q1:decide (p.lv < l)=false:=by simp; omega
   have q2:(p.lv == l)=false:=by simpa using k2
   obtain ⟨mm,Ld⟩:=n_m (p.cs.length);have hmb:mm<=1099511627776:=by have:=Pl.sz_len p; omega
   have jQ:Hid (∀ k (hk:k < p.cs.length),p.cs[k].sz < m/\p.cs[k].Can/\p.cs[k].sz<=1099511627776/\p.cs[k].dgL l<=n):=hid (fun k hk=>by
    have hm:=List.getElem_mem hk;have h1:=Pl.sz_kid hm;obtain ⟨lv,ng,ds,cs⟩:=p;simp only [Pl.lv,Pl.cs] at *;have hkk:=bQ.kids (by omega);have h2:=qav l cs 0 _ hm;rw [Pl.dgL,if_neg (by omega),if_neg (by omega)] at eG
    exact ⟨by omega,(hkk.2.2.2.1.mem _ hm).2,by omega,by omega⟩)
   have lI:=hid (Pl.cfs_gt_ (n:=n) k3);obtain ⟨Q,hQ⟩:∃ Q:Nat->Prop,Q=fun b=>(q b/\b < w0.heap.size)\/w.heap.size<=b:=⟨_,rfl⟩
   have cZ:=SN.out.prow (q:=Q) (kaz V _ (n+1));rw [List.map_replicate] at cZ;have hJ0:CfJ w.heap.size W Q p.lv mm (w.heap.size+1) n 0 V:=by
    refine ⟨kQ.out,cZ.2.1,fun j hj=>?_,[],⟨rfl,cZ.1,by omega,by simp,by simp,fun i h=>by simp at h,fun i h=>by simp at h⟩⟩;have hf:V.heap[w.heap.size+1]?=some (.cells (yl (List.replicate (n+1) wz)).toArray 33 (0,0)):=SN.out;rw [cell_of_row _ _ j _ _ (0,0) hf,List.getElem?_toArray];have oK:j < (yl (List.replicate (n+1) wz)).length:=by rw [yu,List.length_replicate]; exact hj
    rw [List.getElem?_eq_getElem oK];refine ⟨_,rfl,?_⟩;exact wb8 _ _ (List.getElem_mem oK)
   have HJ0:=hid hJ0;have HQ:=hid hQ;rw [Ld] at d3 b3;have CP:=hid Ld;have Kv:Hid (∀ W',Ext W W'->jc W' (w.heap.size) p (.slice A0 n0 c0) (.slice A mm c)):=hid (fun W' hx=>by rw [<- CP.out]; exact eY.out W' hx);have bg:w.alloc (.cells #[.int .i64 p.lv,.bool p.neg,.slice A0 n0 c0,.slice A mm c] 33)=W:=by rw [<- Ld]; exact hW
   have HHW:=hid bg;clear cZ hJ0 hQ k1 k2 eG hW bQ hsz xJ;rw [Ld];clear Ld;have hW:=HHW.out;clear bg;go_enter Tryz.func152,Tryz.ntmps152;go_wp2_with fail;clear b0 b1 b2 b3 d0 d1 d2 d3 hW dB
   go_loopw [18] (fun iv wr=>∃ k:Nat,k<=n+1/\iv=.int .i64 k/\Hid (CfJ w.heap.size W Q p.lv mm (w.heap.size+1) n k wr)) (fun iv _=>n+1 - (intOf iv).toNat)
   case atStart=>exact ⟨0,Nat.zero_le _,rfl,HJ0⟩
   case round =>
    obtain ⟨k,hk,rfl,HJ⟩:=hrel
    by_cases af:k < n+1
    · obtain ⟨V2,qC,aO,jT,dS⟩:=qab (mm:Int) (by omega) (by omega) wr.drew;rw [Int.toNat_natCast] at qC dS;rw [World.size_drew] at qC jT dS;have Ht:Ext wr V2:=((Ext.refl wr).drew).trans aO;obtain ⟨⟨u0,u1,u2,u3,c0',c1',c2',c3'⟩,iP,FW⟩:=HJ.out.step af (by omega) Ht jT dS;have zC:=hid FW;have Ci:=iP (k * 4);have f1':=iP (k * 4+1);have f2':=iP (k * 4+2);have f3':=iP (k * 4+3);have Y0:=hid (HJ.out.1.drew);have Y2:=hid (HJ.out.1.trans Ht);have Ai:(k:Int) < (n:Int)+1:=by omega
      clear aO Ht jT dS FW iP;go_upto_region 5 with fail;refine wp_region_held_drew (S:=fun W'=>Ext W W') (by kernel_rfl) Y0.out (fun hHeld=>?_);refine tk 0 ?_;refine tk 1 ?_;refine tk 2 ?_;refine tk 3 ?_ (hy:=Or.inl ⟨by rfl,by intro w' aZ; obtain ⟨b0,b1,b2,b3⟩:=Kv.out w' aZ; go_simp; (try (with_reducible rfl))⟩);refine tk 4 ?_;refine tk 5 ?_ (hy:=Or.inl ⟨by rfl,by intro w' aZ; obtain ⟨b0,b1,b2,b3⟩:=Kv.out w' aZ; go_simp; (try (with_reducible rfl))⟩);refine tk 6 ?_;refine r_1 7 fun K hK=>?_
      go_simp;refine k_t hK Y2.out fun hHeld=>?_
      clear hK K qC;refine tk 8 ?_;refine tk 9 ?_;refine r_1 10 fun K hK=>?_
      go_simp;refine k_t hK zC.out.1 fun hHeld=>?_
      clear hK K c0' c1' c2' c3' Ci f1' f2' f3';refine w_d ?_;clear hHeld;go_wp2_with fail
      go_roundw
      case rel=>exact ⟨k+1,by omega,by go_num,zC⟩
      case measure=>simp only [intOf]; omega
    · have bV:k=n+1:=by omega
      have YV:=HJ.out;rw [bV] at YV
      replace HJ:=hid YV
      clear YV bV;obtain ⟨kk0,rfl⟩:∃ kk0,kk0=k:=⟨k,rfl⟩;obtain ⟨wd,rfl⟩:∃ wd,wd=wr:=⟨wr,rfl⟩;have YU:CfK w.heap.size wd.heap.size W Q p l n (w.heap.size+1) 0 0 wd:=by
       obtain ⟨j1,j2,j3,bs,j4⟩:=HJ.out;exact ⟨j1,j2,⟨j4.rlt,Nat.le_refl _⟩,bs,_,by rw [CP.out]; exact j4,List.length_replicate,fun b hb=>(j4.bb b hb).2,fun r hr j hj hc=>by omega⟩
      have HK0:=hid YU;obtain ⟨b0,b1,b2,b3⟩:=Kv.out _ HJ.out.1;clear YU HJ HJ0;go_wp2_with fail;clear b0 b1 b2 b3
      go_loopw [35] (fun iv wr=>∃ k:Nat,k<=mm/\iv=.int .i64 k/\Hid (CfK w.heap.size wd.heap.size W Q p l n (w.heap.size+1) k 0 wr)) (fun iv _=>mm - (intOf iv).toNat)
      case atStart=>exact ⟨0,Nat.zero_le _,rfl,HK0⟩
      case round =>
       obtain ⟨k,hk,rfl,HK⟩:=hrel
       by_cases af:k < mm
       · have yO:k < p.cs.length:=by rw [CP.out]; exact af
         obtain ⟨ad,C0,uZ,vH,C1,uY,vG,hA,ah,aK,aV⟩:=jd.kid H4.out k yO;subst hA;have bC:Ext w0 wr:=ay.out.trans (aB.out.trans HK.out.ext);obtain ⟨a0,a1,a2,a3⟩:=aK.ext bC (by rw [ja]; exact ah);obtain ⟨s1,s2,s3,s4⟩:=jQ.out k yO;have HC:=hid (fun (W':World) (hx:Ext wr W')=>IH.out p.cs[k] _ W' s1 s2 s3 s4 aV (bC.trans hx));have HGD:Hid (p.cs.getD k Pl.zero=p.cs[k]):=hid (by rw [List.getD_eq_getElem?_getD,List.getElem?_eq_getElem yO]; rfl);have Vk:=hid yO;generalize p.cs[k]=ck at *;unfold plV at HC;clear aK aV ah bC s1 s2 s3 s4 yO;go_wp2_with fail;clear a0 a1 a2 a3;refine (HC.out _ ((Ext.refl _).alloc _)).mono ?_;rintro e w5 ⟨R5,rfl,hR5,pK,x5⟩;rw [Pl.cfs_len];have wL:Ext wr w5:=((Ext.refl wr).alloc _).trans x5;have hD:=HK.out.rd;have ags:wd.heap.size<=R5:=by have:=hR5; simp at this; omega
         have dA:zi w5 (fun b=>Q b/\b ≠ w.heap.size+1/\(b < w.heap.size\/wd.heap.size<=b)) R5 (ck.cfs l n):=pK.mono fun b hb=>by
          rw [HQ.out];rcases hb with hb | hb
          · exact ⟨.inl hb,by omega,.inl (by omega)⟩
          · have dX:=hb;simp at dX;exact ⟨.inr (by omega),by omega,.inr (by omega)⟩
         have kE:=hid (And.intro (HK.out.ext_ wL) dA);clear pK dA x5 wL HC hR5;go_wp2_with fail
         go_loopw [45] (fun iv wi=>∃ i:Nat,i<=n+1/\iv=.int .i64 i/\Hid (CfK w.heap.size wd.heap.size W Q p l n (w.heap.size+1) k i wi/\zi wi (fun b=>Q b/\b ≠ w.heap.size+1/\(b < w.heap.size\/wd.heap.size<=b)) R5 (ck.cfs l n))) (fun iv _=>n+1 - (intOf iv).toNat)
         case atStart=>exact ⟨0,Nat.zero_le _,rfl,kE⟩
         case round =>
          obtain ⟨i,hi,rfl,HI⟩:=hrel
          by_cases OX:i < n+1
          · obtain ⟨D0,gX,gZ,D1,kN,gY,⟨r0,r1,r2,r3⟩,sF⟩:=HI.out.2.2.2 i (by rw [Pl.cfs_len]; exact OX);have nX:Hid ((ck.cfs l n).getD i Pl.zero=(ck.cfs l n)[i]'(by rw [Pl.cfs_len]; exact OX)):=hid (by rw [List.getD_eq_getElem?_getD,List.getElem?_eq_getElem (by rw [Pl.cfs_len]; exact OX)]; rfl);have jP:=hid (sF.mono (q:=fun b=>Q b/\b ≠ w.heap.size+1/\(b < w.heap.size\/wd.heap.size<=b)) fun b hb=>hb.1);generalize (ck.cfs l n)[i]'(by rw [Pl.cfs_len]; exact OX)=x at *;obtain ⟨V6,xN⟩:=n_m (wr.alloc (.cells #[.int .i64 x.lv,.bool x.neg,.slice D0 gX gZ,.slice D1 kN gY] 33));have BQ:Ext wr V6:=by rw [<- xN]; exact (Ext.refl wr).alloc _
            have xI:jc V6 wr.heap.size x (.slice D0 gX gZ) (.slice D1 kN gY):=by rw [<- xN]; exact jc.new wr x _ _ _
            have hs6:V6.heap.size=wr.heap.size+1:=by rw [<- xN]; simp
            have YT:=HI.out.1.ext_ BQ;have dA:=HI.out.2.ext BQ;obtain ⟨B,Uh,hRB,hBD,⟨u0,u1,u2,u3,g0,g1,g2,g3⟩,QS,eu⟩:=YT.step (by omega) OX Vk.out;obtain ⟨dF,ak⟩:=eu x _ _ _ _ _ _ (by rw [HGD.out,nX.out]) (jP.out.ext BQ);rw [CP.out] at Uh;have hDw:=HI.out.1.rd;have rq:Hid (∀ V7,V7=((((V6.setCell ⟨B,k * 4,none⟩ (.int .i64 x.lv)).setCell ⟨B,k * 4+1,none⟩ (.bool x.neg)).setCell ⟨B,k * 4+2,none⟩ (.slice D0 gX gZ)).setCell ⟨B,k * 4+3,none⟩ (.slice D1 kN gY))->CfK w.heap.size wd.heap.size W Q p l n (w.heap.size+1) k (i+1) V7/\zi V7 (fun b=>Q b/\b ≠ w.heap.size+1/\(b < w.heap.size\/wd.heap.size<=b)) R5 (ck.cfs l n)/\(V7.cell? ⟨w.heap.size+1,i * 4+3,none⟩=some (.slice (some ⟨B,0,none⟩) mm mm)/\jc V7 (wr.heap.size) x (.slice D0 gX gZ) (.slice D1 kN gY))):=hid (by
             intro V7 lU;have bH:∀ b,b ≠ B->V7.heap[b]?=V6.heap[b]?:=fun b hb=>by
              rw [lU,Below.heap_setCell _ _ _ b hb,Below.heap_setCell _ _ _ b hb,Below.heap_setCell _ _ _ b hb,Below.heap_setCell _ _ _ b hb]
             have ae5:V7.heap.size=V6.heap.size:=by rw [lU]; simp [World.setCell]
             have kc:∀ b j,b ≠ B->V7.cell? ⟨b,j,none⟩=V6.cell? ⟨b,j,none⟩:=fun b j hb=>World.cell?_of_block (a:=⟨b,j,none⟩) (bH b hb)
             rw [<- lU] at dF ak
             refine ⟨dF,dA.turn (by omega) ak (bH _ (by omega)) (fun b _ hb _=>⟨hb,bH b (by omega)⟩),(kc _ _ (by omega)).trans Uh,(kc _ _ (by omega)).trans xI.1,(kc _ _ (by omega)).trans xI.2.1,(kc _ _ (by omega)).trans xI.2.2.1,(kc _ _ (by omega)).trans xI.2.2.2⟩)
            have f0:=QS (k * 4);have f1:=QS (k * 4+1);have f2:=QS (k * 4+2);have f3:=QS (k * 4+3);have HX6:=hid YT.ext;have Gp:Hid (∀ W',Ext V6 W'->(W'.cell? ⟨w.heap.size+1,i * 4+3,none⟩=some (.slice (some ⟨B,0,none⟩) mm mm)/\jc W' (wr.heap.size) x (.slice D0 gX gZ) (.slice D1 kN gY))):=hid (fun W' hx=>by
             obtain ⟨c0,c1,c2,c3⟩:=xI.ext hx (by omega)
             exact ⟨(hx.cell (p:=⟨w.heap.size+1,i * 4+3,none⟩) (by show w.heap.size+1 < _; omega)).trans Uh,c0,c1,c2,c3⟩)
            have nK:(i:Int) < (n:Int)+1:=by omega
            have E5:(k:Int) < (mm:Int):=by omega
            clear dF ak eu dA YT xI QS Uh sF BQ;go_upto_region 13 with fail
            try rw [xN]
            clear xN r0 r1 r2 r3;refine wp_region_held_drew (S:=fun W'=>(W'.cell? ⟨w.heap.size+1,i * 4+3,none⟩=some (.slice (some ⟨B,0,none⟩) mm mm)/\jc W' (wr.heap.size) x (.slice D0 gX gZ) (.slice D1 kN gY))) (by kernel_rfl) (Gp.out _ (Ext.refl V6).drew) (fun hHeld=>?_);refine tk 0 ?_;refine tk 1 ?_;refine tk 2 ?_;refine tk 3 ?_;refine tk 4 ?_ (hy:=Or.inl ⟨by rfl,by intro w' aZ; obtain ⟨k0,k1,k2,k3,k4⟩:=aZ; go_simp; (try (with_reducible rfl))⟩);refine tk 5 ?_;refine tk 6 ?_ (hy:=Or.inl ⟨by rfl,by intro w' aZ; obtain ⟨k0,k1,k2,k3,k4⟩:=aZ; go_simp; (try (with_reducible rfl))⟩);refine tk 7 ?_;refine r_1 8 fun K hK=>?_
            go_simp;refine (?g9:∀ V7,(CfK w.heap.size wd.heap.size W Q p l n (w.heap.size+1) k (i+1) V7/\zi V7 (fun b=>Q b/\b ≠ w.heap.size+1/\(b < w.heap.size\/wd.heap.size<=b)) R5 (ck.cfs l n)/\(V7.cell? ⟨w.heap.size+1,i * 4+3,none⟩=some (.slice (some ⟨B,0,none⟩) mm mm)/\jc V7 (wr.heap.size) x (.slice D0 gX gZ) (.slice D1 kN gY)))->K _ V7.drew) _ (rq.out _ rfl);intro V7 lU;obtain ⟨k7,r7,c7⟩:=lU;have XY:Ext V7 V7.drew:=(Ext.refl V7).drew;refine k_t hK c7 fun hHeld=>?_
            clear hK K g0 g1 g2 g3 f0 f1 f2 f3 c7;refine w_d ?_;have HV7:=hid (And.intro (k7.ext_ XY) (r7.ext XY));clear hHeld rq Gp k7 r7 XY;go_wp2_with fail
            go_roundw
            case rel=>exact ⟨i+1,by omega,by go_num,HV7⟩
            case measure=>simp only [intOf]; omega
          · have Fg:i=n+1:=by omega
            have YW:=HI.out.1;rw [Fg] at YW;have HN:=hid YW.next;clear HI YW Fg;go_wp2_with fail
            go_roundw
            case rel=>exact ⟨k+1,by omega,by go_num,HN⟩
            case measure=>simp only [intOf]; omega
       · have bV:k=mm:=by omega
         have YS:=HK.out;rw [bV] at YS
         replace HK:=hid YS
         clear YS bV;obtain ⟨bs,LL,h1,h2,h3,h4⟩:=HK.out.rows;have aQ:=h1.fin (q':=fun b=>(q b/\b < w0.heap.size)\/w.heap.size<=b) HK.out.fr (by rw [CP.out]; omega) (fun b hb=>by
          rcases hb with hb | hb
          · rw [HQ.out] at hb; exact hb
          · exact .inr hb)
         have LK:LL.map (fun ks=>Pl.mk p.lv false [] ks)=p.cfs l n:=by
          rw [lI.out];refine List.ext_getElem (by simp [h2]) fun r uF fA=>?_
          simp only [List.length_map] at uF;simp only [List.getElem_map,List.getElem_range]
          congr 1
          have uO:r < bs.length:=by rw [h1.len]; exact uF
          refine List.ext_getElem (by rw [(h1.row r uF uO).1,List.length_map]) fun j Pj lQ=>?_
          rw [List.length_map] at lQ;rw [h4 r uF j Pj (.inl (by rw [<- CP.out]; exact lQ)),List.getElem_map,List.getD_eq_getElem?_getD (l:=p.cs),List.getElem?_eq_getElem lQ]
          rfl
         rw [LK] at aQ;have bD:=hid aQ;have tV:=hid (p.cfs_len l n);have vY:=hid (aB.out.trans HK.out.ext);clear h1 h2 h3 h4 aQ LK HK;go_wp2_with fail;go_ret;exact ⟨w.heap.size+1,by rw [tV.out]; rfl,by omega,bD.out,vY.out⟩
theorem xc3 {w:World} {q:Nat->Prop} {l:Int} (hl:1<=l) (n:Nat) (hn:n<=1000000000) (p:Pl) (v:Value) (bQ:p.Can) (hsz:p.sz<=1099511627776) (hd:p.dgL l<=n) (h:PlV w q p v):Calls Tryz.prog 152 #[v,.int .i64 l,.int .i64 n] w (qcy q (p.cfs l n) w):=
 (kc6 w q l hl n hn (p.sz+1) p v w (Nat.lt_succ_self _) bQ hsz hd h (Ext.refl w)).mono fun e w' ⟨R,h1,h2,h3,h4⟩=>⟨R,h1,h2,h3.mono fun b hb=>hb.imp (fun h=>h.1) id,h4⟩
end Go.Proofs.YtcepajijiabkmaaGreat
