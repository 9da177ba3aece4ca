/- Layer 23: mainvar.coefs. -/
import Derived.Test.YtklnlgnnlmdibaaGreatMq27
set_option linter.unusedSimpArgs false
set_option linter.unusedVariables false

set_option maxRecDepth 100000
set_option maxHeartbeats 8000000
namespace Go.Proofs.YtklnlgnnlmdibaaGreat
open Lib (hid)
open Go.RowKit
theorem va5 : ∀ (n : Nat) (cs : List Pl), cs.length <= n + 1 -> yac n cs = cs ++ List.replicate (n + 1 - cs.length) Pl.zero
 | 0,[],_=>rfl
 | 0,[c],_=>rfl
 | n+1,[],_=>by
   rw [yac,va5 n [] (by simp)];simp [List.replicate_succ]
 | n+1,c :: r,h=>by
   rw [yac,va5 n r (by simpa using h)];simp
theorem kcl (n:Nat) (p:Pl):(List.replicate (n+1) Pl.zero).set 0 p=yac n [p]:=by
 rw [va5 n [p] (by simp)];simp [List.replicate_succ]
def ucq (q:Nat->Prop) (L:List Pl) (w:World) (e:Ending) (w':World):Prop:=∃ R,e=.returned (.slice (some ⟨R,0,none⟩) L.length L.length)/\w.heap.size<=R/\xh w' (fun b=>q b\/w.heap.size<=b) R L/\Ext w w'
theorem xh.turn {W W':World} {q q':Nat->Prop} {R:Nat} {l:List Pl} (h:xh W q R l) (hs:W.heap.size<=W'.heap.size) (hn:∀ v ds,jd W v ds->jd W' v ds) (hb:W'.heap[R]?=W.heap[R]?) (hc:∀ b,b < W.heap.size->q b->b ≠ R->q' b/\W'.heap[b]?=W.heap[b]?):xh W' q' R l:=by
 obtain ⟨h1,h2,h3⟩:=h;have k:∀ i,W'.cell? ⟨R,i,none⟩=W.cell? ⟨R,i,none⟩:=fun i=>World.cell?_of_block (a:=⟨R,i,none⟩) hb
 refine ⟨by omega,fun i=>(World.frozen?_of_block (a:=⟨R,i,none⟩) hb).trans (h2 i),fun i hi=>?_⟩;obtain ⟨A0,n0,c0,A1,n1,c1,h4,h5⟩:=h3 i hi;exact ⟨A0,n0,c0,A1,n1,c1,h4.same (k _) (fun n _=>k _),PlV.turn_ hs hn (fun b dL hq=>⟨⟨(hc b dL hq.1 hq.2).1,hq.2⟩,(hc b dL hq.1 hq.2).2⟩) h5⟩
structure CfS (W : World) (base : Nat) (q : Nat -> Prop) (lv : Int) (m : Nat) (R : Nat) (bs : List Nat) (LL : List (List Pl)) : Prop where
 len:bs.length=LL.length
 rlt:R < W.heap.size
 rb:base<=R
 bb:∀ b ∈ bs,R < b/\b < W.heap.size
 dist:bs.Pairwise (· ≠ ·)
 hd:∀ i (h:i < LL.length) (h':i < bs.length),W.cell? ⟨R,i * 4,none⟩=some (.int .i64 lv)/\W.cell? ⟨R,i * 4+1,none⟩=some (.bool false)/\W.cell? ⟨R,i * 4+2,none⟩=some (.slice none 0 0)/\W.cell? ⟨R,i * 4+3,none⟩=some (.slice (some ⟨bs[i],0,none⟩) m m)
 row:∀ i (h:i < LL.length) (h':i < bs.length),LL[i].length=m/\xh W (fun b=>q b/\b ≠ R/\b ∉ bs) bs[i] LL[i]
theorem CfS.ext {W W' : World} {base : Nat} {q : Nat -> Prop} {lv : Int} {m R : Nat} {bs : List Nat} {LL : List (List Pl)} (h : CfS W base q lv m R bs LL) (hx : Ext W W') : CfS W' base q lv m R bs LL where
 len:=h.len
 rlt:=Nat.lt_of_lt_of_le h.rlt hx.size
 rb:=h.rb
 bb b hb:=⟨(h.bb b hb).1,Nat.lt_of_lt_of_le (h.bb b hb).2 hx.size⟩
 dist:=h.dist
 hd i h1 h2:=by
  have k:∀ j,W'.cell? ⟨R,j,none⟩=W.cell? ⟨R,j,none⟩:=fun j=>hx.cell (p:=⟨R,j,none⟩) h.rlt
  obtain ⟨a,b,c,d⟩:=h.hd i h1 h2;exact ⟨(k _).trans a,(k _).trans b,(k _).trans c,(k _).trans d⟩
 row i h1 h2:=⟨(h.row i h1 h2).1,(h.row i h1 h2).2.ext hx⟩
theorem CfS.push {W W' : World} {base : Nat} {q : Nat -> Prop} {lv : Int} {m R B : Nat} {bs : List Nat} {LL : List (List Pl)} {L : List Pl} (h : CfS W base q lv m R bs LL) (hq : ∀ b, q b -> b < W.heap.size -> b < B) (hB : ∀ b ∈ bs, b < B) (Yy : R < B) (hBs : B < W'.heap.size) (hs : W.heap.size <= W'.heap.size) (hn : ∀ v ds, jd W v ds -> jd W' v ds) (hc : ∀ b, b ≠ R -> b < W.heap.size -> W'.heap[b]? = W.heap[b]?)
 (aj:∀ j,j < LL.length * 4->W'.cell? ⟨R,j,none⟩=W.cell? ⟨R,j,none⟩)
 (hL:L.length=m) (ae:xh W' (fun b=>q b/\b ≠ R/\b ∉ bs ++ [B]) B L)
 (RY:W'.cell? ⟨R,LL.length * 4,none⟩=some (.int .i64 lv)/\W'.cell? ⟨R,LL.length * 4+1,none⟩=some (.bool false)/\W'.cell? ⟨R,LL.length * 4+2,none⟩=some (.slice none 0 0)/\W'.cell? ⟨R,LL.length * 4+3,none⟩=some (.slice (some ⟨B,0,none⟩) m m)) :
 CfS W' base q lv m R (bs ++ [B]) (LL ++ [L]) where
 len:=by simp [h.len]
 rlt:=Nat.lt_of_lt_of_le h.rlt hs
 rb:=h.rb
 bb b hb:=by
  rcases List.mem_append.1 hb with hb | hb
  · exact ⟨(h.bb b hb).1,Nat.lt_of_lt_of_le (h.bb b hb).2 hs⟩
  · rw [List.mem_singleton.1 hb]; exact ⟨Yy,hBs⟩
 dist:=by
  rw [List.pairwise_append];refine ⟨h.dist,by simp,fun a ha b hb=>?_⟩;rw [List.mem_singleton.1 hb];have:=hB a ha;omega
 hd i h1 h2:=by
  have hlen:=h.len
  by_cases hi:i < LL.length
  · obtain ⟨a,b,c,d⟩:=h.hd i hi (by omega);rw [List.getElem_append_left (by omega)];exact ⟨(aj _ (by omega)).trans a,(aj _ (by omega)).trans b,(aj _ (by omega)).trans c,(aj _ (by omega)).trans d⟩
  · obtain rfl:i=LL.length:=by simp at h1; omega
    rw [List.getElem_append_right (by omega)];simpa using RY
 row i h1 h2:=by
  have hlen:=h.len
  by_cases hi:i < LL.length
  · rw [List.getElem_append_left hi,List.getElem_append_left (show i < bs.length by omega)];obtain ⟨a,b⟩:=h.row i hi (by omega);have hbi:=h.bb _ (List.getElem_mem (by omega:i < bs.length));refine ⟨a,b.turn hs hn (hc _ (by omega) hbi.2) fun c dh eX _=>⟨⟨eX.1,eX.2.1,fun hm=>?_⟩,hc c eX.2.1 dh⟩⟩;rcases List.mem_append.1 hm with hm | hm
    · exact eX.2.2 hm
    · have:=hq c eX.1 dh;rw [List.mem_singleton.1 hm] at this;omega
  · obtain rfl:i=LL.length:=by simp at h1; omega
    rw [List.getElem_append_right (Nat.le_refl LL.length),List.getElem_append_right (show bs.length<=LL.length by omega)];simp only [hlen,Nat.sub_self,List.getElem_cons_zero];exact ⟨hL,ae⟩
theorem CfS.set_ {W:World} {base:Nat} {q:Nat->Prop} {lv:Int} {m R:Nat} {bs:List Nat} {LL:List (List Pl)} (h:CfS W base q lv m R bs LL) (i k:Nat) (hi:i < LL.length) (iJ:i < bs.length) (hk:k < m) (p:Pl) {A0 A1:Option Addr} {n0 c0 n1 c1:Nat} (hp:PlV W (fun b=>q b/\b ≠ R/\b ∉ bs) p (plV p (.slice A0 n0 c0) (.slice A1 n1 c1))) :
 CfS ((((W.setCell ⟨bs[i],k * 4,none⟩ (.int .i64 p.lv)).setCell ⟨bs[i],k * 4+1,none⟩ (.bool p.neg)).setCell ⟨bs[i],k * 4+2,none⟩ (.slice A0 n0 c0)).setCell ⟨bs[i],k * 4+3,none⟩ (.slice A1 n1 c1)) base q lv m R bs (LL.set i (LL[i].set k p))/\(∀ v ds,jd W v ds->jd ((((W.setCell ⟨bs[i],k * 4,none⟩ (.int .i64 p.lv)).setCell ⟨bs[i],k * 4+1,none⟩ (.bool p.neg)).setCell ⟨bs[i],k * 4+2,none⟩ (.slice A0 n0 c0)).setCell ⟨bs[i],k * 4+3,none⟩ (.slice A1 n1 c1)) v ds):=by
 obtain ⟨hlm,ae⟩:=h.row i hi iJ;have hbi:=h.bb _ (List.getElem_mem iJ);obtain ⟨aU,au⟩:=ae.set_ k (by omega) p (hp.mono fun b hb=>⟨hb,fun e=>hb.2.2 (e ▸ List.getElem_mem iJ)⟩);obtain ⟨W',bJ⟩:=n_m (((((W.setCell ⟨bs[i],k * 4,none⟩ (.int .i64 p.lv)).setCell ⟨bs[i],k * 4+1,none⟩ (.bool p.neg)).setCell ⟨bs[i],k * 4+2,none⟩ (.slice A0 n0 c0)).setCell ⟨bs[i],k * 4+3,none⟩ (.slice A1 n1 c1)));have cO:∀ b,b ≠ bs[i]->W'.heap[b]?=W.heap[b]?:=fun b hb=>by
  rw [<- bJ];rw [Below.heap_setCell _ _ _ b hb,Below.heap_setCell _ _ _ b hb,Below.heap_setCell _ _ _ b hb,Below.heap_setCell _ _ _ b hb]
 have hsz:W'.heap.size=W.heap.size:=by rw [<- bJ]; simp [World.setCell]
 rw [bJ] at aU au ⊢;have hRb:R ≠ bs[i]:=by omega
 have Ui:∀ j (hj:j < bs.length),j ≠ i->bs[j] ≠ bs[i]:=fun j hj ak=>by
  have:=List.pairwise_iff_getElem.1 h.dist;rcases Nat.lt_or_gt_of_ne ak with af | af
  · exact this j i hj iJ af
  · exact fun e=>this i j iJ hj af e.symm
 refine ⟨?_,au⟩
 exact {
  len:=by rw [List.length_set]; exact h.len
  rlt:=by rw [hsz]; exact h.rlt
  rb:=h.rb
  bb:=fun b hb=>by rw [hsz]; exact h.bb b hb
  dist:=h.dist
  hd:=fun j h1 h2=>by
   rw [List.length_set] at h1;have kk:∀ j,W'.cell? ⟨R,j,none⟩=W.cell? ⟨R,j,none⟩:=fun j=>World.cell?_of_block (a:=⟨R,j,none⟩) (cO R hRb)
   obtain ⟨a,b,c,d⟩:=h.hd j h1 h2;exact ⟨(kk _).trans a,(kk _).trans b,(kk _).trans c,(kk _).trans d⟩
  row:=fun j h1 h2=>by
   rw [List.length_set] at h1
   by_cases hj:j=i
   · subst hj;rw [List.getElem_set_self];exact ⟨by rw [List.length_set]; exact hlm,aU⟩
   · rw [List.getElem_set_ne (Ne.symm hj)];obtain ⟨a,b⟩:=h.row j h1 h2
     exact ⟨a,b.turn (by omega) au (cO _ (Ui j h2 hj)) fun c _ hc _=>⟨hc,cO c fun e=>hc.2.2 (e ▸ List.getElem_mem iJ)⟩⟩ }
theorem CfS.fin {W:World} {base:Nat} {q q':Nat->Prop} {lv:Int} {m R:Nat} {bs:List Nat} {LL:List (List Pl)} (h:CfS W base q lv m R bs LL) (bF:∀ i,W.frozen? ⟨R,i,none⟩=false) (hm:m<=9223372036854775807) (hq:∀ b,(q b\/base<=b)->q' b):xh W q' R (LL.map fun ks=>.mk lv false [] ks):=by
 refine ⟨h.rlt,bF,fun i hi=>?_⟩;rw [List.length_map] at hi;have iJ:i < bs.length:=by rw [h.len]; exact hi
 obtain ⟨a,b,c,d⟩:=h.hd i hi iJ;obtain ⟨hl,hr⟩:=h.row i hi iJ;have hbi:=h.bb _ (List.getElem_mem iJ);have Ib:=h.rb;rw [List.getElem_map];refine ⟨none,0,0,some ⟨bs[i],0,none⟩,m,m,⟨a,b,c,d⟩,?_⟩;have kH:jc W (fun b=>q' b/\b ≠ R) LL[i] (some ⟨bs[i],0,none⟩) 0:=(hr.mono (q':=fun b=>q' b/\b ≠ R) fun b hb=>⟨hq b (.inl hb.1),hb.2.1⟩).fin ⟨hq _ (.inr (by omega)),by omega⟩;have:=PlV.mk (t:=.mk lv false [] LL[i]) (s:=.slice none 0 0) (A:=some ⟨bs[i],0,none⟩) (c:=m) (jd.nil W) (by show LL[i].length<=m; omega) hm kH;unfold plV at this ⊢;simp only [Pl.lv,Pl.neg,Pl.cs] at this ⊢;rw [hl] at this;exact this
theorem Pl.dgL_cs {l:Int} {p:Pl} (h:p.lv=l):p.dgL l=p.cs.length - 1:=by
 cases p; simp only [Pl.lv,Pl.cs] at *; rw [Pl.dgL,if_neg (by omega),if_pos h]
theorem Pl.cfs_low_ {l:Int} {n:Nat} {p:Pl} (h:p.lv < l):p.cfs l n=yac n [p]:=by cases p; simp only [Pl.lv] at h; rw [Pl.cfs,if_pos h]
theorem Pl.cfs_eq_ {l:Int} {n:Nat} {p:Pl} (h:p.lv=l):p.cfs l n=yac n p.cs:=by cases p; simp only [Pl.lv,Pl.cs] at *; rw [Pl.cfs,if_neg (by omega),if_pos h]
theorem Pl.cfs_gt_ {l:Int} {n:Nat} {p:Pl} (h:l < p.lv):p.cfs l n=(List.range (n+1)).map fun i=>.mk p.lv false [] (p.cs.map fun c=>(c.cfs l n).getD i Pl.zero):=by
 cases p; simp only [Pl.lv,Pl.cs] at *; rw [Pl.cfs,if_neg (by omega),if_neg (by omega)]; simp only [vai]
theorem wb0 (N:Nat):∀ u ∈ jo (List.replicate N wz),jq u=false:=fun u hu=>by
 simp only [jo,List.mem_flatMap] at hu;obtain ⟨r,hr,hu⟩:=hu;rw [List.eq_of_mem_replicate hr] at hu;simp only [plC,wz,List.mem_cons,List.not_mem_nil,or_false] at hu;rcases hu with rfl | rfl | rfl | rfl <;> rfl
def CfJ (base:Nat) (W:World) (Q:Nat->Prop) (lv:Int) (mm R n k:Nat) (wr:World):Prop:=Ext W wr/\(∀ i,wr.frozen? ⟨R,i,none⟩=false)/\(∀ j,j < (n+1) * 4->∃ u,wr.cell? ⟨R,j,none⟩=some u/\jq u=false)/\∃ bs,CfS wr base Q lv mm R bs (List.replicate k (List.replicate mm Pl.zero))
theorem gaz {V:World} {R k:Nat} {u0 u1 u2 u3:Value} (h0:V.cell? ⟨R,k,none⟩=some u0) (h1:V.cell? ⟨R,k+1,none⟩=some u1) (h2:V.cell? ⟨R,k+2,none⟩=some u2) (h3:V.cell? ⟨R,k+3,none⟩=some u3) (d0:jq u0=false) (d1:jq u1=false) (d2:jq u2=false) (d3:jq u3=false) (x0 x1 x2 x3:Value) :
 let V':=(((V.setCell ⟨R,k,none⟩ x0).setCell ⟨R,k+1,none⟩ x1).setCell ⟨R,k+2,none⟩ x2).setCell ⟨R,k+3,none⟩ x3
 (V'.cell? ⟨R,k,none⟩=some x0/\V'.cell? ⟨R,k+1,none⟩=some x1/\V'.cell? ⟨R,k+2,none⟩=some x2/\V'.cell? ⟨R,k+3,none⟩=some x3)/\(∀ j,(j < k\/k+3 < j)->V'.cell? ⟨R,j,none⟩=V.cell? ⟨R,j,none⟩)/\(∀ b,b ≠ R->V'.heap[b]?=V.heap[b]?)/\(∀ a,V'.frozen? a=V.frozen? a)/\V'.heap.size=V.heap.size/\∀ v ds,jd V v ds->jd V' v ds:=by
 intro V';have e1:(V.setCell ⟨R,k,none⟩ x0).cell? ⟨R,k+1,none⟩=some u1:=by rw [World.cell?_setCell_other _ _ _ _ (by simp)]; exact h1
 have e2:((V.setCell ⟨R,k,none⟩ x0).setCell ⟨R,k+1,none⟩ x1).cell? ⟨R,k+2,none⟩=some u2:=by rw [World.cell?_setCell_other _ _ _ _ (by simp),World.cell?_setCell_other _ _ _ _ (by simp)]; exact h2
 have e3:(((V.setCell ⟨R,k,none⟩ x0).setCell ⟨R,k+1,none⟩ x1).setCell ⟨R,k+2,none⟩ x2).cell? ⟨R,k+3,none⟩=some u3:=by rw [World.cell?_setCell_other _ _ _ _ (by simp),World.cell?_setCell_other _ _ _ _ (by simp),World.cell?_setCell_other _ _ _ _ (by simp)]; exact h3
 refine ⟨⟨?_,?_,?_,World.cell?_setCell_same _ _ _ e3⟩,fun j hj=>?_,fun b hb=>?_,fun a=>?_,?_,fun v ds hv=>(((hv.box h0 d0 _).box e1 d1 _).box e2 d2 _).box e3 d3 _⟩
 · rw [World.cell?_setCell_other _ _ _ _ (by simp),World.cell?_setCell_other _ _ _ _ (by simp),World.cell?_setCell_other _ _ _ _ (by simp)]; exact World.cell?_setCell_same _ _ _ h0
 · rw [World.cell?_setCell_other _ _ _ _ (by simp),World.cell?_setCell_other _ _ _ _ (by simp)]; exact World.cell?_setCell_same _ _ _ e1
 · rw [World.cell?_setCell_other _ _ _ _ (by simp)]; exact World.cell?_setCell_same _ _ _ e2
 · iterate 4 rw [World.cell?_setCell_other _ _ _ _ (by intro e; injection e; omega)]
 · rw [Below.heap_setCell _ _ _ b hb,Below.heap_setCell _ _ _ b hb,Below.heap_setCell _ _ _ b hb,Below.heap_setCell _ _ _ b hb]
 · simp only [V',World.frozen?_setCell]
 · simp [V',World.setCell]
theorem CfJ.step {base:Nat} {W:World} {Q:Nat->Prop} {lv:Int} {mm R n k:Nat} {wr V2:World} (h:CfJ base W Q lv mm R n k wr) (hk:k < n+1) (hW:W.heap.size<=R) (hx:Ext wr V2) (hs:V2.heap.size=wr.heap.size+1) (ae:∀ q,xh V2 q wr.heap.size (List.replicate mm Pl.zero)) :
 (∃ u0 u1 u2 u3,V2.cell? ⟨R,k * 4,none⟩=some u0/\V2.cell? ⟨R,k * 4+1,none⟩=some u1/\V2.cell? ⟨R,k * 4+2,none⟩=some u2/\V2.cell? ⟨R,k * 4+3,none⟩=some u3)/\(∀ i,V2.frozen? ⟨R,i,none⟩=false) /\
 CfJ base W Q lv mm R n (k+1) ((((V2.setCell ⟨R,k * 4,none⟩ (.int .i64 lv)).setCell ⟨R,k * 4+1,none⟩ (.bool false)).setCell ⟨R,k * 4+2,none⟩ (.slice none 0 0)).setCell ⟨R,k * 4+3,none⟩ (.slice (some ⟨wr.heap.size,0,none⟩) mm mm)):=by
 obtain ⟨h1,h2,h3,bs,h4⟩:=h;have hc:∀ j,V2.cell? ⟨R,j,none⟩=wr.cell? ⟨R,j,none⟩:=fun j=>hx.cell (p:=⟨R,j,none⟩) h4.rlt
 have hf:∀ i,V2.frozen? ⟨R,i,none⟩=false:=fun i=>(hx.frozen (p:=⟨R,i,none⟩) h4.rlt).trans (h2 i)
 obtain ⟨u0,c0,d0⟩:=h3 (k * 4) (by omega);obtain ⟨u1,c1,d1⟩:=h3 (k * 4+1) (by omega);obtain ⟨u2,c2,d2⟩:=h3 (k * 4+2) (by omega);obtain ⟨u3,c3,d3⟩:=h3 (k * 4+3) (by omega);have lY:=gaz ((hc _).trans c0) ((hc _).trans c1) ((hc _).trans c2) ((hc _).trans c3) d0 d1 d2 d3 (.int .i64 lv) (.bool false) (.slice none 0 0) (.slice (some ⟨wr.heap.size,0,none⟩) mm mm);refine ⟨⟨u0,u1,u2,u3,(hc _).trans c0,(hc _).trans c1,(hc _).trans c2,(hc _).trans c3⟩,hf,?_⟩;obtain ⟨V3,Me⟩:=n_m (((((V2.setCell ⟨R,k * 4,none⟩ (.int .i64 lv)).setCell ⟨R,k * 4+1,none⟩ (.bool false)).setCell ⟨R,k * 4+2,none⟩ (.slice none 0 0)).setCell ⟨R,k * 4+3,none⟩ (.slice (some ⟨wr.heap.size,0,none⟩) mm mm)));have ay:Ext W V3:=by rw [<- Me]; exact ((((h1.trans hx).setCell hW _).setCell hW _).setCell hW _).setCell hW _
 simp only [Me] at lY ⊢;obtain ⟨f1,f2,f3,f4,f5,f6⟩:=lY;refine ⟨ay,fun i=>(f4 _).trans (hf i),fun j hj=>?_,bs ++ [wr.heap.size],?_⟩
 · by_cases lJ:j < k * 4\/k * 4+3 < j
   · rw [f2 j lJ,hc]; exact h3 j hj
   · rcases (show j=k * 4\/j=k * 4+1\/j=k * 4+2\/j=k * 4+3 by omega) with rfl | rfl | rfl | rfl
     · exact ⟨_,f1.1,rfl⟩
     · exact ⟨_,f1.2.1,rfl⟩
     · exact ⟨_,f1.2.2.1,rfl⟩
     · exact ⟨_,f1.2.2.2,rfl⟩
 · have vJ:=h4.rlt
   have := h4.push (W' := V3) (B := wr.heap.size) (L := List.replicate mm Pl.zero) (fun b _ hb => hb) (fun b hb => (h4.bb b hb).2) h4.rlt (by omega) (by omega) (fun v ds hv => f6 v ds (hv.ext hx)) (fun b hb af => (f3 b hb).trans (hx.below.block b af))
    (fun j hj=>by rw [List.length_replicate] at hj; exact (f2 j (.inl hj)).trans (hc j)) List.length_replicate
    ((ae (fun b=>Q b/\b ≠ R/\b ∉ bs ++ [wr.heap.size])).turn (by omega) f6 (f3 _ (by omega)) (fun b _ hq _=>⟨hq,f3 b hq.2.1⟩))
    (by rw [List.length_replicate]; exact f1)
   rw [show List.replicate (k+1) (List.replicate mm Pl.zero)=List.replicate k (List.replicate mm Pl.zero) ++ [List.replicate mm Pl.zero] from List.replicate_succ'];exact this
structure CfK (base D : Nat) (W : World) (Q : Nat -> Prop) (p : Pl) (l : Int) (n R k i : Nat) (wr : World) : Prop where
 ext:Ext W wr
 fr:∀ j,wr.frozen? ⟨R,j,none⟩=false
 rd:R < D/\D<=wr.heap.size
 rows:∃ bs LL,CfS wr base Q p.lv p.cs.length R bs LL/\LL.length=n+1/\(∀ b ∈ bs,b < D)/\∀ r (h:r < LL.length) j (h':j < LL[r].length),(j < k\/(j=k/\r < i))->LL[r][j]=((p.cs.getD j Pl.zero).cfs l n).getD r Pl.zero
theorem CfK.ext_ {base D:Nat} {W:World} {Q:Nat->Prop} {p:Pl} {l:Int} {n R k i:Nat} {wr W':World} (h:CfK base D W Q p l n R k i wr) (hx:Ext wr W'):CfK base D W Q p l n R k i W':=by
 obtain ⟨bs,LL,h1,h2⟩:=h.rows;exact ⟨h.ext.trans hx,fun j=>(hx.frozen (p:=⟨R,j,none⟩) h1.rlt).trans (h.fr j),⟨h.rd.1,Nat.le_trans h.rd.2 hx.size⟩,bs,LL,h1.ext hx,h2⟩
theorem CfK.next {base D:Nat} {W:World} {Q:Nat->Prop} {p:Pl} {l:Int} {n R k:Nat} {wr:World} (h:CfK base D W Q p l n R k (n+1) wr):CfK base D W Q p l n R (k+1) 0 wr:=by
 obtain ⟨bs,LL,h1,h2,h3,h4⟩:=h.rows;exact ⟨h.ext,h.fr,h.rd,bs,LL,h1,h2,h3,fun r hr j hj hc=>h4 r hr j hj (by omega)⟩
theorem CfK.step {base D:Nat} {W:World} {Q:Nat->Prop} {p:Pl} {l:Int} {n R k i:Nat} {wr:World} (h:CfK base D W Q p l n R k i wr) (hW:W.heap.size<=R) (hi:i < n+1) (hk:k < p.cs.length):∃ B,wr.cell? ⟨R,i * 4+3,none⟩=some (.slice (some ⟨B,0,none⟩) p.cs.length p.cs.length)/\R < B/\B < D /\
 (∃ u0 u1 u2 u3,wr.cell? ⟨B,k * 4,none⟩=some u0/\wr.cell? ⟨B,k * 4+1,none⟩=some u1/\wr.cell? ⟨B,k * 4+2,none⟩=some u2/\wr.cell? ⟨B,k * 4+3,none⟩=some u3)/\(∀ j,wr.frozen? ⟨B,j,none⟩=false) /\
 ∀ (x:Pl) (A0 A1:Option Addr) (n0 c0 n1 c1:Nat),x=((p.cs.getD k Pl.zero).cfs l n).getD i Pl.zero->PlV wr (fun b=>Q b/\b ≠ R/\(b < base\/D<=b)) x (plV x (.slice A0 n0 c0) (.slice A1 n1 c1)) ->
   CfK base D W Q p l n R k (i+1) ((((wr.setCell ⟨B,k * 4,none⟩ (.int .i64 x.lv)).setCell ⟨B,k * 4+1,none⟩ (.bool x.neg)).setCell ⟨B,k * 4+2,none⟩ (.slice A0 n0 c0)).setCell ⟨B,k * 4+3,none⟩ (.slice A1 n1 c1)) /\
   ∀ v ds,jd wr v ds->jd ((((wr.setCell ⟨B,k * 4,none⟩ (.int .i64 x.lv)).setCell ⟨B,k * 4+1,none⟩ (.bool x.neg)).setCell ⟨B,k * 4+2,none⟩ (.slice A0 n0 c0)).setCell ⟨B,k * 4+3,none⟩ (.slice A1 n1 c1)) v ds:=by
 obtain ⟨bs,LL,h1,h2,h3,h4⟩:=h.rows;have IC:i < LL.length:=by omega
 have xJ:i < bs.length:=by rw [h1.len]; exact IC
 obtain ⟨-,-,-,hd⟩:=h1.hd i IC xJ;have uI:=h1.bb _ (List.getElem_mem xJ);obtain ⟨hlm,ae⟩:=h1.row i IC xJ;obtain ⟨C0,j0,f0,C1,j1,f1,⟨r0,r1,r2,r3⟩,-⟩:=ae.2.2 k (by omega);refine ⟨bs[i],hd,uI.1,h3 _ (List.getElem_mem xJ),⟨_,_,_,_,r0,r1,r2,r3⟩,ae.2.1,fun x A0 A1 n0 c0 n1 c1 hx hp=>?_⟩;have Ib:=h1.rb;obtain ⟨aU,au⟩:=h1.set_ i k IC xJ hk x (hp.mono fun b hb=>⟨hb.1,hb.2.1,fun hm=>by
  have e1:=h3 b hm;have e2:=(h1.bb b hm).1
  rcases hb.2.2 with e | e <;> omega⟩)
 have Yp:W.heap.size<=bs[i]:=by omega
 refine ⟨⟨(((h.ext.setCell Yp _).setCell Yp _).setCell Yp _).setCell Yp _,fun j=>by simp only [World.frozen?_setCell]; exact h.fr j,⟨h.rd.1,by have:=h.rd.2; simpa [World.setCell] using this⟩,bs,_,aU,by rw [List.length_set]; exact h2,h3,fun r hr j hj hc=>?_⟩,au⟩;have Ba:r < LL.length:=by rw [List.length_set] at hr; exact hr
 by_cases Cj:r=i
 · subst Cj
   by_cases lJ:j=k
   · subst lJ;simp only [List.getElem_set_self];exact hx
   · simp only [List.getElem_set_self,List.getElem_set_ne (Ne.symm lJ)];simp only [List.getElem_set_self,List.length_set] at hj;exact h4 r Ba j hj (by omega)
 · simp only [List.getElem_set_ne (Ne.symm Cj)] at hj ⊢;exact h4 r Ba j hj (by omega)
def yc2 (w0:World) (q:Nat->Prop) (l:Int) (n m:Nat):Prop:=∀ (p:Pl) (v:Value) (w:World),p.sz < m->p.Can->p.sz<=1099511627776->p.dgL l<=n->PlV w0 q p v->Ext w0 w->Calls Tryz.prog 81 #[v,.int .i64 l,.int .i64 n] w (ucq (fun b=>q b/\b < w0.heap.size) (p.cfs l n) w)
theorem gcy (w0:World) (q:Nat->Prop) (l:Int) (hl:1<=l) (n:Nat) (hn:n<=1000000000) (m:Nat):yc2 w0 q l n m:=by
 induction m with
 | zero=>intro p v w h; omega
 | succ m ih =>
 intro p v w hsz dw zL jX h aC;have KF:PlV w (fun b=>q b/\b < w0.heap.size) p v:=(PlV.turn_ (Nat.le_refl _) (fun _ _ h=>h) (fun b hb hq=>⟨⟨hq,hb⟩,rfl⟩) h).ext aC;have IH:=hid ih;have HP:=hid KF;obtain ⟨A0,n0,c0,A,c,rfl,au,dY,eF,h4⟩:=h.open_;have H4:=hid h4;have ax:=hid aC;obtain ⟨W,hW⟩:=n_m (w.alloc (.cells #[.int .i64 p.lv,.bool p.neg,.slice A0 n0 c0,.slice A p.cs.length c] 35));have ai:Ext w W:=by rw [<- hW]; exact (Ext.refl w).alloc _
 have dE:W.heap.size=w.heap.size+1:=by rw [<- hW]; simp
 have bG:jb W w.heap.size p (.slice A0 n0 c0) (.slice A p.cs.length c):=by rw [<- hW]; exact jb.new w p _ _ _
 obtain ⟨V,cu,eH,xW,nZ⟩:=wa2 (n+1) (by omega) W;rw [dE] at cu nZ;have sN:((n+1:Nat):Int)=(n:Int)+1:=by omega
 rw [sN] at cu;have iG:=hid (fun (W':World) (hx:Ext W W')=>bG.ext hx (by omega));have lL:=hid eH;have aF:=hid ai;have G9:=hid nZ;obtain ⟨b0,b1,b2,b3⟩:=id bG;obtain ⟨d0,d1,d2,d3⟩:=iG.out V eH;have hsx:=aC.size;clear h aC ih bG ai eH nZ au h4 KF;unfold plV
 by_cases k1:p.lv < l
 · have aP:=G9.out.prow (q:=fun b=>(q b/\b < w0.heap.size)\/w.heap.size<=b) (wax V _ (n+1));rw [List.map_replicate] at aP;have aU:=(aP.set_ 0 (by simp) p ((HP.out.ext (aF.out.trans lL.out)).mono fun b hb=>⟨.inl hb,by omega⟩)).1;rw [show (List.replicate (n+1) wz.1).set 0 p=p.cfs l n by rw [Pl.cfs_low_ k1]; exact kcl n p] at aU;have dN:=hid aU;obtain ⟨C0,j0,f0,C1,j1,f1,⟨r0,r1,r2,r3⟩,-⟩:=aP.2.2 0 (by simp);have bF:=aP.2.1;simp only [Nat.zero_mul,Nat.zero_add] at r0 r1 r2 r3 dN;have hlen:=p.cfs_len l n;have rQ:=hid hlen;have q1:decide (p.lv < l)=true:=by simpa using k1
   clear k1 aP aU hlen;go_enter Tryz.func81,Tryz.ntmps81;go_wp2_with fail;go_ret;exact ⟨w.heap.size+1,by rw [rQ.out]; rfl,by omega,dN.out,(((((aF.out.trans lL.out).setCell (by show w.heap.size<=w.heap.size+1; omega) _).setCell (by show w.heap.size<=w.heap.size+1; omega) _).setCell (by show w.heap.size<=w.heap.size+1; omega) _).setCell (by show w.heap.size<=w.heap.size+1; omega) _)⟩
 by_cases k2:p.lv=l
 · have oh:p.cs.length<=n+1:=by have:=Pl.dgL_cs k2; omega
   have DD:jc V (fun b=>q b/\b < w0.heap.size) p.cs A 0:=jc.turn (by have:=(ax.out.trans (aF.out.trans lL.out)).size; omega) (fun _ _ h=>h.ext (ax.out.trans (aF.out.trans lL.out))) (fun b hb hq=>⟨⟨hq,hb⟩,(ax.out.trans (aF.out.trans lL.out)).below.block b hb⟩) p.cs A 0 H4.out;obtain ⟨W',Uo,-,QY,ay,-,CB⟩:=wa6 (q':=fun b=>(q b/\b < w0.heap.size)\/w.heap.size<=b) (dc:=n+1) (sc:=c) G9.out DD (fun b hb=>⟨.inl hb,by omega⟩) oh 3;rw [<- va5 n _ oh,<- Pl.cfs_eq_ k2] at CB;have dN:=hid CB;have mM:=hid (ay w (aF.out.trans lL.out) (by omega));have rQ:=hid (p.cfs_len l n);have q1:decide (p.lv < l)=false:=by simp; omega
   have q2:(p.lv == l)=true:=by simpa using k2
   clear k1 k2 ay CB DD oh jX;go_enter Tryz.func81,Tryz.ntmps81
   go_wp2_with (at_builtin
                refine wpList_copy_run rfl (.tmp 73) (.tmp 75) _ _ rfl _ _ _ _ rfl rfl Uo ?_)
   go_ret;exact ⟨w.heap.size+1,by rw [rQ.out]; rfl,by omega,dN.out,mM.out⟩
 · have k3:l < p.lv:=by omega
   have q1:decide (p.lv < l)=false:=by simp; omega
   have q2:(p.lv == l)=false:=by simpa using k2
   obtain ⟨mm,Ir⟩:=n_m (p.cs.length);have hmb:mm<=1099511627776:=by have:=Pl.sz_len p; omega
   have lM:Hid (∀ k (hk:k < p.cs.length),p.cs[k].sz < m/\p.cs[k].Can/\p.cs[k].sz<=1099511627776/\p.cs[k].dgL l<=n):=hid (fun k hk=>by
    have hm:=List.getElem_mem hk;have h1:=Pl.sz_kid hm;obtain ⟨lv,ng,ds,cs⟩:=p;simp only [Pl.lv,Pl.cs] at *;have hkk:=dw.kids (by omega);have h2:=qau l cs 0 _ hm;rw [Pl.dgL,if_neg (by omega),if_neg (by omega)] at jX
    exact ⟨by omega,(hkk.2.2.2.1.mem _ hm).2,by omega,by omega⟩)
   have nK:=hid (Pl.cfs_gt_ (n:=n) k3);obtain ⟨Q,hQ⟩:∃ Q:Nat->Prop,Q=fun b=>(q b/\b < w0.heap.size)\/w.heap.size<=b:=⟨_,rfl⟩
   have aP:=G9.out.prow (q:=Q) (wax V _ (n+1));rw [List.map_replicate] at aP;have hJ0:CfJ w.heap.size W Q p.lv mm (w.heap.size+1) n 0 V:=by
    refine ⟨lL.out,aP.2.1,fun j hj=>?_,[],⟨rfl,aP.1,by omega,by simp,by simp,fun i h=>by simp at h,fun i h=>by simp at h⟩⟩;have hf:V.heap[w.heap.size+1]?=some (.cells (jo (List.replicate (n+1) wz)).toArray 35 (0,0)):=G9.out;rw [cell_of_row _ _ j _ _ (0,0) hf,List.getElem?_toArray];have qU:j < (jo (List.replicate (n+1) wz)).length:=by rw [kaa,List.length_replicate]; exact hj
    rw [List.getElem?_eq_getElem qU];refine ⟨_,rfl,?_⟩;exact wb0 _ _ (List.getElem_mem qU)
   have WL:=hid hJ0;have HQ:=hid hQ;rw [Ir] at d3 b3;have EL:=hid Ir;have Og:Hid (∀ W',Ext W W'->jb W' (w.heap.size) p (.slice A0 n0 c0) (.slice A mm c)):=hid (fun W' hx=>by rw [<- EL.out]; exact iG.out W' hx);have bJ:w.alloc (.cells #[.int .i64 p.lv,.bool p.neg,.slice A0 n0 c0,.slice A mm c] 35)=W:=by rw [<- Ir]; exact hW
   have HHW:=hid bJ;clear aP hJ0 hQ k1 k2 jX hW dw hsz zL;rw [Ir];clear Ir;have hW:=HHW.out;clear bJ;go_enter Tryz.func81,Tryz.ntmps81;go_wp2_with fail;clear b0 b1 b2 b3 d0 d1 d2 d3 hW cu
   go_loopw [18] (fun iv wr=>∃ k:Nat,k<=n+1/\iv=.int .i64 k/\Hid (CfJ w.heap.size W Q p.lv mm (w.heap.size+1) n k wr)) (fun iv _=>n+1 - (intOf iv).toNat)
   case atStart=>exact ⟨0,Nat.zero_le _,rfl,WL⟩
   case round =>
    obtain ⟨k,hk,rfl,HJ⟩:=hrel
    by_cases af:k < n+1
    · obtain ⟨V2,sO,aN,jF,dH⟩:=uw (mm:Int) (by omega) (by omega) wr.drew;rw [Int.toNat_natCast] at sO dH;rw [World.size_drew] at sO jF dH;have JW:Ext wr V2:=((Ext.refl wr).drew).trans aN;obtain ⟨⟨u0,u1,u2,u3,c0',c1',c2',c3'⟩,jW,Ji⟩:=HJ.out.step af (by omega) JW jF dH;have BK:=hid Ji;have EI:=jW (k * 4);have f1':=jW (k * 4+1);have f2':=jW (k * 4+2);have f3':=jW (k * 4+3);have Y0:=hid (HJ.out.1.drew);have Y2:=hid (HJ.out.1.trans JW);have zB:(k:Int) < (n:Int)+1:=by omega
      clear aN JW jF dH Ji jW;go_upto_region 5 with fail;refine wp_region_held_drew (S:=fun W'=>Ext W W') (by kernel_rfl) Y0.out (fun hHeld=>?_);refine tk 0 ?_;refine tk 1 ?_;refine tk 2 ?_;refine tk 3 ?_ (hy:=Or.inl ⟨by rfl,by intro w' aK; obtain ⟨b0,b1,b2,b3⟩:=Og.out w' aK; go_simp; (try (with_reducible rfl))⟩);refine tk 4 ?_;refine tk 5 ?_ (hy:=Or.inl ⟨by rfl,by intro w' aK; obtain ⟨b0,b1,b2,b3⟩:=Og.out w' aK; go_simp; (try (with_reducible rfl))⟩);refine tk 6 ?_;refine r_1 7 fun K hK=>?_
      go_simp;refine k_t hK Y2.out fun hHeld=>?_
      clear hK K sO;refine tk 8 ?_;refine tk 9 ?_;refine r_1 10 fun K hK=>?_
      go_simp;refine k_t hK BK.out.1 fun hHeld=>?_
      clear hK K c0' c1' c2' c3' EI f1' f2' f3';refine w_d ?_;clear hHeld;go_wp2_with fail
      go_roundw
      case rel=>exact ⟨k+1,by omega,by go_num,BK⟩
      case measure=>simp only [intOf]; omega
    · have bH:k=n+1:=by omega
      have hJe:=HJ.out;rw [bH] at hJe
      replace HJ:=hid hJe
      clear hJe bH;obtain ⟨kk0,rfl⟩:∃ kk0,kk0=k:=⟨k,rfl⟩;obtain ⟨wd,rfl⟩:∃ wd,wd=wr:=⟨wr,rfl⟩;have hK0:CfK w.heap.size wd.heap.size W Q p l n (w.heap.size+1) 0 0 wd:=by
       obtain ⟨j1,j2,j3,bs,j4⟩:=HJ.out;exact ⟨j1,j2,⟨j4.rlt,Nat.le_refl _⟩,bs,_,by rw [EL.out]; exact j4,List.length_replicate,fun b hb=>(j4.bb b hb).2,fun r hr j hj hc=>by omega⟩
      have HK0:=hid hK0;obtain ⟨b0,b1,b2,b3⟩:=Og.out _ HJ.out.1;clear hK0 HJ WL;go_wp2_with fail;clear b0 b1 b2 b3
      go_loopw [35] (fun iv wr=>∃ k:Nat,k<=mm/\iv=.int .i64 k/\Hid (CfK w.heap.size wd.heap.size W Q p l n (w.heap.size+1) k 0 wr)) (fun iv _=>mm - (intOf iv).toNat)
      case atStart=>exact ⟨0,Nat.zero_le _,rfl,HK0⟩
      case round =>
       obtain ⟨k,hk,rfl,HK⟩:=hrel
       by_cases af:k < mm
       · have Be:k < p.cs.length:=by rw [EL.out]; exact af
         obtain ⟨ad,C0,oU,oW,C1,uM,oV,hA,ah,aO,aW⟩:=jc.kid H4.out k Be;subst hA;have bW:Ext w0 wr:=ax.out.trans (aF.out.trans HK.out.ext);obtain ⟨a0,a1,a2,a3⟩:=aO.ext bW (by rw [ja]; exact ah);obtain ⟨s1,s2,s3,s4⟩:=lM.out k Be;have HC:=hid (fun (W':World) (hx:Ext wr W')=>IH.out p.cs[k] _ W' s1 s2 s3 s4 aW (bW.trans hx));have ZH:Hid (p.cs.getD k Pl.zero=p.cs[k]):=hid (by rw [List.getD_eq_getElem?_getD,List.getElem?_eq_getElem Be]; rfl);have ZB:=hid Be;generalize p.cs[k]=ck at *;unfold plV at HC;clear aO aW ah bW s1 s2 s3 s4 Be;go_wp2_with fail;clear a0 a1 a2 a3;refine (HC.out _ ((Ext.refl _).alloc _)).mono ?_;rintro e w5 ⟨R5,rfl,hR5,sD,x5⟩;rw [Pl.cfs_len];have Ox:Ext wr w5:=((Ext.refl wr).alloc _).trans x5;have hD:=HK.out.rd;have akW:wd.heap.size<=R5:=by have:=hR5; simp at this; omega
         have jJ:xh w5 (fun b=>Q b/\b ≠ w.heap.size+1/\(b < w.heap.size\/wd.heap.size<=b)) R5 (ck.cfs l n):=sD.mono fun b hb=>by
          rw [HQ.out];rcases hb with hb | hb
          · exact ⟨.inl hb,by omega,.inl (by omega)⟩
          · have dL:=hb;simp at dL;exact ⟨.inr (by omega),by omega,.inr (by omega)⟩
         have iV:=hid (And.intro (HK.out.ext_ Ox) jJ);clear sD jJ x5 Ox HC hR5;go_wp2_with fail
         go_loopw [45] (fun iv wi=>∃ i:Nat,i<=n+1/\iv=.int .i64 i/\Hid (CfK w.heap.size wd.heap.size W Q p l n (w.heap.size+1) k i wi/\xh wi (fun b=>Q b/\b ≠ w.heap.size+1/\(b < w.heap.size\/wd.heap.size<=b)) R5 (ck.cfs l n))) (fun iv _=>n+1 - (intOf iv).toNat)
         case atStart=>exact ⟨0,Nat.zero_le _,rfl,iV⟩
         case round =>
          obtain ⟨i,hi,rfl,HI⟩:=hrel
          by_cases SX:i < n+1
          · obtain ⟨D0,dU,dW,D1,kX,dV,⟨r0,r1,r2,r3⟩,vK⟩:=HI.out.2.2.2 i (by rw [Pl.cfs_len]; exact SX);have oI:Hid ((ck.cfs l n).getD i Pl.zero=(ck.cfs l n)[i]'(by rw [Pl.cfs_len]; exact SX)):=hid (by rw [List.getD_eq_getElem?_getD,List.getElem?_eq_getElem (by rw [Pl.cfs_len]; exact SX)]; rfl);have DV:=hid (vK.mono (q:=fun b=>Q b/\b ≠ w.heap.size+1/\(b < w.heap.size\/wd.heap.size<=b)) fun b hb=>hb.1);generalize (ck.cfs l n)[i]'(by rw [Pl.cfs_len]; exact SX)=x at *;obtain ⟨V6,zS⟩:=n_m (wr.alloc (.cells #[.int .i64 x.lv,.bool x.neg,.slice D0 dU dW,.slice D1 kX dV] 35));have Xv:Ext wr V6:=by rw [<- zS]; exact (Ext.refl wr).alloc _
            have zK:jb V6 wr.heap.size x (.slice D0 dU dW) (.slice D1 kX dV):=by rw [<- zS]; exact jb.new wr x _ _ _
            have hs6:V6.heap.size=wr.heap.size+1:=by rw [<- zS]; simp
            have hK6:=HI.out.1.ext_ Xv;have jJ:=HI.out.2.ext Xv;obtain ⟨B,Ye,Yy,hBD,⟨u0,u1,u2,u3,g0,g1,g2,g3⟩,Vq,dP⟩:=hK6.step (by omega) SX ZB.out;obtain ⟨dR,au⟩:=dP x _ _ _ _ _ _ (by rw [ZH.out,oI.out]) (DV.out.ext Xv);rw [EL.out] at Ye;have hDw:=HI.out.1.rd;have uA:Hid (∀ V7,V7=((((V6.setCell ⟨B,k * 4,none⟩ (.int .i64 x.lv)).setCell ⟨B,k * 4+1,none⟩ (.bool x.neg)).setCell ⟨B,k * 4+2,none⟩ (.slice D0 dU dW)).setCell ⟨B,k * 4+3,none⟩ (.slice D1 kX dV))->CfK w.heap.size wd.heap.size W Q p l n (w.heap.size+1) k (i+1) V7/\xh V7 (fun b=>Q b/\b ≠ w.heap.size+1/\(b < w.heap.size\/wd.heap.size<=b)) R5 (ck.cfs l n)/\(V7.cell? ⟨w.heap.size+1,i * 4+3,none⟩=some (.slice (some ⟨B,0,none⟩) mm mm)/\jb V7 (wr.heap.size) x (.slice D0 dU dW) (.slice D1 kX dV))):=hid (by
             intro V7 mf;have cO:∀ b,b ≠ B->V7.heap[b]?=V6.heap[b]?:=fun b hb=>by
              rw [mf,Below.heap_setCell _ _ _ b hb,Below.heap_setCell _ _ _ b hb,Below.heap_setCell _ _ _ b hb,Below.heap_setCell _ _ _ b hb]
             have ajs:V7.heap.size=V6.heap.size:=by rw [mf]; simp [World.setCell]
             have kc:∀ b j,b ≠ B->V7.cell? ⟨b,j,none⟩=V6.cell? ⟨b,j,none⟩:=fun b j hb=>World.cell?_of_block (a:=⟨b,j,none⟩) (cO b hb)
             rw [<- mf] at dR au
             refine ⟨dR,jJ.turn (by omega) au (cO _ (by omega)) (fun b _ hb _=>⟨hb,cO b (by omega)⟩),(kc _ _ (by omega)).trans Ye,(kc _ _ (by omega)).trans zK.1,(kc _ _ (by omega)).trans zK.2.1,(kc _ _ (by omega)).trans zK.2.2.1,(kc _ _ (by omega)).trans zK.2.2.2⟩)
            have f0:=Vq (k * 4);have f1:=Vq (k * 4+1);have f2:=Vq (k * 4+2);have f3:=Vq (k * 4+3);have HX6:=hid hK6.ext;have Js:Hid (∀ W',Ext V6 W'->(W'.cell? ⟨w.heap.size+1,i * 4+3,none⟩=some (.slice (some ⟨B,0,none⟩) mm mm)/\jb W' (wr.heap.size) x (.slice D0 dU dW) (.slice D1 kX dV))):=hid (fun W' hx=>by
             obtain ⟨c0,c1,c2,c3⟩:=zK.ext hx (by omega)
             exact ⟨(hx.cell (p:=⟨w.heap.size+1,i * 4+3,none⟩) (by show w.heap.size+1 < _; omega)).trans Ye,c0,c1,c2,c3⟩)
            have nC:(i:Int) < (n:Int)+1:=by omega
            have Iy:(k:Int) < (mm:Int):=by omega
            clear dR au dP jJ hK6 zK Vq Ye vK Xv;go_upto_region 13 with fail
            try rw [zS]
            clear zS r0 r1 r2 r3;refine wp_region_held_drew (S:=fun W'=>(W'.cell? ⟨w.heap.size+1,i * 4+3,none⟩=some (.slice (some ⟨B,0,none⟩) mm mm)/\jb W' (wr.heap.size) x (.slice D0 dU dW) (.slice D1 kX dV))) (by kernel_rfl) (Js.out _ (Ext.refl V6).drew) (fun hHeld=>?_);refine tk 0 ?_;refine tk 1 ?_;refine tk 2 ?_;refine tk 3 ?_;refine tk 4 ?_ (hy:=Or.inl ⟨by rfl,by intro w' aK; obtain ⟨k0,k1,k2,k3,k4⟩:=aK; go_simp; (try (with_reducible rfl))⟩);refine tk 5 ?_;refine tk 6 ?_ (hy:=Or.inl ⟨by rfl,by intro w' aK; obtain ⟨k0,k1,k2,k3,k4⟩:=aK; go_simp; (try (with_reducible rfl))⟩);refine tk 7 ?_;refine r_1 8 fun K hK=>?_
            go_simp;refine (?g9:∀ V7,(CfK w.heap.size wd.heap.size W Q p l n (w.heap.size+1) k (i+1) V7/\xh V7 (fun b=>Q b/\b ≠ w.heap.size+1/\(b < w.heap.size\/wd.heap.size<=b)) R5 (ck.cfs l n)/\(V7.cell? ⟨w.heap.size+1,i * 4+3,none⟩=some (.slice (some ⟨B,0,none⟩) mm mm)/\jb V7 (wr.heap.size) x (.slice D0 dU dW) (.slice D1 kX dV)))->K _ V7.drew) _ (uA.out _ rfl);intro V7 mf;obtain ⟨k7,r7,c7⟩:=mf;have hd7:Ext V7 V7.drew:=(Ext.refl V7).drew;refine k_t hK c7 fun hHeld=>?_
            clear hK K g0 g1 g2 g3 f0 f1 f2 f3 c7;refine w_d ?_;have HV7:=hid (And.intro (k7.ext_ hd7) (r7.ext hd7));clear hHeld uA Js k7 r7 hd7;go_wp2_with fail
            go_roundw
            case rel=>exact ⟨i+1,by omega,by go_num,HV7⟩
            case measure=>simp only [intOf]; omega
          · have xI:i=n+1:=by omega
            have hIe:=HI.out.1;rw [xI] at hIe;have HN:=hid hIe.next;clear HI hIe xI;go_wp2_with fail
            go_roundw
            case rel=>exact ⟨k+1,by omega,by go_num,HN⟩
            case measure=>simp only [intOf]; omega
       · have bH:k=mm:=by omega
         have hKe:=HK.out;rw [bH] at hKe
         replace HK:=hid hKe
         clear hKe bH;obtain ⟨bs,LL,h1,h2,h3,h4⟩:=HK.out.rows;have aS:=h1.fin (q':=fun b=>(q b/\b < w0.heap.size)\/w.heap.size<=b) HK.out.fr (by rw [EL.out]; omega) (fun b hb=>by
          rcases hb with hb | hb
          · rw [HQ.out] at hb; exact hb
          · exact .inr hb)
         have hLL:LL.map (fun ks=>Pl.mk p.lv false [] ks)=p.cfs l n:=by
          rw [nK.out];refine List.ext_getElem (by simp [h2]) fun r lT gI=>?_
          simp only [List.length_map] at lT;simp only [List.getElem_map,List.getElem_range]
          congr 1
          have xJ:r < bs.length:=by rw [h1.len]; exact lT
          refine List.ext_getElem (by rw [(h1.row r lT xJ).1,List.length_map]) fun j TJ oL=>?_
          rw [List.length_map] at oL;rw [h4 r lT j TJ (.inl (by rw [<- EL.out]; exact oL)),List.getElem_map,List.getD_eq_getElem?_getD (l:=p.cs),List.getElem?_eq_getElem oL]
          rfl
         rw [hLL] at aS;have bV:=hid aS;have rQ:=hid (p.cfs_len l n);have mM:=hid (aF.out.trans HK.out.ext);clear h1 h2 h3 h4 aS hLL HK;go_wp2_with fail;go_ret;exact ⟨w.heap.size+1,by rw [rQ.out]; rfl,by omega,bV.out,mM.out⟩
theorem ucv {w:World} {q:Nat->Prop} {l:Int} (hl:1<=l) (n:Nat) (hn:n<=1000000000) (p:Pl) (v:Value) (dw:p.Can) (hsz:p.sz<=1099511627776) (hd:p.dgL l<=n) (h:PlV w q p v):Calls Tryz.prog 81 #[v,.int .i64 l,.int .i64 n] w (ucq q (p.cfs l n) w):=
 (gcy w q l hl n hn (p.sz+1) p v w (Nat.lt_succ_self _) dw hsz hd h (Ext.refl w)).mono fun e w' ⟨R,h1,h2,h3,h4⟩=>⟨R,h1,h2,h3.mono fun b hb=>hb.imp (fun h=>h.1) id,h4⟩
end Go.Proofs.YtklnlgnnlmdibaaGreat
