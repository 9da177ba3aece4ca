/- Rows of rows of polynomials. -/
import Derived.Test.YtheefiaoimbeiaaGreatDoorMt19
import Derived.Test.YtheefiaoimbeiaaGreatDoorMt7
set_option linter.unusedSimpArgs false
set_option linter.unusedVariables false
namespace Go.Proofs.YtheefiaoimbeiaaGreatDoor
open Go.RowKit
theorem kw.turn {base : Nat} {q q' : Nat -> Prop} {W W' : World} {v : Value} {l : List Pl} (h : kw base q W v l) (hs : W.heap.size <= W'.heap.size) (hn : ∀ s ds, ja W s ds -> ja W' s ds) (ho : ∀ R, v.ownBlock = some R -> W'.heap[R]? = W.heap[R]?)
 (hb:∀ b,b < W.heap.size->v.ownBlock ≠ some b->q b->q' b/\W'.heap[b]?=W.heap[b]?):kw base q' W' v l:=by
 obtain ⟨rs,e,h2,h3⟩:=h;exact ⟨rs,e,h2.turn ho,fun r hr=>⟨(h3 r hr).1,PlV.turn_ hs hn (fun b hlt hq=>⟨⟨hq.1,(hb b hlt hq.1 hq.2).1⟩,(hb b hlt hq.1 hq.2).2⟩) (h3 r hr).2⟩⟩
theorem vb7 (rs:List (Pl × Value × Value)):∀ (k:Nat) (hk:k < rs.length) (x:Pl) (s A:Value),gae (rs.set k (x,s,A))=((((gae rs).set (k * 4) (.int .i64 x.lv)).set (k * 4+1) (.bool x.neg)).set (k * 4+2) s).set (k * 4+3) A:=by
 induction rs with
 | nil=>intro k hk; simp at hk
 | cons r rs ih =>
   intro k hk x s A;have hl:(plC r).length=4:=rfl;cases k with
   | zero=>simp [gae,plC]
   | succ k =>
     have:=ih k (by simpa using hk) x s A;simp only [List.set_cons_succ,gae,List.flatMap_cons] at this ⊢;rw [this,List.set_append_right _ _ (by rw [hl]; omega),List.set_append_right _ _ (by rw [hl]; omega),List.set_append_right _ _ (by rw [hl]; omega),List.set_append_right _ _ (by rw [hl]; omega),hl];rw [show (k+1) * 4 - 4=k * 4 by omega,show (k+1) * 4+1 - 4=k * 4+1 by omega,show (k+1) * 4+2 - 4=k * 4+2 by omega,show (k+1) * 4+3 - 4=k * 4+3 by omega]
theorem kw.set_ {base g c : Nat} {q : Nat -> Prop} {W : World} {l : List Pl} (h : kw base q W (.slice (some ⟨g, 0, none⟩) l.length c) l) (k : Nat) (hk : k < l.length) (x : Pl) {A0 A1 : Option Addr} {n0 c0 n1 c1 : Nat}
 (hx:PlV W (fun b=>b ≠ g/\q b) x (plV x (.slice A0 n0 c0) (.slice A1 n1 c1))) :
 kw base q ((((W.setCell ⟨g,k * 4,none⟩ (.int .i64 x.lv)).setCell ⟨g,k * 4+1,none⟩ (.bool x.neg)).setCell ⟨g,k * 4+2,none⟩ (.slice A0 n0 c0)).setCell ⟨g,k * 4+3,none⟩ (.slice A1 n1 c1)) (.slice (some ⟨g,0,none⟩) l.length c) (l.set k x) /\
 ∀ v ds,ja W v ds->ja ((((W.setCell ⟨g,k * 4,none⟩ (.int .i64 x.lv)).setCell ⟨g,k * 4+1,none⟩ (.bool x.neg)).setCell ⟨g,k * 4+2,none⟩ (.slice A0 n0 c0)).setCell ⟨g,k * 4+3,none⟩ (.slice A1 n1 c1)) v ds:=by
 obtain ⟨rs,rfl,h2,h3⟩:=h;rw [List.length_map] at hk;simp only [List.length_map] at h2 ⊢;have hr:=(h3 rs[k] (List.getElem_mem hk)).1;obtain ⟨B0,m0,d0,B1,m1,d1,er⟩:=hr;have hc:∀ j,j < 4->∀ u,(plC rs[k])[j]?=some u->W.cell? ⟨g,k * 4+j,none⟩=some u:=fun j hj u hu=>by
  rw [h2.cell (k * 4+j) (by omega),ga0 rs k hk j hj,hu]
 have g0:=hc 0 (by omega) _ rfl;have g1:=hc 1 (by omega) _ rfl;have g2:=hc 2 (by omega) _ rfl;have g3:=hc 3 (by omega) _ rfl;rw [er] at g2 g3;rw [Nat.add_zero] at g0;have hnat:∀ v ds,ja W v ds->ja ((((W.setCell ⟨g,k * 4,none⟩ (.int .i64 x.lv)).setCell ⟨g,k * 4+1,none⟩ (.bool x.neg)).setCell ⟨g,k * 4+2,none⟩ (.slice A0 n0 c0)).setCell ⟨g,k * 4+3,none⟩ (.slice A1 n1 c1)) v ds:=fun v ds hv=>by
  refine (((hv.box g0 rfl _).box (u:=.bool rs[k].1.neg) ?_ rfl _).box (u:=.slice B0 m0 d0) ?_ rfl _).box (u:=.slice B1 m1 d1) ?_ rfl _
  · rw [World.cell?_setCell_other _ _ _ _ (by simp)]; exact g1
  · rw [World.cell?_setCell_other _ _ _ _ (by simp),World.cell?_setCell_other _ _ _ _ (by simp)]; exact g2
  · rw [World.cell?_setCell_other _ _ _ _ (by simp),World.cell?_setCell_other _ _ _ _ (by simp),World.cell?_setCell_other _ _ _ _ (by simp)]; exact g3
 have hother:∀ b,b ≠ g->((((W.setCell ⟨g,k * 4,none⟩ (.int .i64 x.lv)).setCell ⟨g,k * 4+1,none⟩ (.bool x.neg)).setCell ⟨g,k * 4+2,none⟩ (.slice A0 n0 c0)).setCell ⟨g,k * 4+3,none⟩ (.slice A1 n1 c1)).heap[b]?=W.heap[b]?:=fun b hb=>by
  rw [Below.heap_setCell _ _ _ b hb,Below.heap_setCell _ _ _ b hb,Below.heap_setCell _ _ _ b hb,Below.heap_setCell _ _ _ b hb]
 refine ⟨⟨rs.set k (x,.slice A0 n0 c0,.slice A1 n1 c1),by rw [List.map_set],?_,fun r hr=>?_⟩,hnat⟩
 · have hl:k * 4+3 < rs.length * 4:=by omega
   have hfl:gae (rs.set k (x,.slice A0 n0 c0,.slice A1 n1 c1))=((((gae rs).set (k * 4) (.int .i64 x.lv)).set (k * 4+1) (.bool x.neg)).set (k * 4+2) (.slice A0 n0 c0)).set (k * 4+3) (.slice A1 n1 c1):=vb7 rs k hk x _ _;rw [List.length_set,hfl];exact (((h2.set_ (k * 4) (by omega) _ rfl).set_ (k * 4+1) (by omega) _ rfl).set_ (k * 4+2) (by omega) _ rfl).set_ (k * 4+3) (by omega) _ rfl
 · have keep:∀ t v,PlV W (fun b=>(Value.slice (some ⟨g,0,none⟩) rs.length c).ownBlock ≠ some b/\q b) t v->PlV ((((W.setCell ⟨g,k * 4,none⟩ (.int .i64 x.lv)).setCell ⟨g,k * 4+1,none⟩ (.bool x.neg)).setCell ⟨g,k * 4+2,none⟩ (.slice A0 n0 c0)).setCell ⟨g,k * 4+3,none⟩ (.slice A1 n1 c1)) (fun b=>(Value.slice (some ⟨g,0,none⟩) rs.length c).ownBlock ≠ some b/\q b) t v:=fun t v ht =>
    PlV.turn_ (by simp [World.setCell]) hnat (fun b _ hq=>⟨hq,hother b (fun e=>hq.1 (by rw [e]; rfl))⟩) ht
   rcases List.mem_or_eq_of_mem_set hr with hr | rfl
   · exact ⟨(h3 r hr).1,keep _ _ (h3 r hr).2⟩
   · exact ⟨⟨_,_,_,_,_,_,rfl⟩,keep _ _ (hx.mono fun b hb=>⟨fun e=>hb.1 (by simpa [Value.ownBlock] using e.symm),hb.2⟩)⟩
structure vz (lo : Nat) (W : World) (R : Nat) (ls : List (List Pl)) (Own : Nat -> Prop) : Prop where
 lt:R < W.heap.size
 hlo:R < lo
 fr:∀ i,W.frozen? ⟨R,i,none⟩=false
 own:∀ b,Own b->lo<=b/\b < W.heap.size
 row:∀ k (h:k < ls.length),∃ v,W.cell? ⟨R,k,none⟩=some v/\kw lo (fun b=>¬ Own b/\b ≠ R) W v ls[k]/\∀ o,v.ownBlock=some o->Own o
 apart:∀ j k v u,j < ls.length->k < ls.length->j ≠ k->W.cell? ⟨R,j,none⟩=some v->W.cell? ⟨R,k,none⟩=some u->∀ o,v.ownBlock=some o->u.ownBlock ≠ some o
theorem vz.ext {lo : Nat} {W W' : World} {R : Nat} {ls : List (List Pl)} {Own : Nat -> Prop} (h : vz lo W R ls Own) (hx : Ext W W') : vz lo W' R ls Own where
 lt:=Nat.lt_of_lt_of_le h.lt hx.size
 hlo:=h.hlo
 fr i:=(hx.frozen (p:=⟨R,i,none⟩) h.lt).trans (h.fr i)
 own b hb:=⟨(h.own b hb).1,Nat.lt_of_lt_of_le (h.own b hb).2 hx.size⟩
 row k hk:=by
  obtain ⟨v,h1,h2,h3⟩:=h.row k hk;exact ⟨v,(hx.cell (p:=⟨R,k,none⟩) h.lt).trans h1,h2.ext hx,h3⟩
 apart j k v u hj hk hne h1 h2:=h.apart j k v u hj hk hne ((hx.cell (p:=⟨R,j,none⟩) h.lt).symm.trans h1) ((hx.cell (p:=⟨R,k,none⟩) h.lt).symm.trans h2)
theorem vbo {base:Nat} {q:Nat->Prop} {W:World} {v:Value} {l:List Pl} (h:kw base q W v l):uu v=false:=by
 obtain ⟨A,c,rfl,-⟩:=h.len
 rfl
theorem vz.put {lo : Nat} {W w4 : World} {R : Nat} {ls : List (List Pl)} {Own : Nat -> Prop} (h : vz lo W R ls Own) (k : Nat) (hk : k < ls.length) {v v4 : Value} {l4 : List Pl} (hv : W.cell? ⟨R, k, none⟩ = some v) (hg : W.grownBy w4 v.ownBlock) (hn : ∀ s ds, ja W s ds -> ja w4 s ds)
 (h4:kw lo (fun b=>¬ Own b/\b ≠ R) w4 v4 l4) (ho:v4.ownBlock=v.ownBlock\/∃ o,v4.ownBlock=some o/\W.heap.size<=o)
 (hel:kw lo (fun b=>(¬ Own b/\b ≠ R)/\v4.ownBlock ≠ some b) w4 v4 l4) :
 vz lo (w4.setCell ⟨R,k,none⟩ v4) R (ls.set k l4) (fun b=>Own b\/v4.ownBlock=some b)/\(∀ i,w4.frozen? ⟨R,i,none⟩=false)/\w4.cell? ⟨R,k,none⟩=some v /\
 ∀ t u,PlV W (fun b=>¬ Own b/\b ≠ R) t u->PlV (w4.setCell ⟨R,k,none⟩ v4) (fun b=>¬ (Own b\/v4.ownBlock=some b)/\b ≠ R) t u:=by
 have hvo:∀ o,v.ownBlock=some o->Own o:=by
  obtain ⟨u,h1,-,h3⟩:=h.row k hk;rw [hv] at h1;injection h1 with h1
  rw [h1]; exact h3
 have hRb:v.ownBlock ≠ some R:=fun e=>by have:=(h.own R (hvo R e)).1; have:=h.hlo; omega
 have hRh:w4.heap[R]?=W.heap[R]?:=World.grownBy.block hg R h.lt (fun e=>hRb e.symm);have hc:∀ i,w4.cell? ⟨R,i,none⟩=W.cell? ⟨R,i,none⟩:=fun i=>World.cell?_of_block (a:=⟨R,i,none⟩) hRh
 have hf:∀ i,w4.frozen? ⟨R,i,none⟩=false:=fun i=>by
  have:=h.fr i;unfold World.frozen? at this ⊢;simp only [hRh];exact this
 have hsz:=hg.size;have hvd:uu v=false:=by
  obtain ⟨u,h1,h2,-⟩:=h.row k hk;rw [hv] at h1;injection h1 with h1
  rw [h1]; exact vbo h2
 have hn5:∀ s ds,ja w4 s ds->ja (w4.setCell ⟨R,k,none⟩ v4) s ds:=fun s ds hs=>hs.box ((hc k).trans hv) hvd _
 have h5:∀ b,b ≠ R->(w4.setCell ⟨R,k,none⟩ v4).heap[b]?=w4.heap[b]?:=fun b hb=>Below.heap_setCell _ _ _ b hb
 have hs5:(w4.setCell ⟨R,k,none⟩ v4).heap.size=w4.heap.size:=by simp [World.setCell]
 have hk4:(w4.setCell ⟨R,k,none⟩ v4).cell? ⟨R,k,none⟩=some v4:=World.cell?_setCell_same _ _ _ ((hc k).trans hv);have hj4:∀ j,j ≠ k->(w4.setCell ⟨R,k,none⟩ v4).cell? ⟨R,j,none⟩=W.cell? ⟨R,j,none⟩:=fun j hj=>by
  rw [World.cell?_setCell_other _ _ _ _ (by intro e; injection e; omega)]; exact hc j
 have hown4:∀ o,v4.ownBlock=some o->lo<=o/\o < w4.heap.size:=fun o e=>h4.own e
 refine ⟨⟨by rw [hs5]; have:=h.lt; omega,h.hlo,fun i=>?_,fun b hb=>?_,fun j hj=>?_,fun i j x y hi hj hne hx hy o hox=>?_⟩,hf,(hc k).trans hv,fun t u ht=>?_⟩
 · rw [World.frozen?_setCell]; exact hf i
 · rw [hs5];rcases hb with hb | hb
   · have:=h.own b hb; omega
   · exact hown4 b hb
 · rw [List.length_set] at hj
   by_cases hjk:j=k
   · subst hjk;rw [List.getElem_set_self];refine ⟨v4,hk4,kw.turn hel (by omega) hn5 (fun o e=>h5 o (by have:=(hown4 o e).1; have:=h.hlo; omega)) (fun b _ hb hq=>⟨⟨?_,hq.1.2⟩,h5 b hq.1.2⟩),fun o e=>.inr e⟩;rintro (hb2 | hb2)
     · exact hq.1.1 hb2
     · exact hq.2 hb2
   · rw [List.getElem_set_ne (Ne.symm hjk)];obtain ⟨u,h1,h2,h3⟩:=h.row j hj;refine ⟨u,(hj4 j hjk).trans h1,?_,fun o e=>.inl (h3 o e)⟩;have hap:=h.apart j k u v hj hk hjk h1 hv;refine kw.turn h2 (by omega) (fun s ds hs=>hn5 s ds (hn s ds hs)) (fun o e=>?_) (fun b hlt hb hq=>⟨⟨?_,hq.2⟩,?_⟩)
     · have ho2:=h.own o (h3 o e);have hlo:=h.hlo;rw [h5 o (by omega)];exact World.grownBy.block hg o ho2.2 (fun e2=>hap o e e2.symm)
     · rintro (hb2 | hb2)
       · exact hq.1 hb2
       · rcases ho with ho | ⟨o,ho,hle⟩
         · rw [ho] at hb2; exact hq.1 (hvo b hb2)
         · rw [ho] at hb2; injection hb2 with hb2; omega
     · rw [h5 b hq.2];exact World.grownBy.block hg b hlt (fun e2=>hq.1 (hvo b e2.symm))
 · rw [List.length_set] at hi hj;have key:∀ o,v4.ownBlock=some o->∀ j,j < ls.length->j ≠ k->∀ y,W.cell? ⟨R,j,none⟩=some y->y.ownBlock ≠ some o:=fun o e j hj hjk y hy e2=>by
    obtain ⟨u,h1,-,h3⟩:=h.row j hj;rw [hy] at h1;injection h1 with h1
    subst h1;rcases ho with ho | ⟨o',ho,hle⟩
    · rw [ho] at e;exact h.apart j k y v hj hk hjk hy hv o e2 e
    · rw [ho] at e;injection e with e
      have:=(h.own o (h3 o e2)).2;omega
   by_cases hik:i=k
   · subst hik;rw [hk4] at hx;injection hx with hx
     subst hx;rw [hj4 j (Ne.symm hne)] at hy;exact key o hox j hj (Ne.symm hne) y hy
   · rw [hj4 i hik] at hx
     by_cases hjk:j=k
     · subst hjk;rw [hk4] at hy;injection hy with hy
       subst hy;exact fun e=>key o e i hi hik x hx hox
     · rw [hj4 j hjk] at hy;exact h.apart i j x y hi hj hne hx hy o hox
 · refine PlV.turn_ (by omega) (fun s ds hs=>hn5 s ds (hn s ds hs)) (fun b hlt hq=>⟨⟨?_,hq.2⟩,?_⟩) ht
   · rintro (hb2 | hb2)
     · exact hq.1 hb2
     · rcases ho with ho | ⟨o,ho,hle⟩
       · rw [ho] at hb2; exact hq.1 (hvo b hb2)
       · rw [ho] at hb2; injection hb2 with hb2; omega
   · rw [h5 b hq.2];exact World.grownBy.block hg b hlt (fun e2=>hq.1 (hvo b e2.symm))
theorem kw.self {base:Nat} {q:Nat->Prop} {W:World} {v:Value} {l:List Pl} (h:kw base q W v l):kw base (fun b=>q b/\v.ownBlock ≠ some b) W v l:=by
 obtain ⟨rs,e,h2,h3⟩:=h;exact ⟨rs,e,h2,fun r hr=>⟨(h3 r hr).1,(h3 r hr).2.mono fun b hb=>⟨hb.1,hb.2,hb.1⟩⟩⟩
theorem vz.push {lo:Nat} {W:World} {R:Nat} {ls:List (List Pl)} {Own:Nat->Prop} (h:vz lo W R ls Own) (hlw:lo<=W.heap.size) (k:Nat) (hk:k < ls.length):∃ PA pc,W.cell? ⟨R,k,none⟩=some (.slice PA ls[k].length pc)/\ls[k].length<=pc/\pc<=9223372036854775807 /\
 ∀ (x:Pl) (A0 A1:Option Addr) (n0 c0 n1 c1:Nat),PlV W (fun b=>¬ Own b/\b ≠ R) x (plV x (.slice A0 n0 c0) (.slice A1 n1 c1))->ls[k].length+1<=1000000000->∃ B d w4 Own',(Builtin.append_ #[42,42] 42 #[.slice PA ls[k].length pc,.slice (some ⟨W.heap.size,0,none⟩) 1 1]).run Tryz.prog (W.alloc (.cells #[.int .i64 x.lv,.bool x.neg,.slice A0 n0 c0,.slice A1 n1 c1] 44))=.ok (.slice (some ⟨B,0,none⟩) (ls[k].length+1) d) w4 /\
   vz lo (w4.setCell ⟨R,k,none⟩ (.slice (some ⟨B,0,none⟩) (ls[k].length+1) d)) R (ls.set k (ls[k] ++ [x])) Own'/\(∀ i,w4.frozen? ⟨R,i,none⟩=false)/\w4.cell? ⟨R,k,none⟩=some (.slice PA ls[k].length pc) /\
   (∀ t u,PlV W (fun b=>¬ Own b/\b ≠ R) t u->PlV (w4.setCell ⟨R,k,none⟩ (.slice (some ⟨B,0,none⟩) (ls[k].length+1) d)) (fun b=>¬ Own' b/\b ≠ R) t u)/\(∀ V,Ext V W->V.heap.size<=R->Ext V (w4.setCell ⟨R,k,none⟩ (.slice (some ⟨B,0,none⟩) (ls[k].length+1) d)))/\ls[k].length+1<=d/\d<=9223372036854775807/\W.heap.size<=w4.heap.size/\∀ b,b ≠ R->b < lo->(w4.setCell ⟨R,k,none⟩ (.slice (some ⟨B,0,none⟩) (ls[k].length+1) d)).heap[b]?=W.heap[b]?:=by
 obtain ⟨v,hv,hq,hvo⟩:=h.row k hk;obtain ⟨PA,pc,rfl,hp1,hp2⟩:=hq.len;refine ⟨PA,pc,hv,hp1,hp2,fun x A0 A1 n0 c0 n1 c1 hx hlen=>?_⟩;have hlt:=h.lt;have hlo:=h.hlo;obtain ⟨v4,w4,hrun,g4,n4,r4,o4⟩:=hq.push (by omega) (hx.mono fun b hb=>⟨fun e=>hb.1 (hvo b e),hb⟩) hlen 42;obtain ⟨QA,d,e4,hd1,hd2⟩:=r4.len;rw [List.length_append] at e4 hd1;have e4':v4=.slice QA (ls[k].length+1) d:=e4;subst e4';obtain ⟨p1,p2,p3,p4⟩:=h.put k hk hv g4 n4 r4 (o4.imp id fun e=>⟨_,e,by omega⟩) r4.self;obtain ⟨rs,-,hgr,-⟩:=id r4;have hB:∃ B,QA=some ⟨B,0,none⟩:=by
  obtain ⟨g,c,e,-⟩:=yj.pos hgr (by
   have:=hgr.len;obtain ⟨A',c',e',-⟩:=this;injection e' with _ e' _
   omega)
  injection e with e
  exact ⟨g,e⟩
 obtain ⟨B,rfl⟩:=hB;refine ⟨B,d,w4,_,hrun,p1,p2,p3,p4,fun V hVx hVR=>?_,hd1,hd2,g4.size,fun b hb hbl=>?_⟩
 · have h1:Ext V w4:=uaq hVx g4 (fun o ho=>by have:=(h.own o (hvo o ho)).1; omega);exact h1.setCell hVR _
 · rw [Below.heap_setCell _ _ _ b hb];exact World.grownBy.block g4 b (by omega) (fun e=>by have:=(h.own b (hvo b e.symm)).1; omega)
theorem vz.setAt {lo : Nat} {W : World} {R : Nat} {ls : List (List Pl)} {Own : Nat -> Prop} (h : vz lo W R ls Own) (k : Nat) (hk : k < ls.length) {g c m : Nat} (hv : W.cell? ⟨R, k, none⟩ = some (.slice (some ⟨g, 0, none⟩) m c)) (j : Nat) (hj : j < ls[k].length) (x : Pl) {A0 A1 : Option Addr} {n0 c0 n1 c1 : Nat}
 (hx:PlV W (fun b=>¬ Own b/\b ≠ R) x (plV x (.slice A0 n0 c0) (.slice A1 n1 c1))) :
 vz lo ((((W.setCell ⟨g,j * 4,none⟩ (.int .i64 x.lv)).setCell ⟨g,j * 4+1,none⟩ (.bool x.neg)).setCell ⟨g,j * 4+2,none⟩ (.slice A0 n0 c0)).setCell ⟨g,j * 4+3,none⟩ (.slice A1 n1 c1)) R (ls.set k (ls[k].set j x)) Own /\
 (∀ i,W.frozen? ⟨g,i,none⟩=false)/\(∃ u0 u1 u2 u3,W.cell? ⟨g,j * 4,none⟩=some u0/\W.cell? ⟨g,j * 4+1,none⟩=some u1/\W.cell? ⟨g,j * 4+2,none⟩=some u2/\W.cell? ⟨g,j * 4+3,none⟩=some u3)/\lo<=g:=by
 obtain ⟨v,hv',hq,hvo⟩:=h.row k hk;rw [hv] at hv';injection hv' with hv'
 subst hv';obtain ⟨QA,d,e4,-⟩:=hq.len;have hm:m=ls[k].length:=by injection e4
 subst hm;have hown:=hvo g rfl;have hgR:=h.own g hown;obtain ⟨hset,hnat⟩:=hq.set_ j hj x (hx.mono fun b hb=>⟨fun e=>hb.1 (e ▸ hown),hb⟩);obtain ⟨rs,hrs,hgr,-⟩:=id hq;have hrl:rs.length=ls[k].length:=by rw [<- hrs,List.length_map]
 rw [hrl] at hgr;obtain ⟨W',hW'⟩:=n_m (((((W.setCell ⟨g,j * 4,none⟩ (.int .i64 x.lv)).setCell ⟨g,j * 4+1,none⟩ (.bool x.neg)).setCell ⟨g,j * 4+2,none⟩ (.slice A0 n0 c0)).setCell ⟨g,j * 4+3,none⟩ (.slice A1 n1 c1)));have hother:∀ b,b ≠ g->W'.heap[b]?=W.heap[b]?:=fun b hb=>by
  rw [<- hW',Below.heap_setCell _ _ _ b hb,Below.heap_setCell _ _ _ b hb,Below.heap_setCell _ _ _ b hb,Below.heap_setCell _ _ _ b hb]
 have hsz:W'.heap.size=W.heap.size:=by rw [<- hW']; simp [World.setCell]
 have hfr:∀ a,W'.frozen? a=W.frozen? a:=fun a=>by rw [<- hW']; simp only [World.frozen?_setCell]
 rw [hW'] at hset hnat ⊢;have hRg:R ≠ g:=by have:=h.hlo; omega
 have hc:∀ i,W'.cell? ⟨R,i,none⟩=W.cell? ⟨R,i,none⟩:=fun i=>World.cell?_of_block (a:=⟨R,i,none⟩) (hother R hRg)
 have hlf:(gae rs).length=ls[k].length * 4:=by rw [uat,hrl]
 have cellq:∀ i,i < 4->∃ u,W.cell? ⟨g,j * 4+i,none⟩=some u:=fun i hi=>by
  rw [hgr.cell (j * 4+i) (by omega),List.getElem?_eq_getElem (by omega)];exact ⟨_,rfl⟩
 obtain ⟨u0,c0'⟩:=cellq 0 (by omega);obtain ⟨u1,c1'⟩:=cellq 1 (by omega);obtain ⟨u2,c2'⟩:=cellq 2 (by omega);obtain ⟨u3,c3'⟩:=cellq 3 (by omega);refine ⟨⟨by rw [hsz]; exact h.lt,h.hlo,fun i=>by rw [hfr]; exact h.fr i,fun b hb=>by rw [hsz]; exact h.own b hb,fun i hi=>?_,fun a b y z ha hb hne hy hz=>?_⟩,fun i=>World.ownsRow.frozenAt hgr.1 i,⟨u0,u1,u2,u3,c0',c1',c2',c3'⟩,by omega⟩
 · rw [List.length_set] at hi
   by_cases hik:i=k
   · subst hik;rw [List.getElem_set_self];exact ⟨_,(hc i).trans hv,by rw [List.length_set] at *; exact hset,hvo⟩
   · rw [List.getElem_set_ne (Ne.symm hik)];obtain ⟨u,h1,h2,h3⟩:=h.row i hi;have hap:=h.apart i k u _ hi hk hik h1 hv;refine ⟨u,(hc i).trans h1,kw.turn h2 (by omega) hnat (fun o e=>hother o (fun e2=>hap o e (by rw [e2]; rfl))) (fun b _ _ hq2=>⟨hq2,hother b (fun e2=>hq2.1 (by rw [e2]; exact hown))⟩),h3⟩
 · rw [List.length_set] at ha hb;rw [hc] at hy hz;exact h.apart a b y z ha hb hne hy hz
/- Rows of rows of polynomials: a zero is appended to a row, and overwritten by a polynomial afterwards. -/
set_option maxRecDepth 100000
set_option maxHeartbeats 8000000
theorem vz.pushSet {lo : Nat} {W : World} {R : Nat} {ls : List (List Pl)} {Own : Nat -> Prop} (h : vz lo W R ls Own) (hlw : lo <= W.heap.size) (k : Nat) (hk : k < ls.length) {PA : Option Addr} {ln pc : Nat} (hrow : W.cell? ⟨R, k, none⟩ = some (.slice PA ln pc)) (hln : ls[k].length = ln)
 (ad:Addr) (x:Pl) (A0 A1:Option Addr) (n0 c0 n1 c1:Nat) (hz:qad W ad Pl.zero (.slice none 0 0) (.slice none 0 0)) (hx:PlV W (fun b=>¬ Own b/\b ≠ R) x (plV x (.slice A0 n0 c0) (.slice A1 n1 c1))) (hlen:ln+1<=1000000000) :
 ∃ B d w4 Own',(Builtin.append_ #[42,42] 42 #[.slice PA ln pc,.slice (some ad) 1 1]).run Tryz.prog W=.ok (.slice (some ⟨B,0,none⟩) (ln+1) d) w4/\(∀ i,w4.frozen? ⟨R,i,none⟩=false)/\w4.cell? ⟨R,k,none⟩=some (.slice PA ln pc)/\(∀ b,b ≠ R->b < lo->w4.heap[b]?=W.heap[b]?)/\lo<=B /\
   (∀ i,(w4.setCell ⟨R,k,none⟩ (.slice (some ⟨B,0,none⟩) (ln+1) d)).frozen? ⟨B,i,none⟩=false) /\
   (∃ u0 u1 u2 u3,(w4.setCell ⟨R,k,none⟩ (.slice (some ⟨B,0,none⟩) (ln+1) d)).cell? ⟨B,ln * 4,none⟩=some u0/\(w4.setCell ⟨R,k,none⟩ (.slice (some ⟨B,0,none⟩) (ln+1) d)).cell? ⟨B,ln * 4+1,none⟩=some u1/\(w4.setCell ⟨R,k,none⟩ (.slice (some ⟨B,0,none⟩) (ln+1) d)).cell? ⟨B,ln * 4+2,none⟩=some u2/\(w4.setCell ⟨R,k,none⟩ (.slice (some ⟨B,0,none⟩) (ln+1) d)).cell? ⟨B,ln * 4+3,none⟩=some u3) /\
   ∀ w8,w8=(((((w4.setCell ⟨R,k,none⟩ (.slice (some ⟨B,0,none⟩) (ln+1) d)).setCell ⟨B,ln * 4,none⟩ (.int .i64 x.lv)).setCell ⟨B,ln * 4+1,none⟩ (.bool x.neg)).setCell ⟨B,ln * 4+2,none⟩ (.slice A0 n0 c0)).setCell ⟨B,ln * 4+3,none⟩ (.slice A1 n1 c1)) ->
     vz lo w8 R (ls.set k (ls[k] ++ [x])) Own'/\(∀ V,Ext V W->V.heap.size<=R->Ext V w8)/\W.heap.size<=w8.heap.size/\∀ b,b ≠ R->b < lo->w8.heap[b]?=W.heap[b]?:=by
 obtain ⟨v,hv,hq,hvo⟩:=h.row k hk;rw [hrow] at hv;injection hv with hv
 subst hv;have hlt:=h.lt;have hlo:=h.hlo;obtain ⟨v4,w4,hrun,g4,n4,r4,o4⟩:=hq.append_ (ad:=ad) (by omega) [(Pl.zero,.slice none 0 0,.slice none 0 0)] (by
  intro r hr;obtain rfl:=List.mem_singleton.1 hr;exact ⟨⟨none,0,0,none,0,0,rfl⟩,Pl.zero_v W _ none 0 (by omega)⟩) (by
  intro i hi;obtain rfl:i=0:=by simpa using hi
  rw [Nat.zero_mul,show ad.add 0=ad from by simp [Addr.add]]
  exact hz) (by simp) (by simp; omega) 1 42
 obtain ⟨QA,d,e4,hd1,hd2⟩:=r4.len;have hll:(ls[k] ++ [((Pl.zero,Value.slice none 0 0,Value.slice none 0 0):Pl × Value × Value)].map (fun r=>r.1)).length=ln+1:=by simp [hln]
 rw [hll] at e4 hd1;subst e4;have r4':kw lo (fun b=>¬ Own b/\b ≠ R) w4 (.slice QA (ln+1) d) (ls[k] ++ [Pl.zero]):=r4;obtain ⟨p1,p2,p3,p4⟩:=h.put k hk hrow g4 n4 r4' (o4.imp id fun e=>⟨_,e,Nat.le_refl _⟩) r4'.self;obtain ⟨rs,hrs,hgr,-⟩:=id r4';have hrl:rs.length=ln+1:=by rw [<- List.length_map (f:=fun r=>r.1),hrs]; simp [hln]
 have hB:∃ B,QA=some ⟨B,0,none⟩:=by
  obtain ⟨g,c,e,-⟩:=yj.pos hgr (by omega);injection e with e
  exact ⟨g,e⟩
 obtain ⟨B,rfl⟩:=hB;have hc7:(w4.setCell ⟨R,k,none⟩ (.slice (some ⟨B,0,none⟩) (ln+1) d)).cell? ⟨R,k,none⟩=some (.slice (some ⟨B,0,none⟩) (ln+1) d):=World.cell?_setCell_same _ _ _ p3;have hk2:k < (ls.set k (ls[k] ++ [Pl.zero])).length:=by rw [List.length_set]; exact hk
 have hget:(ls.set k (ls[k] ++ [Pl.zero]))[k]'hk2=ls[k] ++ [Pl.zero]:=List.getElem_set_self _;obtain ⟨q1,q2,q3,q4⟩:=p1.setAt k hk2 hc7 ln (by rw [hget]; simp [hln]) x (p4 _ _ hx);have hfin:(ls.set k (ls[k] ++ [Pl.zero])).set k (((ls.set k (ls[k] ++ [Pl.zero]))[k]'hk2).set ln x)=ls.set k (ls[k] ++ [x]):=by
  rw [hget,List.set_set]
  congr 1
  rw [List.set_append_right _ _ (by omega),hln,Nat.sub_self]; rfl
 rw [hfin] at q1;have hblk:∀ b,b ≠ R->b < lo->w4.heap[b]?=W.heap[b]?:=fun b hb hbl=>World.grownBy.block g4 b (by omega) (fun e=>by have:=(h.own b (hvo b e.symm)).1; omega)
 refine ⟨B,d,w4,fun b=>Own b\/(Value.slice (some ⟨B,0,none⟩) (ln+1) d).ownBlock=some b,hrun,p2,p3,hblk,q4,q2,q3,fun w8 hw8=>?_⟩;rw [<- hw8] at q1;refine ⟨q1,fun V hVx hVR=>?_,?_,fun b hb hbl=>?_⟩
 · have h1:Ext V w4:=uaq hVx g4 (fun o ho=>by have:=(h.own o (hvo o ho)).1; omega);rw [hw8];exact ((((h1.setCell hVR _).setCell (show V.heap.size<=B by omega) _).setCell (show V.heap.size<=B by omega) _).setCell (show V.heap.size<=B by omega) _).setCell (show V.heap.size<=B by omega) _
 · have:=g4.size;rw [hw8]; simp [World.setCell]; omega
 · have hbB:b ≠ B:=by omega
   rw [hw8,Below.heap_setCell _ _ _ b hbB,Below.heap_setCell _ _ _ b hbB,Below.heap_setCell _ _ _ b hbB,Below.heap_setCell _ _ _ b hbB,Below.heap_setCell _ _ _ b hb];exact hblk b hb hbl
end Go.Proofs.YtheefiaoimbeiaaGreatDoor
