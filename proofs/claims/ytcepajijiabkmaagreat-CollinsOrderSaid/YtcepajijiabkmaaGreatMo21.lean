/- Rows of rows of polynomials. -/
import Derived.Test.YtcepajijiabkmaaGreatMo16
set_option linter.all false
namespace Go.Proofs.YtcepajijiabkmaaGreat
open Go.RowKit
theorem xg.xl {base : Nat} {q q' : Nat -> Prop} {W W' : World} {v : Value} {l : List Pl} (h : xg base q W v l) (hs : W.heap.size <= W'.heap.size) (hn : ∀ s ds, jc W s ds -> jc W' s ds) (ho : ∀ R, v.ownBlock = some R -> W'.heap[R]? = W.heap[R]?)
 (hb:∀ b,b < W.heap.size->v.ownBlock ≠ some b->q b->q' b/\W'.heap[b]?=W.heap[b]?):xg base q' W' v l:=by
 obtain ⟨rs,e,h2,h3⟩:=h;exact ⟨rs,e,h2.xl ho,fun r hr=>⟨(h3 r hr).1,PlV.zd hs hn (fun b af hq=>⟨⟨hq.1,(hb b af hq.1 hq.2).1⟩,(hb b af hq.1 hq.2).2⟩) (h3 r hr).2⟩⟩
theorem wct (rs:List (Pl × Value × Value)):∀ (k:Nat) (hk:k < rs.length) (x:Pl) (s A:Value),ul (rs.set k (x,s,A))=((((ul rs).set (k * 4) (.int .i64 x.lv)).set (k * 4+1) (.bool x.neg)).set (k * 4+2) s).set (k * 4+3) A:=by
 induction rs with
 | nil=>intro k hk; simp at hk
 | cons r rs ih =>
   intro k hk x s A;have hl:(plC r).length=4:=rfl;cases k with
   | zero=>simp [ul,plC]
   | succ k =>
     have:=ih k (by simpa using hk) x s A;simp only [RK,ul,th] at this ⊢;rw [this,ti _ _ (by rw [hl]; omega),ti _ _ (by rw [hl]; omega),ti _ _ (by rw [hl]; omega),ti _ _ (by rw [hl]; omega),hl];rw [show (k+1) * 4 - 4=k * 4 by omega,show (k+1) * 4+1 - 4=k * 4+1 by omega,show (k+1) * 4+2 - 4=k * 4+2 by omega,show (k+1) * 4+3 - 4=k * 4+3 by omega]
theorem xg.xD {base g c : Nat} {q : Nat -> Prop} {W : World} {l : List Pl} (h : xg base q W (.slice (some ⟨g, 0, none⟩) l.length c) l) (k : Nat) (hk : k < l.length) (x : Pl) {A0 A1 : Option Addr} {n0 c0 n1 c1 : Nat}
 (hx:PlV W (fun b=>b ≠ g/\q b) x (plV x (.slice A0 n0 c0) (.slice A1 n1 c1))) :
 xg base q ((((W.setCell ⟨g,k * 4,none⟩ (.int .i64 x.lv)).setCell ⟨g,k * 4+1,none⟩ (.bool x.neg)).setCell ⟨g,k * 4+2,none⟩ (.slice A0 n0 c0)).setCell ⟨g,k * 4+3,none⟩ (.slice A1 n1 c1)) (.slice (some ⟨g,0,none⟩) l.length c) (l.set k x) /\
 ∀ v ds,jc W v ds->jc ((((W.setCell ⟨g,k * 4,none⟩ (.int .i64 x.lv)).setCell ⟨g,k * 4+1,none⟩ (.bool x.neg)).setCell ⟨g,k * 4+2,none⟩ (.slice A0 n0 c0)).setCell ⟨g,k * 4+3,none⟩ (.slice A1 n1 c1)) v ds:=by
 obtain ⟨rs,rfl,h2,h3⟩:=h;rw [pw] at hk;simp only [pw] at h2 ⊢;have hr:=(h3 rs[k] (pt hk)).1;obtain ⟨B0,m0,d0,B1,m1,d1,er⟩:=hr;have hc:∀ j,j < 4->∀ u,(plC rs[k])[j]?=some u->W.cell? ⟨g,k * 4+j,none⟩=some u:=fun j hj u hu=>by
  rw [h2.cell (k * 4+j) (by omega),qan rs k hk j hj,hu]
 have g0:=hc 0 (by omega) _ rfl;have g1:=hc 1 (by omega) _ rfl;have g2:=hc 2 (by omega) _ rfl;have g3:=hc 3 (by omega) _ rfl;rw [er] at g2 g3;rw [s9] at g0;have ax:∀ v ds,jc W v ds->jc ((((W.setCell ⟨g,k * 4,none⟩ (.int .i64 x.lv)).setCell ⟨g,k * 4+1,none⟩ (.bool x.neg)).setCell ⟨g,k * 4+2,none⟩ (.slice A0 n0 c0)).setCell ⟨g,k * 4+3,none⟩ (.slice A1 n1 c1)) v ds:=fun v ds hv=>by
  refine (((hv.box g0 rfl _).box (u:=.bool rs[k].1.neg) ?_ rfl _).box (u:=.slice B0 m0 d0) ?_ rfl _).box (u:=.slice B1 m1 d1) ?_ rfl _
  · rw [ph _ _ _ _ (by simp)]; exact g1
  · rw [ph _ _ _ _ (by simp),ph _ _ _ _ (by simp)]; exact g2
  · rw [ph _ _ _ _ (by simp),ph _ _ _ _ (by simp),ph _ _ _ _ (by simp)]; exact g3
 have cO:∀ b,b ≠ g->((((W.setCell ⟨g,k * 4,none⟩ (.int .i64 x.lv)).setCell ⟨g,k * 4+1,none⟩ (.bool x.neg)).setCell ⟨g,k * 4+2,none⟩ (.slice A0 n0 c0)).setCell ⟨g,k * 4+3,none⟩ (.slice A1 n1 c1)).heap[b]?=W.heap[b]?:=fun b hb=>by
  rw [Below.heap_setCell _ _ _ b hb,Below.heap_setCell _ _ _ b hb,Below.heap_setCell _ _ _ b hb,Below.heap_setCell _ _ _ b hb]
 refine ⟨⟨rs.set k (x,.slice A0 n0 c0,.slice A1 n1 c1),by rw [List.map_set],?_,fun r hr=>?_⟩,ax⟩
 · have hl:k * 4+3 < rs.length * 4:=by omega
   have jX:ul (rs.set k (x,.slice A0 n0 c0,.slice A1 n1 c1))=((((ul rs).set (k * 4) (.int .i64 x.lv)).set (k * 4+1) (.bool x.neg)).set (k * 4+2) (.slice A0 n0 c0)).set (k * 4+3) (.slice A1 n1 c1):=wct rs k hk x _ _;rw [pL,jX];exact (((h2.xD (k * 4) (by omega) _ rfl).xD (k * 4+1) (by omega) _ rfl).xD (k * 4+2) (by omega) _ rfl).xD (k * 4+3) (by omega) _ rfl
 · have keep:∀ t v,PlV W (fun b=>(Value.slice (some ⟨g,0,none⟩) rs.length c).ownBlock ≠ some b/\q b) t v->PlV ((((W.setCell ⟨g,k * 4,none⟩ (.int .i64 x.lv)).setCell ⟨g,k * 4+1,none⟩ (.bool x.neg)).setCell ⟨g,k * 4+2,none⟩ (.slice A0 n0 c0)).setCell ⟨g,k * 4+3,none⟩ (.slice A1 n1 c1)) (fun b=>(Value.slice (some ⟨g,0,none⟩) rs.length c).ownBlock ≠ some b/\q b) t v:=fun t v ht =>
    PlV.zd (by simp [World.setCell]) ax (fun b _ hq=>⟨hq,cO b (fun e=>hq.1 (by rw [e]; rfl))⟩) ht
   rcases Se hr with hr | rfl
   · exact ⟨(h3 r hr).1,keep _ _ (h3 r hr).2⟩
   · exact ⟨⟨_,_,_,_,_,_,rfl⟩,keep _ _ (hx.mono fun b hb=>⟨fun e=>hb.1 (by simpa [Value.ownBlock] using e.symm),hb.2⟩)⟩
structure gy (lo : Nat) (W : World) (R : Nat) (ls : List (List Pl)) (Own : Nat -> Prop) : Prop where
 lt:R < W.heap.size
 hlo:R < lo
 fr:∀ i,W.frozen? ⟨R,i,none⟩=false
 own:∀ b,Own b->lo<=b/\b < W.heap.size
 row:∀ k (h:k < ls.length),∃ v,W.cell? ⟨R,k,none⟩=some v/\xg lo (fun b=>¬ Own b/\b ≠ R) W v ls[k]/\∀ o,v.ownBlock=some o->Own o
 apart:∀ j k v u,j < ls.length->k < ls.length->j ≠ k->W.cell? ⟨R,j,none⟩=some v->W.cell? ⟨R,k,none⟩=some u->∀ o,v.ownBlock=some o->u.ownBlock ≠ some o
theorem gy.ext {lo : Nat} {W W' : World} {R : Nat} {ls : List (List Pl)} {Own : Nat -> Prop} (h : gy lo W R ls Own) (hx : Ext W W') : gy lo W' R ls Own where
 lt:=px h.lt hx.size
 hlo:=h.hlo
 fr i:=(hx.frozen (p:=⟨R,i,none⟩) h.lt).trans (h.fr i)
 own b hb:=⟨(h.own b hb).1,px (h.own b hb).2 hx.size⟩
 row k hk:=by
  obtain ⟨v,h1,h2,h3⟩:=h.row k hk;exact ⟨v,(hx.cell (p:=⟨R,k,none⟩) h.lt).trans h1,h2.ext hx,h3⟩
 apart j k v u hj hk au h1 h2:=h.apart j k v u hj hk au ((hx.cell (p:=⟨R,j,none⟩) h.lt).symm.trans h1) ((hx.cell (p:=⟨R,k,none⟩) h.lt).symm.trans h2)
theorem zb8 {base:Nat} {q:Nat->Prop} {W:World} {v:Value} {l:List Pl} (h:xg base q W v l):uo v=false:=by
 obtain ⟨A,c,rfl,-⟩:=h.len
 rfl
theorem gy.put {lo : Nat} {W w4 : World} {R : Nat} {ls : List (List Pl)} {Own : Nat -> Prop} (h : gy lo W R ls Own) (k : Nat) (hk : k < ls.length) {v v4 : Value} {l4 : List Pl} (hv : W.cell? ⟨R, k, none⟩ = some v) (hg : W.grownBy w4 v.ownBlock) (hn : ∀ s ds, jc W s ds -> jc w4 s ds)
 (h4:xg lo (fun b=>¬ Own b/\b ≠ R) w4 v4 l4) (ho:v4.ownBlock=v.ownBlock\/∃ o,v4.ownBlock=some o/\W.heap.size<=o)
 (mf:xg lo (fun b=>(¬ Own b/\b ≠ R)/\v4.ownBlock ≠ some b) w4 v4 l4) :
 gy lo (w4.setCell ⟨R,k,none⟩ v4) R (ls.set k l4) (fun b=>Own b\/v4.ownBlock=some b)/\(∀ i,w4.frozen? ⟨R,i,none⟩=false)/\w4.cell? ⟨R,k,none⟩=some v /\
 ∀ t u,PlV W (fun b=>¬ Own b/\b ≠ R) t u->PlV (w4.setCell ⟨R,k,none⟩ v4) (fun b=>¬ (Own b\/v4.ownBlock=some b)/\b ≠ R) t u:=by
 have uO:∀ o,v.ownBlock=some o->Own o:=by
  obtain ⟨u,h1,-,h3⟩:=h.row k hk;rw [hv] at h1;injection h1 with h1
  rw [h1]; exact h3
 have hRb:v.ownBlock ≠ some R:=fun e=>by have:=(h.own R (uO R e)).1; have:=h.hlo; omega
 have hRh:w4.heap[R]?=W.heap[R]?:=rz hg R h.lt (fun e=>hRb e.symm);have hc:∀ i,w4.cell? ⟨R,i,none⟩=W.cell? ⟨R,i,none⟩:=fun i=>pB (a:=⟨R,i,none⟩) hRh
 have hf:∀ i,w4.frozen? ⟨R,i,none⟩=false:=fun i=>by
  have:=h.fr i;unfold World.frozen? at this ⊢;simp only [hRh];exact this
 have hsz:=hg.size;have Qx:uo v=false:=by
  obtain ⟨u,h1,h2,-⟩:=h.row k hk;rw [hv] at h1;injection h1 with h1
  rw [h1]; exact zb8 h2
 have hn5:∀ s ds,jc w4 s ds->jc (w4.setCell ⟨R,k,none⟩ v4) s ds:=fun s ds hs=>hs.box ((hc k).trans hv) Qx _
 have h5:∀ b,b ≠ R->(w4.setCell ⟨R,k,none⟩ v4).heap[b]?=w4.heap[b]?:=fun b hb=>Below.heap_setCell _ _ _ b hb
 have Xa:(w4.setCell ⟨R,k,none⟩ v4).heap.size=w4.heap.size:=by simp [World.setCell]
 have Ee:(w4.setCell ⟨R,k,none⟩ v4).cell? ⟨R,k,none⟩=some v4:=pP _ _ _ ((hc k).trans hv);have ry:∀ j,j ≠ k->(w4.setCell ⟨R,k,none⟩ v4).cell? ⟨R,j,none⟩=W.cell? ⟨R,j,none⟩:=fun j hj=>by
  rw [ph _ _ _ _ (by intro e; injection e; omega)]; exact hc j
 have wQ:∀ o,v4.ownBlock=some o->lo<=o/\o < w4.heap.size:=fun o e=>h4.own e
 refine ⟨⟨by rw [Xa]; have:=h.lt; omega,h.hlo,fun i=>?_,fun b hb=>?_,fun j hj=>?_,fun i j x y hi hj au hx hy o hox=>?_⟩,hf,(hc k).trans hv,fun t u ht=>?_⟩
 · rw [rm]; exact hf i
 · rw [Xa];rcases hb with hb | hb
   · have:=h.own b hb; omega
   · exact wQ b hb
 · rw [pL] at hj
   by_cases lK:j=k
   · subst lK;rw [r6];refine ⟨v4,Ee,xg.xl mf (by omega) hn5 (fun o e=>h5 o (by have:=(wQ o e).1; have:=h.hlo; omega)) (fun b _ hb hq=>⟨⟨?_,hq.1.2⟩,h5 b hq.1.2⟩),fun o e=>.inr e⟩;rintro (dE | dE)
     · exact hq.1.1 dE
     · exact hq.2 dE
   · rw [sY (Ne.symm lK)];obtain ⟨u,h1,h2,h3⟩:=h.row j hj;refine ⟨u,(ry j lK).trans h1,?_,fun o e=>.inl (h3 o e)⟩;have LH:=h.apart j k u v hj hk lK h1 hv;refine xg.xl h2 (by omega) (fun s ds hs=>hn5 s ds (hn s ds hs)) (fun o e=>?_) (fun b af hb hq=>⟨⟨?_,hq.2⟩,?_⟩)
     · have Fg:=h.own o (h3 o e);have hlo:=h.hlo;rw [h5 o (by omega)];exact rz hg o Fg.2 (fun e2=>LH o e e2.symm)
     · rintro (dE | dE)
       · exact hq.1 dE
       · rcases ho with ho | ⟨o,ho,hle⟩
         · rw [ho] at dE; exact hq.1 (uO b dE)
         · rw [ho] at dE; injection dE with dE; omega
     · rw [h5 b hq.2];exact rz hg b af (fun e2=>hq.1 (uO b e2.symm))
 · rw [pL] at hi hj;have key:∀ o,v4.ownBlock=some o->∀ j,j < ls.length->j ≠ k->∀ y,W.cell? ⟨R,j,none⟩=some y->y.ownBlock ≠ some o:=fun o e j hj lK y hy e2=>by
    obtain ⟨u,h1,-,h3⟩:=h.row j hj;rw [hy] at h1;injection h1 with h1
    subst h1;rcases ho with ho | ⟨o',ho,hle⟩
    · rw [ho] at e;exact h.apart j k y v hj hk lK hy hv o e2 e
    · rw [ho] at e;injection e with e
      have:=(h.own o (h3 o e2)).2;omega
   by_cases nI:i=k
   · subst nI;rw [Ee] at hx;injection hx with hx
     subst hx;rw [ry j (Ne.symm au)] at hy;exact key o hox j hj (Ne.symm au) y hy
   · rw [ry i nI] at hx
     by_cases lK:j=k
     · subst lK;rw [Ee] at hy;injection hy with hy
       subst hy;exact fun e=>key o e i hi nI x hx hox
     · rw [ry j lK] at hy;exact h.apart i j x y hi hj au hx hy o hox
 · refine PlV.zd (by omega) (fun s ds hs=>hn5 s ds (hn s ds hs)) (fun b af hq=>⟨⟨?_,hq.2⟩,?_⟩) ht
   · rintro (dE | dE)
     · exact hq.1 dE
     · rcases ho with ho | ⟨o,ho,hle⟩
       · rw [ho] at dE; exact hq.1 (uO b dE)
       · rw [ho] at dE; injection dE with dE; omega
   · rw [h5 b hq.2];exact rz hg b af (fun e2=>hq.1 (uO b e2.symm))
theorem xg.self {base:Nat} {q:Nat->Prop} {W:World} {v:Value} {l:List Pl} (h:xg base q W v l):xg base (fun b=>q b/\v.ownBlock ≠ some b) W v l:=by
 obtain ⟨rs,e,h2,h3⟩:=h;exact ⟨rs,e,h2,fun r hr=>⟨(h3 r hr).1,(h3 r hr).2.mono fun b hb=>⟨hb.1,hb.2,hb.1⟩⟩⟩
theorem gy.push {lo:Nat} {W:World} {R:Nat} {ls:List (List Pl)} {Own:Nat->Prop} (h:gy lo W R ls Own) (hlw:lo<=W.heap.size) (k:Nat) (hk:k < ls.length):∃ PA pc,W.cell? ⟨R,k,none⟩=some (.slice PA ls[k].length pc)/\ls[k].length<=pc/\pc<=9223372036854775807 /\
 ∀ (x:Pl) (A0 A1:Option Addr) (n0 c0 n1 c1:Nat),PlV W (fun b=>¬ Own b/\b ≠ R) x (plV x (.slice A0 n0 c0) (.slice A1 n1 c1))->ls[k].length+1<=1000000000->∃ B d w4 Own',(Builtin.append_ #[31,31] 31 #[.slice PA ls[k].length pc,.slice (some ⟨W.heap.size,0,none⟩) 1 1]).run Tryz.prog (W.alloc (.cells #[.int .i64 x.lv,.bool x.neg,.slice A0 n0 c0,.slice A1 n1 c1] 33))=.ok (.slice (some ⟨B,0,none⟩) (ls[k].length+1) d) w4 /\
   gy lo (w4.setCell ⟨R,k,none⟩ (.slice (some ⟨B,0,none⟩) (ls[k].length+1) d)) R (ls.set k (ls[k] ++ [x])) Own'/\(∀ i,w4.frozen? ⟨R,i,none⟩=false)/\w4.cell? ⟨R,k,none⟩=some (.slice PA ls[k].length pc) /\
   (∀ t u,PlV W (fun b=>¬ Own b/\b ≠ R) t u->PlV (w4.setCell ⟨R,k,none⟩ (.slice (some ⟨B,0,none⟩) (ls[k].length+1) d)) (fun b=>¬ Own' b/\b ≠ R) t u)/\(∀ V,Ext V W->V.heap.size<=R->Ext V (w4.setCell ⟨R,k,none⟩ (.slice (some ⟨B,0,none⟩) (ls[k].length+1) d)))/\ls[k].length+1<=d/\d<=9223372036854775807/\W.heap.size<=w4.heap.size/\∀ b,b ≠ R->b < lo->(w4.setCell ⟨R,k,none⟩ (.slice (some ⟨B,0,none⟩) (ls[k].length+1) d)).heap[b]?=W.heap[b]?:=by
 obtain ⟨v,hv,hq,uO⟩:=h.row k hk;obtain ⟨PA,pc,rfl,pX,wP⟩:=hq.len;refine ⟨PA,pc,hv,pX,wP,fun x A0 A1 n0 c0 n1 c1 hx hlen=>?_⟩;have af:=h.lt;have hlo:=h.hlo;obtain ⟨v4,w4,ak,g4,n4,r4,o4⟩:=hq.push (by omega) (hx.mono fun b hb=>⟨fun e=>hb.1 (uO b e),hb⟩) hlen 31;obtain ⟨QA,d,e4,eH,uD⟩:=r4.len;rw [rh] at e4 eH;have e4':v4=.slice QA (ls[k].length+1) d:=e4;subst e4';obtain ⟨p1,p2,p3,p4⟩:=h.put k hk hv g4 n4 r4 (o4.imp id fun e=>⟨_,e,by omega⟩) r4.self;obtain ⟨rs,-,jP,-⟩:=id r4;have hB:∃ B,QA=some ⟨B,0,none⟩:=by
  obtain ⟨g,c,e,-⟩:=jl.pos jP (by
   have:=jP.len;obtain ⟨A',c',e',-⟩:=this;injection e' with _ e' _
   omega)
  injection e with e
  exact ⟨g,e⟩
 obtain ⟨B,rfl⟩:=hB;refine ⟨B,d,w4,_,ak,p1,p2,p3,p4,fun V eQ hVR=>?_,eH,uD,g4.size,fun b hb wY=>?_⟩
 · have h1:Ext V w4:=jaz eQ g4 (fun o ho=>by have:=(h.own o (uO o ho)).1; omega);exact h1.setCell hVR _
 · rw [Below.heap_setCell _ _ _ b hb];exact rz g4 b (by omega) (fun e=>by have:=(h.own b (uO b e.symm)).1; omega)
theorem gy.setAt {lo : Nat} {W : World} {R : Nat} {ls : List (List Pl)} {Own : Nat -> Prop} (h : gy lo W R ls Own) (k : Nat) (hk : k < ls.length) {g c m : Nat} (hv : W.cell? ⟨R, k, none⟩ = some (.slice (some ⟨g, 0, none⟩) m c)) (j : Nat) (hj : j < ls[k].length) (x : Pl) {A0 A1 : Option Addr} {n0 c0 n1 c1 : Nat}
 (hx:PlV W (fun b=>¬ Own b/\b ≠ R) x (plV x (.slice A0 n0 c0) (.slice A1 n1 c1))) :
 gy lo ((((W.setCell ⟨g,j * 4,none⟩ (.int .i64 x.lv)).setCell ⟨g,j * 4+1,none⟩ (.bool x.neg)).setCell ⟨g,j * 4+2,none⟩ (.slice A0 n0 c0)).setCell ⟨g,j * 4+3,none⟩ (.slice A1 n1 c1)) R (ls.set k (ls[k].set j x)) Own /\
 (∀ i,W.frozen? ⟨g,i,none⟩=false)/\(∃ u0 u1 u2 u3,W.cell? ⟨g,j * 4,none⟩=some u0/\W.cell? ⟨g,j * 4+1,none⟩=some u1/\W.cell? ⟨g,j * 4+2,none⟩=some u2/\W.cell? ⟨g,j * 4+3,none⟩=some u3)/\lo<=g:=by
 obtain ⟨v,WU,hq,uO⟩:=h.row k hk;rw [hv] at WU;injection WU with WU
 subst WU;obtain ⟨QA,d,e4,-⟩:=hq.len;have hm:m=ls[k].length:=by injection e4
 subst hm;have mV:=uO g rfl;have Ip:=h.own g mV;obtain ⟨aV,ax⟩:=hq.xD j hj x (hx.mono fun b hb=>⟨fun e=>hb.1 (e ▸ mV),hb⟩);obtain ⟨rs,JY,jP,-⟩:=id hq;have wM:rs.length=ls[k].length:=by rw [<- JY,pw]
 rw [wM] at jP;obtain ⟨W',bJ⟩:=n_m (((((W.setCell ⟨g,j * 4,none⟩ (.int .i64 x.lv)).setCell ⟨g,j * 4+1,none⟩ (.bool x.neg)).setCell ⟨g,j * 4+2,none⟩ (.slice A0 n0 c0)).setCell ⟨g,j * 4+3,none⟩ (.slice A1 n1 c1)));have cO:∀ b,b ≠ g->W'.heap[b]?=W.heap[b]?:=fun b hb=>by
  rw [<- bJ,Below.heap_setCell _ _ _ b hb,Below.heap_setCell _ _ _ b hb,Below.heap_setCell _ _ _ b hb,Below.heap_setCell _ _ _ b hb]
 have hsz:W'.heap.size=W.heap.size:=by rw [<- bJ]; simp [World.setCell]
 have bG:∀ a,W'.frozen? a=W.frozen? a:=fun a=>by rw [<- bJ]; simp only [rm]
 rw [bJ] at aV ax ⊢;have hRg:R ≠ g:=by have:=h.hlo; omega
 have hc:∀ i,W'.cell? ⟨R,i,none⟩=W.cell? ⟨R,i,none⟩:=fun i=>pB (a:=⟨R,i,none⟩) (cO R hRg)
 have hlf:(ul rs).length=ls[k].length * 4:=by rw [ku,wM]
 have xG:∀ i,i < 4->∃ u,W.cell? ⟨g,j * 4+i,none⟩=some u:=fun i hi=>by
  rw [jP.cell (j * 4+i) (by omega),pr (by omega)];exact ⟨_,rfl⟩
 obtain ⟨u0,c0'⟩:=xG 0 (by omega);obtain ⟨u1,c1'⟩:=xG 1 (by omega);obtain ⟨u2,c2'⟩:=xG 2 (by omega);obtain ⟨u3,c3'⟩:=xG 3 (by omega);refine ⟨⟨by rw [hsz]; exact h.lt,h.hlo,fun i=>by rw [bG]; exact h.fr i,fun b hb=>by rw [hsz]; exact h.own b hb,fun i hi=>?_,fun a b y z ha hb au hy hz=>?_⟩,fun i=>World.ownsRow.frozenAt jP.1 i,⟨u0,u1,u2,u3,c0',c1',c2',c3'⟩,by omega⟩
 · rw [pL] at hi
   by_cases nI:i=k
   · subst nI;rw [r6];exact ⟨_,(hc i).trans hv,by rw [pL] at *; exact aV,uO⟩
   · rw [sY (Ne.symm nI)];obtain ⟨u,h1,h2,h3⟩:=h.row i hi;have LH:=h.apart i k u _ hi hk nI h1 hv;refine ⟨u,(hc i).trans h1,xg.xl h2 (by omega) ax (fun o e=>cO o (fun e2=>LH o e (by rw [e2]; rfl))) (fun b _ _ rZ=>⟨rZ,cO b (fun e2=>rZ.1 (by rw [e2]; exact mV))⟩),h3⟩
 · rw [pL] at ha hb;rw [hc] at hy hz;exact h.apart a b y z ha hb au hy hz
set_option maxRecDepth 100000
set_option maxHeartbeats 8000000
theorem gy.qaL {lo : Nat} {W : World} {R : Nat} {ls : List (List Pl)} {Own : Nat -> Prop} (h : gy lo W R ls Own) (hlw : lo <= W.heap.size) (k : Nat) (hk : k < ls.length) {PA : Option Addr} {ln pc : Nat} (ae : W.cell? ⟨R, k, none⟩ = some (.slice PA ln pc)) (jM : ls[k].length = ln)
 (ad:Addr) (x:Pl) (A0 A1:Option Addr) (n0 c0 n1 c1:Nat) (hz:uy W ad Pl.zero (.slice none 0 0) (.slice none 0 0)) (hx:PlV W (fun b=>¬ Own b/\b ≠ R) x (plV x (.slice A0 n0 c0) (.slice A1 n1 c1))) (hlen:ln+1<=1000000000) :
 ∃ B d w4 Own',(Builtin.append_ #[31,31] 31 #[.slice PA ln pc,.slice (some ad) 1 1]).run Tryz.prog W=.ok (.slice (some ⟨B,0,none⟩) (ln+1) d) w4/\(∀ i,w4.frozen? ⟨R,i,none⟩=false)/\w4.cell? ⟨R,k,none⟩=some (.slice PA ln pc)/\(∀ b,b ≠ R->b < lo->w4.heap[b]?=W.heap[b]?)/\lo<=B /\
   (∀ i,(w4.setCell ⟨R,k,none⟩ (.slice (some ⟨B,0,none⟩) (ln+1) d)).frozen? ⟨B,i,none⟩=false) /\
   (∃ u0 u1 u2 u3,(w4.setCell ⟨R,k,none⟩ (.slice (some ⟨B,0,none⟩) (ln+1) d)).cell? ⟨B,ln * 4,none⟩=some u0/\(w4.setCell ⟨R,k,none⟩ (.slice (some ⟨B,0,none⟩) (ln+1) d)).cell? ⟨B,ln * 4+1,none⟩=some u1/\(w4.setCell ⟨R,k,none⟩ (.slice (some ⟨B,0,none⟩) (ln+1) d)).cell? ⟨B,ln * 4+2,none⟩=some u2/\(w4.setCell ⟨R,k,none⟩ (.slice (some ⟨B,0,none⟩) (ln+1) d)).cell? ⟨B,ln * 4+3,none⟩=some u3) /\
   ∀ w8,w8=(((((w4.setCell ⟨R,k,none⟩ (.slice (some ⟨B,0,none⟩) (ln+1) d)).setCell ⟨B,ln * 4,none⟩ (.int .i64 x.lv)).setCell ⟨B,ln * 4+1,none⟩ (.bool x.neg)).setCell ⟨B,ln * 4+2,none⟩ (.slice A0 n0 c0)).setCell ⟨B,ln * 4+3,none⟩ (.slice A1 n1 c1)) ->
     gy lo w8 R (ls.set k (ls[k] ++ [x])) Own'/\(∀ V,Ext V W->V.heap.size<=R->Ext V w8)/\W.heap.size<=w8.heap.size/\∀ b,b ≠ R->b < lo->w8.heap[b]?=W.heap[b]?:=by
 obtain ⟨v,hv,hq,uO⟩:=h.row k hk;rw [ae] at hv;injection hv with hv
 subst hv;have af:=h.lt;have hlo:=h.hlo;obtain ⟨v4,w4,ak,g4,n4,r4,o4⟩:=hq.append_ (ad:=ad) (by omega) [(Pl.zero,.slice none 0 0,.slice none 0 0)] (by
  intro r hr;obtain rfl:=pD.1 hr;exact ⟨⟨none,0,0,none,0,0,rfl⟩,Pl.xt W _ none 0 (by omega)⟩) (by
  intro i hi;obtain rfl:i=0:=by simpa using hi
  rw [s8,show ad.add 0=ad from by simp [Addr.add]]
  exact hz) (by simp) (by simp; omega) 1 31
 obtain ⟨QA,d,e4,eH,uD⟩:=r4.len;have qN:(ls[k] ++ [((Pl.zero,Value.slice none 0 0,Value.slice none 0 0):Pl × Value × Value)].map (fun r=>r.1)).length=ln+1:=by simp [jM]
 rw [qN] at e4 eH;subst e4;have Zk:xg lo (fun b=>¬ Own b/\b ≠ R) w4 (.slice QA (ln+1) d) (ls[k] ++ [Pl.zero]):=r4;obtain ⟨p1,p2,p3,p4⟩:=h.put k hk ae g4 n4 Zk (o4.imp id fun e=>⟨_,e,pj _⟩) Zk.self;obtain ⟨rs,JY,jP,-⟩:=id Zk;have wM:rs.length=ln+1:=by rw [<- pw (f:=fun r=>r.1),JY]; simp [jM]
 have hB:∃ B,QA=some ⟨B,0,none⟩:=by
  obtain ⟨g,c,e,-⟩:=jl.pos jP (by omega);injection e with e
  exact ⟨g,e⟩
 obtain ⟨B,rfl⟩:=hB;have hc7:(w4.setCell ⟨R,k,none⟩ (.slice (some ⟨B,0,none⟩) (ln+1) d)).cell? ⟨R,k,none⟩=some (.slice (some ⟨B,0,none⟩) (ln+1) d):=pP _ _ _ p3;have hk2:k < (ls.set k (ls[k] ++ [Pl.zero])).length:=by rw [pL]; exact hk
 have Tq:(ls.set k (ls[k] ++ [Pl.zero]))[k]'hk2=ls[k] ++ [Pl.zero]:=r6 _;obtain ⟨q1,q2,q3,q4⟩:=p1.setAt k hk2 hc7 ln (by rw [Tq]; simp [jM]) x (p4 _ _ hx);have aT:(ls.set k (ls[k] ++ [Pl.zero])).set k (((ls.set k (ls[k] ++ [Pl.zero]))[k]'hk2).set ln x)=ls.set k (ls[k] ++ [x]):=by
  rw [Tq,paC]
  congr 1
  rw [ti _ _ (by omega),jM,Pw]; rfl
 rw [aT] at q1;have hblk:∀ b,b ≠ R->b < lo->w4.heap[b]?=W.heap[b]?:=fun b hb wY=>rz g4 b (by omega) (fun e=>by have:=(h.own b (uO b e.symm)).1; omega)
 refine ⟨B,d,w4,fun b=>Own b\/(Value.slice (some ⟨B,0,none⟩) (ln+1) d).ownBlock=some b,ak,p2,p3,hblk,q4,q2,q3,fun w8 Oh=>?_⟩;rw [<- Oh] at q1;refine ⟨q1,fun V eQ hVR=>?_,?_,fun b hb wY=>?_⟩
 · have h1:Ext V w4:=jaz eQ g4 (fun o ho=>by have:=(h.own o (uO o ho)).1; omega);rw [Oh];exact ((((h1.setCell hVR _).setCell (show V.heap.size<=B by omega) _).setCell (show V.heap.size<=B by omega) _).setCell (show V.heap.size<=B by omega) _).setCell (show V.heap.size<=B by omega) _
 · have:=g4.size;rw [Oh]; simp [World.setCell]; omega
 · have LD:b ≠ B:=by omega
   rw [Oh,Below.heap_setCell _ _ _ b LD,Below.heap_setCell _ _ _ b LD,Below.heap_setCell _ _ _ b LD,Below.heap_setCell _ _ _ b LD,Below.heap_setCell _ _ _ b hb];exact hblk b hb wY
end Go.Proofs.YtcepajijiabkmaaGreat
