/- Rows of rows of polynomials. -/
import Derived.Test.YtcepajijiabkmaaGreatMp16
set_option linter.unusedSimpArgs false
set_option linter.unusedVariables false
namespace Go.Proofs.YtcepajijiabkmaaGreat
open Go.RowKit
theorem jg.xl {base : Nat} {q q' : Nat -> Prop} {W W' : World} {v : Value} {l : List Pl} (h : jg base q W v l) (hs : W.heap.size <= W'.heap.size) (hn : ∀ s ds, jc W s ds -> jc W' s ds) (ho : ∀ R, v.ownBlock = some R -> W'.heap[R]? = W.heap[R]?)
 (hb:∀ b,b < W.heap.size->v.ownBlock ≠ some b->q b->q' b/\W'.heap[b]?=W.heap[b]?):jg base q' W' v l:=by
 obtain ⟨rs,e,h2,h3⟩:=h;exact ⟨rs,e,h2.xl ho,fun r hr=>⟨(h3 r hr).1,PlV.zd hs hn (fun b af hq=>⟨⟨hq.1,(hb b af hq.1 hq.2).1⟩,(hb b af hq.1 hq.2).2⟩) (h3 r hr).2⟩⟩
theorem uco (rs:List (Pl × Value × Value)):∀ (k:Nat) (hk:k < rs.length) (x:Pl) (s A:Value),uo (rs.set k (x,s,A))=((((uo rs).set (k * 4) (.int .i64 x.lv)).set (k * 4+1) (.bool x.neg)).set (k * 4+2) s).set (k * 4+3) A:=by
 induction rs with
 | nil=>intro k hk; simp at hk
 | cons r rs ih =>
   intro k hk x s A;have hl:(plC r).length=4:=rfl;cases k with
   | zero=>simp [uo,plC]
   | succ k =>
     have:=ih k (by simpa using hk) x s A;simp only [Rr,uo,th] at this ⊢;rw [this,ti _ _ (by rw [hl]; omega),ti _ _ (by rw [hl]; omega),ti _ _ (by rw [hl]; omega),ti _ _ (by rw [hl]; omega),hl];rw [show (k+1) * 4 - 4=k * 4 by omega,show (k+1) * 4+1 - 4=k * 4+1 by omega,show (k+1) * 4+2 - 4=k * 4+2 by omega,show (k+1) * 4+3 - 4=k * 4+3 by omega]
theorem jg.xD {base g c : Nat} {q : Nat -> Prop} {W : World} {l : List Pl} (h : jg base q W (.slice (some ⟨g, 0, none⟩) l.length c) l) (k : Nat) (hk : k < l.length) (x : Pl) {A0 A1 : Option Addr} {n0 c0 n1 c1 : Nat}
 (hx:PlV W (fun b=>b ≠ g/\q b) x (plV x (.slice A0 n0 c0) (.slice A1 n1 c1))) :
 jg base q ((((W.setCell ⟨g,k * 4,none⟩ (.int .i64 x.lv)).setCell ⟨g,k * 4+1,none⟩ (.bool x.neg)).setCell ⟨g,k * 4+2,none⟩ (.slice A0 n0 c0)).setCell ⟨g,k * 4+3,none⟩ (.slice A1 n1 c1)) (.slice (some ⟨g,0,none⟩) l.length c) (l.set k x) /\
 ∀ v ds,jc W v ds->jc ((((W.setCell ⟨g,k * 4,none⟩ (.int .i64 x.lv)).setCell ⟨g,k * 4+1,none⟩ (.bool x.neg)).setCell ⟨g,k * 4+2,none⟩ (.slice A0 n0 c0)).setCell ⟨g,k * 4+3,none⟩ (.slice A1 n1 c1)) v ds:=by
 obtain ⟨rs,rfl,h2,h3⟩:=h;rw [px] at hk;simp only [px] at h2 ⊢;have hr:=(h3 rs[k] (pt hk)).1;obtain ⟨B0,m0,d0,B1,m1,d1,er⟩:=hr;have hc:∀ j,j < 4->∀ u,(plC rs[k])[j]?=some u->W.cell? ⟨g,k * 4+j,none⟩=some u:=fun j hj u hu=>by
  rw [h2.cell (k * 4+j) (by omega),xam rs k hk j hj,hu]
 have g0:=hc 0 (by omega) _ rfl;have g1:=hc 1 (by omega) _ rfl;have g2:=hc 2 (by omega) _ rfl;have g3:=hc 3 (by omega) _ rfl;rw [er] at g2 g3;rw [s8] at g0;have au:∀ v ds,jc W v ds->jc ((((W.setCell ⟨g,k * 4,none⟩ (.int .i64 x.lv)).setCell ⟨g,k * 4+1,none⟩ (.bool x.neg)).setCell ⟨g,k * 4+2,none⟩ (.slice A0 n0 c0)).setCell ⟨g,k * 4+3,none⟩ (.slice A1 n1 c1)) v ds:=fun v ds hv=>by
  refine (((hv.box g0 rfl _).box (u:=.bool rs[k].1.neg) ?_ rfl _).box (u:=.slice B0 m0 d0) ?_ rfl _).box (u:=.slice B1 m1 d1) ?_ rfl _
  · rw [ph _ _ _ _ (by simp)]; exact g1
  · rw [ph _ _ _ _ (by simp),ph _ _ _ _ (by simp)]; exact g2
  · rw [ph _ _ _ _ (by simp),ph _ _ _ _ (by simp),ph _ _ _ _ (by simp)]; exact g3
 have cO:∀ b,b ≠ g->((((W.setCell ⟨g,k * 4,none⟩ (.int .i64 x.lv)).setCell ⟨g,k * 4+1,none⟩ (.bool x.neg)).setCell ⟨g,k * 4+2,none⟩ (.slice A0 n0 c0)).setCell ⟨g,k * 4+3,none⟩ (.slice A1 n1 c1)).heap[b]?=W.heap[b]?:=fun b hb=>by
  rw [Below.heap_setCell _ _ _ b hb,Below.heap_setCell _ _ _ b hb,Below.heap_setCell _ _ _ b hb,Below.heap_setCell _ _ _ b hb]
 refine ⟨⟨rs.set k (x,.slice A0 n0 c0,.slice A1 n1 c1),by rw [List.map_set],?_,fun r hr=>?_⟩,au⟩
 · have hl:k * 4+3 < rs.length * 4:=by omega
   have kD:uo (rs.set k (x,.slice A0 n0 c0,.slice A1 n1 c1))=((((uo rs).set (k * 4) (.int .i64 x.lv)).set (k * 4+1) (.bool x.neg)).set (k * 4+2) (.slice A0 n0 c0)).set (k * 4+3) (.slice A1 n1 c1):=uco rs k hk x _ _;rw [pH,kD];exact (((h2.xD (k * 4) (by omega) _ rfl).xD (k * 4+1) (by omega) _ rfl).xD (k * 4+2) (by omega) _ rfl).xD (k * 4+3) (by omega) _ rfl
 · have keep:∀ t v,PlV W (fun b=>(Value.slice (some ⟨g,0,none⟩) rs.length c).ownBlock ≠ some b/\q b) t v->PlV ((((W.setCell ⟨g,k * 4,none⟩ (.int .i64 x.lv)).setCell ⟨g,k * 4+1,none⟩ (.bool x.neg)).setCell ⟨g,k * 4+2,none⟩ (.slice A0 n0 c0)).setCell ⟨g,k * 4+3,none⟩ (.slice A1 n1 c1)) (fun b=>(Value.slice (some ⟨g,0,none⟩) rs.length c).ownBlock ≠ some b/\q b) t v:=fun t v ht =>
    PlV.zd (by simp [World.setCell]) au (fun b _ hq=>⟨hq,cO b (fun e=>hq.1 (by rw [e]; rfl))⟩) ht
   rcases R9 hr with hr | rfl
   · exact ⟨(h3 r hr).1,keep _ _ (h3 r hr).2⟩
   · exact ⟨⟨_,_,_,_,_,_,rfl⟩,keep _ _ (hx.mono fun b hb=>⟨fun e=>hb.1 (by simpa [Value.ownBlock] using e.symm),hb.2⟩)⟩
structure qx (lo : Nat) (W : World) (R : Nat) (ls : List (List Pl)) (Own : Nat -> Prop) : Prop where
 lt:R < W.heap.size
 hlo:R < lo
 fr:∀ i,W.frozen? ⟨R,i,none⟩=false
 own:∀ b,Own b->lo<=b/\b < W.heap.size
 row:∀ k (h:k < ls.length),∃ v,W.cell? ⟨R,k,none⟩=some v/\jg lo (fun b=>¬ Own b/\b ≠ R) W v ls[k]/\∀ o,v.ownBlock=some o->Own o
 apart:∀ j k v u,j < ls.length->k < ls.length->j ≠ k->W.cell? ⟨R,j,none⟩=some v->W.cell? ⟨R,k,none⟩=some u->∀ o,v.ownBlock=some o->u.ownBlock ≠ some o
theorem qx.ext {lo : Nat} {W W' : World} {R : Nat} {ls : List (List Pl)} {Own : Nat -> Prop} (h : qx lo W R ls Own) (hx : Ext W W') : qx lo W' R ls Own where
 lt:=pw h.lt hx.size
 hlo:=h.hlo
 fr i:=(hx.frozen (p:=⟨R,i,none⟩) h.lt).trans (h.fr i)
 own b hb:=⟨(h.own b hb).1,pw (h.own b hb).2 hx.size⟩
 row k hk:=by
  obtain ⟨v,h1,h2,h3⟩:=h.row k hk;exact ⟨v,(hx.cell (p:=⟨R,k,none⟩) h.lt).trans h1,h2.ext hx,h3⟩
 apart j k v u hj hk ax h1 h2:=h.apart j k v u hj hk ax ((hx.cell (p:=⟨R,j,none⟩) h.lt).symm.trans h1) ((hx.cell (p:=⟨R,k,none⟩) h.lt).symm.trans h2)
theorem xb4 {base:Nat} {q:Nat->Prop} {W:World} {v:Value} {l:List Pl} (h:jg base q W v l):jo v=false:=by
 obtain ⟨A,c,rfl,-⟩:=h.len
 rfl
theorem qx.put {lo : Nat} {W w4 : World} {R : Nat} {ls : List (List Pl)} {Own : Nat -> Prop} (h : qx lo W R ls Own) (k : Nat) (hk : k < ls.length) {v v4 : Value} {l4 : List Pl} (hv : W.cell? ⟨R, k, none⟩ = some v) (hg : W.grownBy w4 v.ownBlock) (hn : ∀ s ds, jc W s ds -> jc w4 s ds)
 (h4:jg lo (fun b=>¬ Own b/\b ≠ R) w4 v4 l4) (ho:v4.ownBlock=v.ownBlock\/∃ o,v4.ownBlock=some o/\W.heap.size<=o)
 (lZ:jg lo (fun b=>(¬ Own b/\b ≠ R)/\v4.ownBlock ≠ some b) w4 v4 l4) :
 qx lo (w4.setCell ⟨R,k,none⟩ v4) R (ls.set k l4) (fun b=>Own b\/v4.ownBlock=some b)/\(∀ i,w4.frozen? ⟨R,i,none⟩=false)/\w4.cell? ⟨R,k,none⟩=some v /\
 ∀ t u,PlV W (fun b=>¬ Own b/\b ≠ R) t u->PlV (w4.setCell ⟨R,k,none⟩ v4) (fun b=>¬ (Own b\/v4.ownBlock=some b)/\b ≠ R) t u:=by
 have uO:∀ o,v.ownBlock=some o->Own o:=by
  obtain ⟨u,h1,-,h3⟩:=h.row k hk;rw [hv] at h1;injection h1 with h1
  rw [h1]; exact h3
 have hRb:v.ownBlock ≠ some R:=fun e=>by have:=(h.own R (uO R e)).1; have:=h.hlo; omega
 have hRh:w4.heap[R]?=W.heap[R]?:=rr hg R h.lt (fun e=>hRb e.symm);have hc:∀ i,w4.cell? ⟨R,i,none⟩=W.cell? ⟨R,i,none⟩:=fun i=>pB (a:=⟨R,i,none⟩) hRh
 have hf:∀ i,w4.frozen? ⟨R,i,none⟩=false:=fun i=>by
  have:=h.fr i;unfold World.frozen? at this ⊢;simp only [hRh];exact this
 have hsz:=hg.size;have Qw:jo v=false:=by
  obtain ⟨u,h1,h2,-⟩:=h.row k hk;rw [hv] at h1;injection h1 with h1
  rw [h1]; exact xb4 h2
 have RF:∀ s ds,jc w4 s ds->jc (w4.setCell ⟨R,k,none⟩ v4) s ds:=fun s ds hs=>hs.box ((hc k).trans hv) Qw _
 have h5:∀ b,b ≠ R->(w4.setCell ⟨R,k,none⟩ v4).heap[b]?=w4.heap[b]?:=fun b hb=>Below.heap_setCell _ _ _ b hb
 have Xa:(w4.setCell ⟨R,k,none⟩ v4).heap.size=w4.heap.size:=by simp [World.setCell]
 have Ea:(w4.setCell ⟨R,k,none⟩ v4).cell? ⟨R,k,none⟩=some v4:=pN _ _ _ ((hc k).trans hv);have rD:∀ j,j ≠ k->(w4.setCell ⟨R,k,none⟩ v4).cell? ⟨R,j,none⟩=W.cell? ⟨R,j,none⟩:=fun j hj=>by
  rw [ph _ _ _ _ (by intro e; injection e; omega)]; exact hc j
 have wS:∀ o,v4.ownBlock=some o->lo<=o/\o < w4.heap.size:=fun o e=>h4.own e
 refine ⟨⟨by rw [Xa]; have:=h.lt; omega,h.hlo,fun i=>?_,fun b hb=>?_,fun j hj=>?_,fun i j x y hi hj ax hx hy o hox=>?_⟩,hf,(hc k).trans hv,fun t u ht=>?_⟩
 · rw [rm]; exact hf i
 · rw [Xa];rcases hb with hb | hb
   · have:=h.own b hb; omega
   · exact wS b hb
 · rw [pH] at hj
   by_cases lJ:j=k
   · subst lJ;rw [rR];refine ⟨v4,Ea,jg.xl lZ (by omega) RF (fun o e=>h5 o (by have:=(wS o e).1; have:=h.hlo; omega)) (fun b _ hb hq=>⟨⟨?_,hq.1.2⟩,h5 b hq.1.2⟩),fun o e=>.inr e⟩;rintro (dE | dE)
     · exact hq.1.1 dE
     · exact hq.2 dE
   · rw [sX (Ne.symm lJ)];obtain ⟨u,h1,h2,h3⟩:=h.row j hj;refine ⟨u,(rD j lJ).trans h1,?_,fun o e=>.inl (h3 o e)⟩;have Lr:=h.apart j k u v hj hk lJ h1 hv;refine jg.xl h2 (by omega) (fun s ds hs=>RF s ds (hn s ds hs)) (fun o e=>?_) (fun b af hb hq=>⟨⟨?_,hq.2⟩,?_⟩)
     · have vC:=h.own o (h3 o e);have hlo:=h.hlo;rw [h5 o (by omega)];exact rr hg o vC.2 (fun e2=>Lr o e e2.symm)
     · rintro (dE | dE)
       · exact hq.1 dE
       · rcases ho with ho | ⟨o,ho,hle⟩
         · rw [ho] at dE; exact hq.1 (uO b dE)
         · rw [ho] at dE; injection dE with dE; omega
     · rw [h5 b hq.2];exact rr hg b af (fun e2=>hq.1 (uO b e2.symm))
 · rw [pH] at hi hj;have key:∀ o,v4.ownBlock=some o->∀ j,j < ls.length->j ≠ k->∀ y,W.cell? ⟨R,j,none⟩=some y->y.ownBlock ≠ some o:=fun o e j hj lJ y hy e2=>by
    obtain ⟨u,h1,-,h3⟩:=h.row j hj;rw [hy] at h1;injection h1 with h1
    subst h1;rcases ho with ho | ⟨o',ho,hle⟩
    · rw [ho] at e;exact h.apart j k y v hj hk lJ hy hv o e2 e
    · rw [ho] at e;injection e with e
      have:=(h.own o (h3 o e2)).2;omega
   by_cases nG:i=k
   · subst nG;rw [Ea] at hx;injection hx with hx
     subst hx;rw [rD j (Ne.symm ax)] at hy;exact key o hox j hj (Ne.symm ax) y hy
   · rw [rD i nG] at hx
     by_cases lJ:j=k
     · subst lJ;rw [Ea] at hy;injection hy with hy
       subst hy;exact fun e=>key o e i hi nG x hx hox
     · rw [rD j lJ] at hy;exact h.apart i j x y hi hj ax hx hy o hox
 · refine PlV.zd (by omega) (fun s ds hs=>RF s ds (hn s ds hs)) (fun b af hq=>⟨⟨?_,hq.2⟩,?_⟩) ht
   · rintro (dE | dE)
     · exact hq.1 dE
     · rcases ho with ho | ⟨o,ho,hle⟩
       · rw [ho] at dE; exact hq.1 (uO b dE)
       · rw [ho] at dE; injection dE with dE; omega
   · rw [h5 b hq.2];exact rr hg b af (fun e2=>hq.1 (uO b e2.symm))
theorem jg.self {base:Nat} {q:Nat->Prop} {W:World} {v:Value} {l:List Pl} (h:jg base q W v l):jg base (fun b=>q b/\v.ownBlock ≠ some b) W v l:=by
 obtain ⟨rs,e,h2,h3⟩:=h;exact ⟨rs,e,h2,fun r hr=>⟨(h3 r hr).1,(h3 r hr).2.mono fun b hb=>⟨hb.1,hb.2,hb.1⟩⟩⟩
theorem qx.push {lo:Nat} {W:World} {R:Nat} {ls:List (List Pl)} {Own:Nat->Prop} (h:qx lo W R ls Own) (hlw:lo<=W.heap.size) (k:Nat) (hk:k < ls.length):∃ PA pc,W.cell? ⟨R,k,none⟩=some (.slice PA ls[k].length pc)/\ls[k].length<=pc/\pc<=9223372036854775807 /\
 ∀ (x:Pl) (A0 A1:Option Addr) (n0 c0 n1 c1:Nat),PlV W (fun b=>¬ Own b/\b ≠ R) x (plV x (.slice A0 n0 c0) (.slice A1 n1 c1))->ls[k].length+1<=1000000000->∃ B d w4 Own',(Builtin.append_ #[31,31] 31 #[.slice PA ls[k].length pc,.slice (some ⟨W.heap.size,0,none⟩) 1 1]).run Tryz.prog (W.alloc (.cells #[.int .i64 x.lv,.bool x.neg,.slice A0 n0 c0,.slice A1 n1 c1] 33))=.ok (.slice (some ⟨B,0,none⟩) (ls[k].length+1) d) w4 /\
   qx lo (w4.setCell ⟨R,k,none⟩ (.slice (some ⟨B,0,none⟩) (ls[k].length+1) d)) R (ls.set k (ls[k] ++ [x])) Own'/\(∀ i,w4.frozen? ⟨R,i,none⟩=false)/\w4.cell? ⟨R,k,none⟩=some (.slice PA ls[k].length pc) /\
   (∀ t u,PlV W (fun b=>¬ Own b/\b ≠ R) t u->PlV (w4.setCell ⟨R,k,none⟩ (.slice (some ⟨B,0,none⟩) (ls[k].length+1) d)) (fun b=>¬ Own' b/\b ≠ R) t u)/\(∀ V,Ext V W->V.heap.size<=R->Ext V (w4.setCell ⟨R,k,none⟩ (.slice (some ⟨B,0,none⟩) (ls[k].length+1) d)))/\ls[k].length+1<=d/\d<=9223372036854775807/\W.heap.size<=w4.heap.size/\∀ b,b ≠ R->b < lo->(w4.setCell ⟨R,k,none⟩ (.slice (some ⟨B,0,none⟩) (ls[k].length+1) d)).heap[b]?=W.heap[b]?:=by
 obtain ⟨v,hv,hq,uO⟩:=h.row k hk;obtain ⟨PA,pc,rfl,pW,wR⟩:=hq.len;refine ⟨PA,pc,hv,pW,wR,fun x A0 A1 n0 c0 n1 c1 hx hlen=>?_⟩;have af:=h.lt;have hlo:=h.hlo;obtain ⟨v4,w4,ak,g4,n4,r4,o4⟩:=hq.push (by omega) (hx.mono fun b hb=>⟨fun e=>hb.1 (uO b e),hb⟩) hlen 31;obtain ⟨QA,d,e4,eH,uF⟩:=r4.len;rw [ra] at e4 eH;have e4':v4=.slice QA (ls[k].length+1) d:=e4;subst e4';obtain ⟨p1,p2,p3,p4⟩:=h.put k hk hv g4 n4 r4 (o4.imp id fun e=>⟨_,e,by omega⟩) r4.self;obtain ⟨rs,-,jS,-⟩:=id r4;have hB:∃ B,QA=some ⟨B,0,none⟩:=by
  obtain ⟨g,c,e,-⟩:=yl.pos jS (by
   have:=jS.len;obtain ⟨A',c',e',-⟩:=this;injection e' with _ e' _
   omega)
  injection e with e
  exact ⟨g,e⟩
 obtain ⟨B,rfl⟩:=hB;refine ⟨B,d,w4,_,ak,p1,p2,p3,p4,fun V eQ hVR=>?_,eH,uF,g4.size,fun b hb xA=>?_⟩
 · have h1:Ext V w4:=gax eQ g4 (fun o ho=>by have:=(h.own o (uO o ho)).1; omega);exact h1.setCell hVR _
 · rw [Below.heap_setCell _ _ _ b hb];exact rr g4 b (by omega) (fun e=>by have:=(h.own b (uO b e.symm)).1; omega)
theorem qx.setAt {lo : Nat} {W : World} {R : Nat} {ls : List (List Pl)} {Own : Nat -> Prop} (h : qx lo W R ls Own) (k : Nat) (hk : k < ls.length) {g c m : Nat} (hv : W.cell? ⟨R, k, none⟩ = some (.slice (some ⟨g, 0, none⟩) m c)) (j : Nat) (hj : j < ls[k].length) (x : Pl) {A0 A1 : Option Addr} {n0 c0 n1 c1 : Nat}
 (hx:PlV W (fun b=>¬ Own b/\b ≠ R) x (plV x (.slice A0 n0 c0) (.slice A1 n1 c1))) :
 qx lo ((((W.setCell ⟨g,j * 4,none⟩ (.int .i64 x.lv)).setCell ⟨g,j * 4+1,none⟩ (.bool x.neg)).setCell ⟨g,j * 4+2,none⟩ (.slice A0 n0 c0)).setCell ⟨g,j * 4+3,none⟩ (.slice A1 n1 c1)) R (ls.set k (ls[k].set j x)) Own /\
 (∀ i,W.frozen? ⟨g,i,none⟩=false)/\(∃ u0 u1 u2 u3,W.cell? ⟨g,j * 4,none⟩=some u0/\W.cell? ⟨g,j * 4+1,none⟩=some u1/\W.cell? ⟨g,j * 4+2,none⟩=some u2/\W.cell? ⟨g,j * 4+3,none⟩=some u3)/\lo<=g:=by
 obtain ⟨v,WV,hq,uO⟩:=h.row k hk;rw [hv] at WV;injection WV with WV
 subst WV;obtain ⟨QA,d,e4,-⟩:=hq.len;have hm:m=ls[k].length:=by injection e4
 subst hm;have mP:=uO g rfl;have Ig:=h.own g mP;obtain ⟨aU,au⟩:=hq.xD j hj x (hx.mono fun b hb=>⟨fun e=>hb.1 (e ▸ mP),hb⟩);obtain ⟨rs,JQ,jS,-⟩:=id hq;have wP:rs.length=ls[k].length:=by rw [<- JQ,px]
 rw [wP] at jS;obtain ⟨W',bJ⟩:=n_m (((((W.setCell ⟨g,j * 4,none⟩ (.int .i64 x.lv)).setCell ⟨g,j * 4+1,none⟩ (.bool x.neg)).setCell ⟨g,j * 4+2,none⟩ (.slice A0 n0 c0)).setCell ⟨g,j * 4+3,none⟩ (.slice A1 n1 c1)));have cO:∀ b,b ≠ g->W'.heap[b]?=W.heap[b]?:=fun b hb=>by
  rw [<- bJ,Below.heap_setCell _ _ _ b hb,Below.heap_setCell _ _ _ b hb,Below.heap_setCell _ _ _ b hb,Below.heap_setCell _ _ _ b hb]
 have hsz:W'.heap.size=W.heap.size:=by rw [<- bJ]; simp [World.setCell]
 have bG:∀ a,W'.frozen? a=W.frozen? a:=fun a=>by rw [<- bJ]; simp only [rm]
 rw [bJ] at aU au ⊢;have hRg:R ≠ g:=by have:=h.hlo; omega
 have hc:∀ i,W'.cell? ⟨R,i,none⟩=W.cell? ⟨R,i,none⟩:=fun i=>pB (a:=⟨R,i,none⟩) (cO R hRg)
 have hlf:(uo rs).length=ls[k].length * 4:=by rw [jaa,wP]
 have xI:∀ i,i < 4->∃ u,W.cell? ⟨g,j * 4+i,none⟩=some u:=fun i hi=>by
  rw [jS.cell (j * 4+i) (by omega),po (by omega)];exact ⟨_,rfl⟩
 obtain ⟨u0,c0'⟩:=xI 0 (by omega);obtain ⟨u1,c1'⟩:=xI 1 (by omega);obtain ⟨u2,c2'⟩:=xI 2 (by omega);obtain ⟨u3,c3'⟩:=xI 3 (by omega);refine ⟨⟨by rw [hsz]; exact h.lt,h.hlo,fun i=>by rw [bG]; exact h.fr i,fun b hb=>by rw [hsz]; exact h.own b hb,fun i hi=>?_,fun a b y z ha hb ax hy hz=>?_⟩,fun i=>World.ownsRow.frozenAt jS.1 i,⟨u0,u1,u2,u3,c0',c1',c2',c3'⟩,by omega⟩
 · rw [pH] at hi
   by_cases nG:i=k
   · subst nG;rw [rR];exact ⟨_,(hc i).trans hv,by rw [pH] at *; exact aU,uO⟩
   · rw [sX (Ne.symm nG)];obtain ⟨u,h1,h2,h3⟩:=h.row i hi;have Lr:=h.apart i k u _ hi hk nG h1 hv;refine ⟨u,(hc i).trans h1,jg.xl h2 (by omega) au (fun o e=>cO o (fun e2=>Lr o e (by rw [e2]; rfl))) (fun b _ _ qM=>⟨qM,cO b (fun e2=>qM.1 (by rw [e2]; exact mP))⟩),h3⟩
 · rw [pH] at ha hb;rw [hc] at hy hz;exact h.apart a b y z ha hb ax hy hz
set_option maxRecDepth 100000
set_option maxHeartbeats 8000000
theorem qx.qaK {lo : Nat} {W : World} {R : Nat} {ls : List (List Pl)} {Own : Nat -> Prop} (h : qx lo W R ls Own) (hlw : lo <= W.heap.size) (k : Nat) (hk : k < ls.length) {PA : Option Addr} {ln pc : Nat} (ae : W.cell? ⟨R, k, none⟩ = some (.slice PA ln pc)) (jQ : ls[k].length = ln)
 (ad:Addr) (x:Pl) (A0 A1:Option Addr) (n0 c0 n1 c1:Nat) (hz:zx W ad Pl.zero (.slice none 0 0) (.slice none 0 0)) (hx:PlV W (fun b=>¬ Own b/\b ≠ R) x (plV x (.slice A0 n0 c0) (.slice A1 n1 c1))) (hlen:ln+1<=1000000000) :
 ∃ B d w4 Own',(Builtin.append_ #[31,31] 31 #[.slice PA ln pc,.slice (some ad) 1 1]).run Tryz.prog W=.ok (.slice (some ⟨B,0,none⟩) (ln+1) d) w4/\(∀ i,w4.frozen? ⟨R,i,none⟩=false)/\w4.cell? ⟨R,k,none⟩=some (.slice PA ln pc)/\(∀ b,b ≠ R->b < lo->w4.heap[b]?=W.heap[b]?)/\lo<=B /\
   (∀ i,(w4.setCell ⟨R,k,none⟩ (.slice (some ⟨B,0,none⟩) (ln+1) d)).frozen? ⟨B,i,none⟩=false) /\
   (∃ u0 u1 u2 u3,(w4.setCell ⟨R,k,none⟩ (.slice (some ⟨B,0,none⟩) (ln+1) d)).cell? ⟨B,ln * 4,none⟩=some u0/\(w4.setCell ⟨R,k,none⟩ (.slice (some ⟨B,0,none⟩) (ln+1) d)).cell? ⟨B,ln * 4+1,none⟩=some u1/\(w4.setCell ⟨R,k,none⟩ (.slice (some ⟨B,0,none⟩) (ln+1) d)).cell? ⟨B,ln * 4+2,none⟩=some u2/\(w4.setCell ⟨R,k,none⟩ (.slice (some ⟨B,0,none⟩) (ln+1) d)).cell? ⟨B,ln * 4+3,none⟩=some u3) /\
   ∀ w8,w8=(((((w4.setCell ⟨R,k,none⟩ (.slice (some ⟨B,0,none⟩) (ln+1) d)).setCell ⟨B,ln * 4,none⟩ (.int .i64 x.lv)).setCell ⟨B,ln * 4+1,none⟩ (.bool x.neg)).setCell ⟨B,ln * 4+2,none⟩ (.slice A0 n0 c0)).setCell ⟨B,ln * 4+3,none⟩ (.slice A1 n1 c1)) ->
     qx lo w8 R (ls.set k (ls[k] ++ [x])) Own'/\(∀ V,Ext V W->V.heap.size<=R->Ext V w8)/\W.heap.size<=w8.heap.size/\∀ b,b ≠ R->b < lo->w8.heap[b]?=W.heap[b]?:=by
 obtain ⟨v,hv,hq,uO⟩:=h.row k hk;rw [ae] at hv;injection hv with hv
 subst hv;have af:=h.lt;have hlo:=h.hlo;obtain ⟨v4,w4,ak,g4,n4,r4,o4⟩:=hq.append_ (ad:=ad) (by omega) [(Pl.zero,.slice none 0 0,.slice none 0 0)] (by
  intro r hr;obtain rfl:=pD.1 hr;exact ⟨⟨none,0,0,none,0,0,rfl⟩,Pl.xt W _ none 0 (by omega)⟩) (by
  intro i hi;obtain rfl:i=0:=by simpa using hi
  rw [sY,show ad.add 0=ad from by simp [Addr.add]]
  exact hz) (by simp) (by simp; omega) 1 31
 obtain ⟨QA,d,e4,eH,uF⟩:=r4.len;have qO:(ls[k] ++ [((Pl.zero,Value.slice none 0 0,Value.slice none 0 0):Pl × Value × Value)].map (fun r=>r.1)).length=ln+1:=by simp [jQ]
 rw [qO] at e4 eH;subst e4;have Zf:jg lo (fun b=>¬ Own b/\b ≠ R) w4 (.slice QA (ln+1) d) (ls[k] ++ [Pl.zero]):=r4;obtain ⟨p1,p2,p3,p4⟩:=h.put k hk ae g4 n4 Zf (o4.imp id fun e=>⟨_,e,pj _⟩) Zf.self;obtain ⟨rs,JQ,jS,-⟩:=id Zf;have wP:rs.length=ln+1:=by rw [<- px (f:=fun r=>r.1),JQ]; simp [jQ]
 have hB:∃ B,QA=some ⟨B,0,none⟩:=by
  obtain ⟨g,c,e,-⟩:=yl.pos jS (by omega);injection e with e
  exact ⟨g,e⟩
 obtain ⟨B,rfl⟩:=hB;have hc7:(w4.setCell ⟨R,k,none⟩ (.slice (some ⟨B,0,none⟩) (ln+1) d)).cell? ⟨R,k,none⟩=some (.slice (some ⟨B,0,none⟩) (ln+1) d):=pN _ _ _ p3;have hk2:k < (ls.set k (ls[k] ++ [Pl.zero])).length:=by rw [pH]; exact hk
 have Tq:(ls.set k (ls[k] ++ [Pl.zero]))[k]'hk2=ls[k] ++ [Pl.zero]:=rR _;obtain ⟨q1,q2,q3,q4⟩:=p1.setAt k hk2 hc7 ln (by rw [Tq]; simp [jQ]) x (p4 _ _ hx);have aS:(ls.set k (ls[k] ++ [Pl.zero])).set k (((ls.set k (ls[k] ++ [Pl.zero]))[k]'hk2).set ln x)=ls.set k (ls[k] ++ [x]):=by
  rw [Tq,List.set_set]
  congr 1
  rw [ti _ _ (by omega),jQ,Ps]; rfl
 rw [aS] at q1;have hblk:∀ b,b ≠ R->b < lo->w4.heap[b]?=W.heap[b]?:=fun b hb xA=>rr g4 b (by omega) (fun e=>by have:=(h.own b (uO b e.symm)).1; omega)
 refine ⟨B,d,w4,fun b=>Own b\/(Value.slice (some ⟨B,0,none⟩) (ln+1) d).ownBlock=some b,ak,p2,p3,hblk,q4,q2,q3,fun w8 Oa=>?_⟩;rw [<- Oa] at q1;refine ⟨q1,fun V eQ hVR=>?_,?_,fun b hb xA=>?_⟩
 · have h1:Ext V w4:=gax eQ g4 (fun o ho=>by have:=(h.own o (uO o ho)).1; omega);rw [Oa];exact ((((h1.setCell hVR _).setCell (show V.heap.size<=B by omega) _).setCell (show V.heap.size<=B by omega) _).setCell (show V.heap.size<=B by omega) _).setCell (show V.heap.size<=B by omega) _
 · have:=g4.size;rw [Oa]; simp [World.setCell]; omega
 · have Lm:b ≠ B:=by omega
   rw [Oa,Below.heap_setCell _ _ _ b Lm,Below.heap_setCell _ _ _ b Lm,Below.heap_setCell _ _ _ b Lm,Below.heap_setCell _ _ _ b Lm,Below.heap_setCell _ _ _ b hb];exact hblk b hb xA
end Go.Proofs.YtcepajijiabkmaaGreat
