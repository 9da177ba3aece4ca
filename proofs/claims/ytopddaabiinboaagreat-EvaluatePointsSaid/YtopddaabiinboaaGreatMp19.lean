/- Plain: the coefficients of a polynomial in one variable: levels, sizes, degrees. -/
import Derived.Test.YtopddaabiinboaaGreatMp18
import Derived.Test.YtopddaabiinboaaGreatMp17
import Derived.Test.YtopddaabiinboaaGreatMp16
import Derived.Test.YtopddaabiinboaaGreatMp10
import Derived.Deep.CutBlock
import Derived.Test.YtopddaabiinboaaGreatMp13
set_option linter.unusedSimpArgs false
set_option linter.unusedVariables false

namespace Go.Proofs.YtopddaabiinboaaGreat
def Low (n:Int) (p:Pl):Prop:=∀ ρ ρ':Int->Rat,(∀ j,j<=n->ρ j=ρ' j)->p.val ρ=p.val ρ'
theorem Low.indep {n l:Int} {p:Pl} (h:Low n p) (hl:n < l):vdb l p:=fun ρ ρ' he=>h ρ ρ' fun j hj=>he j (by omega)
theorem Low.mono {n m:Int} {p:Pl} (h:Low n p) (hm:n<=m):Low m p:=fun ρ ρ' he=>h ρ ρ' fun j hj=>he j (by omega)
theorem Low.nf {n:Int} {p:Pl} (h:Low n p):Low n p.nf:=fun ρ ρ' he=>by rw [Pl.nf_val,Pl.nf_val]; exact h ρ ρ' he
theorem whm {p:Pl} (h:p.Can):Low p.lv p:=fun _ _ he=>p.val_low h he
theorem yg8 (n:Int):Low n Pl.zero:=fun ρ ρ' _=>by rw [Pl.zero_val,Pl.zero_val]
theorem kic {l:Int} {ng:Bool} {ds:List Nat} {cs:List Pl} (h:(Pl.mk l ng ds cs).Can) (hl:0 < l):gg1 l (.mk l ng ds cs) cs:=by
 obtain ⟨-,-,h2,hk,h5⟩:=h.kids hl;exact ⟨fun c hc=>(hk.mem c hc).2,fun c hc=>ygw (hk.mem c hc).2 (hk.mem c hc).1,fun ρ=>(Pl.mk_val ρ _ _ _ hl h.lv_nonneg.2).symm,h5⟩
theorem kh4 {l:Int} {p:Pl} (h:p.Can) (hp:p ≠ Pl.zero) (hi:vdb l p):gg1 l p [p]:=by
 refine ⟨fun c hc=>?_,fun c hc=>?_,fun ρ=>?_,?_⟩
 · rw [List.mem_singleton.1 hc]; exact h
 · rw [List.mem_singleton.1 hc]; exact hi
 · rw [zc3,zc3]; grind
 · intro e; injection e with e; exact hp e
theorem xia {p:Pl} (h:p=Pl.zero):p.lv=0:=by rw [h]; rfl
theorem gis {l:Int} (hl:0 < l) {p:Pl} (h:p.Can) (hi:vdb l p):p.lv ≠ l:=by
 intro e;have hp:p ≠ Pl.zero:=fun e'=>by have:=xia e'; omega
 cases p with
 | mk lv ng ds cs =>
   have e':lv=l:=e;subst e';have h1:=(kic h hl).uniq (kh4 h hp hi);obtain ⟨-,-,h2,-⟩:=h.kids hl;rw [h1] at h2;simp at h2
theorem vi8 {n:Int} (hn:0<=n) {p:Pl} (h:p.Can) (hl:Low n p):p.lv<=n:=by
 by_cases h1:p.lv<=n
 · exact h1
 · exact absurd rfl (gis (l:=p.lv) (by omega) h (hl.indep (by omega)))
theorem Pl.cfs_low {l : Int} {n : Nat} : ∀ p : Pl, p.Can -> ∀ c ∈ p.cfs l n, Low p.lv c
 | .mk lv ng ds cs,h,c,hc=>by
   have h4:=h.lv_nonneg;simp only [Pl.lv] at h4 ⊢;rw [Pl.cfs] at hc
   by_cases h0:lv<=0
   · by_cases h1:lv < l
     · rw [if_pos h1] at hc;rcases qgs _ _ _ hc with rfl | hc
       · exact yg8 _
       · rw [List.mem_singleton.1 hc]; exact whm h
     · rw [if_neg h1] at hc;have hcs:cs=[]:=by
        rw [Pl.Can] at h;rcases h with h | h
        · exact h.2.1
        · omega
       subst hcs
       split at hc
       · rcases qgs _ _ _ hc with rfl | hc
         · exact yg8 _
         · cases hc
       · obtain ⟨i,hi,rfl⟩:=List.mem_map.1 hc;intro ρ ρ' _;rw [gdj,Pl.val,Pl.val,if_pos h0,if_pos h0]
   · obtain ⟨-,-,h2,hk,-⟩:=h.kids (by omega)
     by_cases h1:lv < l
     · rw [if_pos h1] at hc;rcases qgs _ _ _ hc with rfl | hc
       · exact yg8 _
       · rw [List.mem_singleton.1 hc]; exact whm h
     · rw [if_neg h1] at hc
       by_cases h3:lv=l
       · rw [if_pos h3] at hc;rcases qgs _ _ _ hc with rfl | hc
         · exact yg8 _
         · exact (whm (hk.mem c hc).2).mono (by have:=(hk.mem c hc).1; omega)
       · rw [if_neg h3] at hc;obtain ⟨i,hi,rfl⟩:=List.mem_map.1 hc;rw [zg4];intro ρ ρ' he;rw [Pl.mk_val ρ _ _ _ (by omega) h4.2,Pl.mk_val ρ' _ _ _ (by omega) h4.2];refine kgu (he lv (Int.le_refl _)) _ fun d hd=>?_
         obtain ⟨c,hc,rfl⟩:=List.mem_map.1 hd;have hlen:=c.cfs_len l n;have hi':=List.mem_range.1 hi;rw [List.getD_eq_getElem?_getD,List.getElem?_eq_getElem (by omega)];exact Pl.cfs_low c (hk.mem c hc).2 _ (List.getElem_mem _) ρ ρ' fun j hj=>he j (by have:=(hk.mem c hc).1; omega)
theorem qhz {l:Int} {n i:Nat} (p:Pl) (hi:i<=n):(p.cfs l n).getD i Pl.zero ∈ p.cfs l n:=by
 have:=p.cfs_len l n;rw [List.getD_eq_getElem?_getD,List.getElem?_eq_getElem (by omega)];exact List.getElem_mem _
theorem uic {l lv:Int} {n i:Nat} {c:Pl} (hc:c.Can) (hl:c.lv < lv) (hi:i<=n):((c.cfs l n).getD i Pl.zero).nf.lv < lv:=by
 have:=vi8 hc.lv_nonneg.1 (Pl.nf_can _) (Pl.cfs_low c hc _ (qhz (l:=l) c hi)).nf;omega
theorem Pl.ex_self : ∀ p : Pl, p.ex p.sz
 | .mk l n d cs=>by
   rw [Pl.ex]
   by_cases h:l<=0
   · exact .inl h
   · refine .inr ⟨?_,jhm fun c hc=>?_⟩
     · have:=ude cs;rw [Pl.sz];omega
     · exact Pl.ex_mono (Nat.le_of_lt (Pl.sz_kid (p:=.mk l n d cs) hc)) c (Pl.ex_self c)
theorem xhp (l : Int) : ∀ (cs : List Pl) (a : Int), a < jc7 l a cs -> ∃ c ∈ cs, c.dgL l = jc7 l a cs
 | [],a,h=>by rw [jc7] at h; omega
 | c :: r,a,h=>by
   rw [jc7] at h ⊢
   by_cases h1:max a (c.dgL l) < jc7 l (max a (c.dgL l)) r
   · obtain ⟨d,hd,e⟩:=xhp l r _ h1;exact ⟨d,by simp [hd],e⟩
   · have:=ug7 l r (max a (c.dgL l));exact ⟨c,by simp,by omega⟩
theorem Pl.cfs_top {l : Int} (hl : 1 <= l) : ∀ (p : Pl) (n : Nat), p.Can -> p ≠ Pl.zero -> p.dgL l = n -> ¬ ∀ ρ, ((p.cfs l n).getD n Pl.zero).val ρ = 0
 | .mk lv ng ds cs,n,h,hp,hd=>by
   have h4:=h.lv_nonneg;simp only [Pl.lv] at h4;rw [Pl.dgL] at hd
   by_cases h1:lv < l
   · rw [if_pos h1] at hd;obtain rfl:n=0:=by omega
     rw [Pl.cfs,if_pos h1,qdg,List.getD_cons_zero];exact fun hz=>hp (Pl.zero_of_val h hz)
   · obtain ⟨-,-,h2,hk,h5⟩:=h.kids (by omega);rw [if_neg h1] at hd
     by_cases h3:lv=l
     · rw [if_pos h3] at hd;rw [Pl.cfs,if_neg h1,if_pos h3,zhh n cs n (Nat.le_refl _)];have hne:=vg8 h5 (by rintro rfl; simp at h2);rw [show cs.length - 1=n by omega] at hne;refine fun hz=>hne (Pl.zero_of_val ?_ hz)
       rw [List.getD_eq_getElem?_getD,List.getElem?_eq_getElem (by omega)];exact (hk.mem _ (List.getElem_mem _)).2
     · rw [if_neg h3] at hd;obtain ⟨c,hc,hcz,hcd⟩:∃ c ∈ cs,c ≠ Pl.zero/\c.dgL l=n:=by
        by_cases hn:n=0
        · subst hn;have hne:=vg8 h5 (by rintro rfl; simp at h2);have hm:cs.getD (cs.length - 1) Pl.zero ∈ cs:=by
           rw [List.getD_eq_getElem?_getD,List.getElem?_eq_getElem (by omega)];exact List.getElem_mem _
          refine ⟨_,hm,hne,?_⟩;have a:=ugv l cs 0 _ hm;have b:=Pl.dgL_bd hl _ (hk.mem _ hm).2 (Pl.ex_self _);omega
        · obtain ⟨c,hc,e⟩:=xhp l cs 0 (by omega);refine ⟨c,hc,fun e'=>?_,by omega⟩;rw [e'] at e;have:Pl.zero.dgL l=0:=by unfold Pl.zero; rw [Pl.dgL,if_pos (by omega)]
          omega
       rw [Pl.cfs_get l n lv ng ds cs (by omega) (Nat.le_refl _),zg4];intro hz;refine Pl.cfs_top hl c n (hk.mem c hc).2 hcz hcd ?_;have hall:=xih (l:=lv) (by omega) h4.2 (ks:=(cs.map fun c=>(c.cfs l n).getD n Pl.zero).map Pl.nf) (fun d hd=>by
        rw [List.map_map] at hd;obtain ⟨c,hc,rfl⟩:=List.mem_map.1 hd
        exact ⟨Pl.nf_can _,uic (hk.mem c hc).2 (hk.mem c hc).1 (Nat.le_refl _)⟩) (fun ρ=>by rw [jhv,<- Pl.mk_val ρ false [] _ (by omega:0 < lv) h4.2]; exact hz ρ)
       intro ρ;have:=hall _ (List.mem_map.2 ⟨_,List.mem_map.2 ⟨c,hc,rfl⟩,rfl⟩);rw [<- Pl.nf_val,this,Pl.zero_val]
theorem Pl.cfL_of {l:Int} (hl:1<=l) (hl4:l<=4) {p:Pl} (hc:p.Can) (hp:p ≠ Pl.zero):p.cfL l=(p.cfs l (p.dgL l).toNat).map Pl.nf:=by rw [Pl.cfL,if_neg (by rw [Pl.zero_isZ hc]; exact hp),if_pos ⟨hl,hl4⟩]
theorem Pl.cfL_len {l:Int} (hl:1<=l) (hl4:l<=4) {p:Pl} (hc:p.Can) (hp:p ≠ Pl.zero):(p.cfL l).length=(p.dgL l).toNat+1:=by rw [Pl.cfL_of hl hl4 hc hp,List.length_map,Pl.cfs_len]
theorem Pl.cfL_zero (l:Int):Pl.zero.cfL l=[]:=by rw [Pl.cfL,if_pos (by decide)]
theorem Pl.cfL_coefs {l:Int} (hl:1<=l) (hl4:l<=4) {p:Pl} (h:p.Can):gg1 l p (p.cfL l):=by
 by_cases hp:p=Pl.zero
 · subst hp;rw [Pl.cfL_zero];exact { can:=fun c hc=>(by cases hc),ind:=fun c hc=>(by cases hc),val:=fun ρ=>(by rw [zc3,Pl.zero_val]),last:=(by simp) }
 · have hd:=Pl.dgL_bd hl p h p.ex_self;rw [Pl.cfL_of hl hl4 h hp];refine ⟨fun c hc=>?_,fun c hc=>?_,fun ρ=>?_,fun e=>?_⟩
   · obtain ⟨d,-,rfl⟩:=List.mem_map.1 hc;exact d.nf_can
   · obtain ⟨d,hd',rfl⟩:=List.mem_map.1 hc;exact (Pl.cfs_indep hl p h d hd').nf
   · rw [jhv,Pl.cfs_val hl p h (Int.self_le_toNat _)]
   · have hlen:=p.cfs_len l (p.dgL l).toNat;refine Pl.cfs_top hl p (p.dgL l).toNat h hp (by omega) fun ρ=>?_
     rw [List.getLast?_eq_getElem?,List.getElem?_map,List.length_map,hlen,Nat.add_sub_cancel] at e;rw [List.getD_eq_getElem?_getD];rw [List.getElem?_eq_getElem (by omega)] at e ⊢;simp only [Option.map_some,Option.some.injEq,Option.getD_some] at e ⊢;rw [<- Pl.nf_val,e,Pl.zero_val]
end Go.Proofs.YtopddaabiinboaaGreat

/- Plain: mainvar.Join, Lead, Reductum, Coef, Degree, Derivative. -/
namespace Go.Proofs.YtopddaabiinboaaGreat
def mdg (l:Int) (p:Pl):Int:=((p.cfL l).length:Int) - 1
theorem ji8 {l:Int} {p:Pl} (h:p.Can):mdg l p=if p.isZ=true then -1 else if 1<=l/\l<=4 then p.dgL l else 0:=by
 unfold mdg
 by_cases hz:p.isZ=true
 · rw [if_pos hz,Pl.cfL,if_pos hz]; rfl
 · rw [if_neg hz]
   by_cases hl:1<=l/\l<=4
   · have hd:=Pl.dgL_bd hl.1 p h p.ex_self;rw [if_pos hl,Pl.cfL_len hl.1 hl.2 h (fun e=>hz ((Pl.zero_isZ h).2 e))];omega
   · rw [if_neg hl,Pl.cfL,if_neg hz,if_neg hl]; rfl
end Go.Proofs.YtopddaabiinboaaGreat

/- Layer 22: recpoly.mul where the levels differ, or both are 0. -/
set_option maxRecDepth 100000
set_option maxHeartbeats 8000000
namespace Go.Proofs.YtopddaabiinboaaGreat
open Go.RowKit
theorem yc3.set {W:World} {g:Nat} {p q:Pl} {s A s' A':Value} (h:yc3 W g p s A) :
 yc3 ((((W.setCell ⟨g,0,none⟩ (.int .i64 q.lv)).setCell ⟨g,1,none⟩ (.bool q.neg)).setCell ⟨g,2,none⟩ s').setCell ⟨g,3,none⟩ A') g q s' A':=by
 obtain ⟨h0,h1,h2,h3⟩:=h;have e:∀ (W:World) (i j:Nat) (v:Value),i ≠ j->(W.setCell ⟨g,j,none⟩ v).cell? ⟨g,i,none⟩=W.cell? ⟨g,i,none⟩:=fun W i j v hij=>World.cell?_setCell_other _ _ _ _ (by intro e; injection e; omega)
 refine ⟨?_,?_,?_,?_⟩
 · rw [e _ 0 3 _ (by omega),e _ 0 2 _ (by omega),e _ 0 1 _ (by omega)];exact World.cell?_setCell_same _ _ _ h0
 · rw [e _ 1 3 _ (by omega),e _ 1 2 _ (by omega)];exact World.cell?_setCell_same _ _ _ ((e _ 1 0 _ (by omega)).trans h1)
 · rw [e _ 2 3 _ (by omega)];exact World.cell?_setCell_same _ _ _ ((e _ 2 1 _ (by omega)).trans ((e _ 2 0 _ (by omega)).trans h2))
 · exact World.cell?_setCell_same _ _ _ ((e _ 3 2 _ (by omega)).trans ((e _ 3 1 _ (by omega)).trans ((e _ 3 0 _ (by omega)).trans h3)))
theorem xde (W:World) (g:Nat) (a b c d:Value) (k:Nat) (h:k ≠ g):((((W.setCell ⟨g,0,none⟩ a).setCell ⟨g,1,none⟩ b).setCell ⟨g,2,none⟩ c).setCell ⟨g,3,none⟩ d).heap[k]?=W.heap[k]?:=by
 rw [Below.heap_setCell _ _ _ k h,Below.heap_setCell _ _ _ k h,Below.heap_setCell _ _ _ k h,Below.heap_setCell _ _ _ k h]
theorem yc3.nat_ {W:World} {g:Nat} {p:Pl} {A0 A1:Option Addr} {n0 c0 n1 c1:Nat} (h:yc3 W g p (.slice A0 n0 c0) (.slice A1 n1 c1)) (x y z u:Value) {v:Value} {ds:List Nat} (hv:vc2 W v ds) :
 vc2 ((((W.setCell ⟨g,0,none⟩ x).setCell ⟨g,1,none⟩ y).setCell ⟨g,2,none⟩ z).setCell ⟨g,3,none⟩ u) v ds:=by
 obtain ⟨h0,h1,h2,h3⟩:=h;refine (((hv.box h0 rfl _).box (u:=.bool p.neg) ?_ rfl _).box (u:=.slice A0 n0 c0) ?_ rfl _).box (u:=.slice A1 n1 c1) ?_ rfl _
 · rw [World.cell?_setCell_other _ _ _ _ (by simp)]; exact h1
 · rw [World.cell?_setCell_other _ _ _ _ (by simp),World.cell?_setCell_other _ _ _ _ (by simp)]; exact h2
 · rw [World.cell?_setCell_other _ _ _ _ (by simp),World.cell?_setCell_other _ _ _ _ (by simp),World.cell?_setCell_other _ _ _ _ (by simp)]; exact h3
theorem yc3.keep {W:World} {g:Nat} {p:Pl} {A0 A1:Option Addr} {n0 c0 n1 c1:Nat} (h:yc3 W g p (.slice A0 n0 c0) (.slice A1 n1 c1)) (x y z u:Value) {q q':Nat->Prop} {t:Pl} {v:Value} (ht:PlV W q t v) (hq:∀ b,b < W.heap.size->q b->b ≠ g/\q' b) :
 PlV ((((W.setCell ⟨g,0,none⟩ x).setCell ⟨g,1,none⟩ y).setCell ⟨g,2,none⟩ z).setCell ⟨g,3,none⟩ u) q' t v:=
 PlV.turn_ (by simp [World.setCell]) (fun _ _ hv=>h.nat_ x y z u hv) (fun b hlt hb=>⟨(hq b hlt hb).2,xde _ _ _ _ _ _ _ (hq b hlt hb).1⟩) ht
structure zg3 (w : World) (a b : Pl) (sa Aa sb Ab : Value) (wc : World) : Prop where
 ext:Ext w wc
 size:wc.heap.size=w.heap.size+1+1+1
 box:yc3 wc w.heap.size a sa Aa
 box':yc3 wc (w.heap.size+1) b sb Ab
 zero:yc5 wc (w.heap.size+1+1)
theorem zg3.swap {w W:World} {a b:Pl} {sa Aa sb Ab:Value} (h:zg3 w a b sa Aa sb Ab W) :
 zg3 w b a sb Ab sa Aa ((((((((W.setCell ⟨w.heap.size,0,none⟩ (.int .i64 b.lv)).setCell ⟨w.heap.size,1,none⟩ (.bool b.neg)).setCell ⟨w.heap.size,2,none⟩ sb).setCell ⟨w.heap.size,3,none⟩ Ab).setCell ⟨w.heap.size+1,0,none⟩ (.int .i64 a.lv)).setCell ⟨w.heap.size+1,1,none⟩ (.bool a.neg)).setCell ⟨w.heap.size+1,2,none⟩ sa).setCell ⟨w.heap.size+1,3,none⟩ Aa):=by
 obtain ⟨h1,h2,h3,h4,h5⟩:=h;obtain ⟨W1,hW1⟩:=n_m (((((W.setCell ⟨w.heap.size,0,none⟩ (.int .i64 b.lv)).setCell ⟨w.heap.size,1,none⟩ (.bool b.neg)).setCell ⟨w.heap.size,2,none⟩ sb).setCell ⟨w.heap.size,3,none⟩ Ab));rw [hW1];have k1:Ext w W1:=by
  rw [<- hW1];exact (((h1.setCell (Nat.le_refl _) _).setCell (Nat.le_refl _) _).setCell (Nat.le_refl _) _).setCell (Nat.le_refl _) _
 have kb:yc3 W1 w.heap.size b sb Ab:=by rw [<- hW1]; exact h3.set
 have kh:∀ k,k ≠ w.heap.size->W1.heap[k]?=W.heap[k]?:=fun k hk=>by rw [<- hW1]; exact xde _ _ _ _ _ _ k hk
 have kf:∀ a,W1.frozen? a=W.frozen? a:=fun a=>by rw [<- hW1]; simp only [World.frozen?_setCell]
 have ks:W1.heap.size=W.heap.size:=by rw [<- hW1]; simp [World.setCell]
 have kb':yc3 W1 (w.heap.size+1) b sb Ab:=h4.turn (kh _ (by omega));refine ⟨(((k1.setCell (by show w.heap.size<=w.heap.size+1; omega) _).setCell (by show w.heap.size<=w.heap.size+1; omega) _).setCell (by show w.heap.size<=w.heap.size+1; omega) _).setCell (by show w.heap.size<=w.heap.size+1; omega) _,by simp [World.setCell]; omega,kb.turn (xde _ _ _ _ _ _ _ (by omega)),kb'.set,?_⟩;have hh:((((W1.setCell ⟨w.heap.size+1,0,none⟩ (.int .i64 a.lv)).setCell ⟨w.heap.size+1,1,none⟩ (.bool a.neg)).setCell ⟨w.heap.size+1,2,none⟩ sa).setCell ⟨w.heap.size+1,3,none⟩ Aa).heap[w.heap.size+1+1]?=W.heap[w.heap.size+1+1]?:=(xde _ _ _ _ _ _ _ (by omega)).trans (kh _ (by omega));obtain ⟨⟨z0,z1,z2,z3⟩,zf⟩:=h5;refine ⟨⟨(World.cell?_of_block (a:=⟨w.heap.size+1+1,0,none⟩) hh).trans z0,(World.cell?_of_block (a:=⟨w.heap.size+1+1,1,none⟩) hh).trans z1,(World.cell?_of_block (a:=⟨w.heap.size+1+1,2,none⟩) hh).trans z2,(World.cell?_of_block (a:=⟨w.heap.size+1+1,3,none⟩) hh).trans z3⟩,fun i=>?_⟩;simp only [World.frozen?_setCell];rw [kf];exact zf i
structure jhc (w0 : World) (E L : Nat) (a b : Pl) (va vb : Value) : Prop where
 ca:a.Can
 cb:b.Can
 len:a.cs.length<=E
 dig:a.ds.length+b.ds.length<=L
 pa:PlV w0 (fun _=>True) a va
 pb:PlV w0 (fun _=>True) b vb
 ord:b.lv<=a.lv
 ne:a.lv=b.lv->a.lv=0
 ih:∀ k (hk:k < a.cs.length) x,PlV w0 (fun _=>True) a.cs[k] x->∀ W',Ext w0 W'->Calls Tryz.prog 26 #[x,vb] W' (vc4 (fun i=>W'.heap.size<=i) (a.cs[k].mul b) W')
theorem gi1 {w0 w : World} {E D F G : Nat} (p q : Pl) (v u : Value) (hp : Fit p E D) (hq : Fit q F G) (hE : E <= 1000000) (hF : F <= 1000000) (hD : D + G <= 35184372088000)
 (h:PlV w0 (fun _=>True) p v) (k:PlV w0 (fun _=>True) q u) (hx:Ext w0 w) (hne:p.lv=q.lv->p.lv=0)
 (ihp:∀ a ∈ p.cs,∀ x,PlV w0 (fun _=>True) a x->∀ W',Ext w0 W'->Calls Tryz.prog 26 #[x,u] W' (vc4 (fun i=>W'.heap.size<=i) (a.mul q) W'))
 (ihq:∀ a ∈ q.cs,∀ x,PlV w0 (fun _=>True) a x->∀ W',Ext w0 W'->Calls Tryz.prog 26 #[x,v] W' (vc4 (fun i=>W'.heap.size<=i) (a.mul p) W')) :
 Calls Tryz.prog 26 #[v,u] w (vc4 (fun i=>w.heap.size<=i) (p.mul q) w):=by
 have hlen:∀ (r:Pl) (E D:Nat),Fit r E D->r.cs.length<=E+1:=fun r E D hr=>by
  obtain ⟨l,n,d,cs⟩:=r
  by_cases hl:0 < l
  · exact hr.len hl
  · have:=hr.can;unfold Pl.Can at this;rcases this with h | h
    · simp [Pl.cs,h.2.1]
    · omega
 have hd1:=Nat.le_trans p.dm_ds hp.dm;have hd2:=Nat.le_trans q.dm_ds hq.dm;have HH:=Lib.hid h;have HK:=Lib.hid k;obtain ⟨A0,n0,c0,A,c,rfl,-,-,-,-⟩:=h.open_;obtain ⟨B0,m0,d0,B,d,rfl,-,-,-,-⟩:=k.open_;have HPQ:Hid (q.lv<=p.lv->jhc w0 1000001 35184372088000 p q (plV p (.slice A0 n0 c0) (.slice A p.cs.length c)) (plV q (.slice B0 m0 d0) (.slice B q.cs.length d))):=by
  have:q.lv<=p.lv->jhc w0 1000001 35184372088000 p q (plV p (.slice A0 n0 c0) (.slice A p.cs.length c)) (plV q (.slice B0 m0 d0) (.slice B q.cs.length d)):=fun hl =>
   ⟨hp.can,hq.can,by have:=hlen p E D hp; omega,by omega,HH.out,HK.out,hl,hne,fun k hk x hxv=>ihp _ (List.getElem_mem hk) x hxv⟩
  exact this
 have HQP:Hid (p.lv < q.lv->jhc w0 1000001 35184372088000 q p (plV q (.slice B0 m0 d0) (.slice B q.cs.length d)) (plV p (.slice A0 n0 c0) (.slice A p.cs.length c))):=by
  have:p.lv < q.lv->jhc w0 1000001 35184372088000 q p (plV q (.slice B0 m0 d0) (.slice B q.cs.length d)) (plV p (.slice A0 n0 c0) (.slice A p.cs.length c)):=fun hl =>
   ⟨hq.can,hp.can,by have:=hlen q F G hq; omega,by omega,HK.out,HH.out,by omega,fun e=>by omega,fun k hk x hxv=>ihq _ (List.getElem_mem hk) x hxv⟩
  exact this
 have HCM:=Lib.hid (Pl.mul_comm p q);have HX0:=Lib.hid hx;clear h k ihp ihq hne hlen hd1 hd2 hp hq hE hF hD hx HH HK;obtain ⟨W,hW⟩:=n_m (((w.alloc (.cells #[.int .i64 p.lv,.bool p.neg,.slice A0 n0 c0,.slice A p.cs.length c] 30)).alloc (.cells #[.int .i64 q.lv,.bool q.neg,.slice B0 m0 d0,.slice B q.cs.length d] 30)).alloc (.cells #[.int .i64 0,.bool false,.slice none 0 0,.slice none 0 0] 30));have hcut:zg3 w p q (.slice A0 n0 c0) (.slice A p.cs.length c) (.slice B0 m0 d0) (.slice B q.cs.length d) W:=by
  rw [<- hW];refine ⟨(((Ext.refl w).alloc _).alloc _).alloc _,by simp,(yc3.new w p _ _ _).ext (((Ext.refl _).alloc _).alloc _) (by simp),?_,?_⟩
  · have h1:=yc3.new (w.alloc (.cells #[.int .i64 p.lv,.bool p.neg,.slice A0 n0 c0,.slice A p.cs.length c] 30)) q (.slice B0 m0 d0) (.slice B q.cs.length d) 30;have h2:=h1.ext ((Ext.refl _).alloc (.cells #[.int .i64 0,.bool false,.slice none 0 0,.slice none 0 0] 30)) (by simp);simpa using h2
  · have h1:=yc5.new ((w.alloc (.cells #[.int .i64 p.lv,.bool p.neg,.slice A0 n0 c0,.slice A p.cs.length c] 30)).alloc (.cells #[.int .i64 q.lv,.bool q.neg,.slice B0 m0 d0,.slice B q.cs.length d] 30)) 30;simpa using h1
 have hf1:∀ i,W.frozen? ⟨w.heap.size,i,none⟩=false:=fun i=>by rw [<- hW]; simp [go_sem]
 have hf2:∀ i,W.frozen? ⟨w.heap.size+1,i,none⟩=false:=fun i=>by rw [<- hW]; simp [go_sem]
 have HCUT:=Lib.hid hcut;obtain ⟨b0,b1,b2,b3⟩:=hcut.box;obtain ⟨e0,e1,e2,e3⟩:=hcut.box';have hWs:=hcut.size;clear hcut;unfold plV;go_enter Tryz.func26,Tryz.ntmps26
 go_upto_if 21 with fail
 go_cut [] from 22 to 23 (fun wc=>Hid ((p.lv < q.lv/\zg3 w q p (.slice B0 m0 d0) (.slice B q.cs.length d) (.slice A0 n0 c0) (.slice A p.cs.length c) wc)\/(q.lv<=p.lv/\zg3 w p q (.slice A0 n0 c0) (.slice A p.cs.length c) (.slice B0 m0 d0) (.slice B q.cs.length d) wc)))
 case first =>
  by_cases hlt:p.lv < q.lv
  · have HF:=Lib.hid HCUT.out.swap;have HL:=Lib.hid hlt;clear hW;go_wp2_with fail
    go_meet
    exact Lib.hid (Or.inl ⟨HL.out,HF.out⟩)
  · have hle:q.lv<=p.lv:=by omega
    have HL:=Lib.hid hle;clear hW;go_wp2_with fail
    go_meet
    exact Lib.hid (Or.inr ⟨HL.out,HCUT.out⟩)
 case rest =>
 obtain ⟨a,b,sa1,sa2,sa3,A',ca,sb1,sb2,sb3,B',cb,hh,hm,hc⟩:∃ (a b:Pl) (sa1:Option Addr) (sa2 sa3:Nat) (A':Option Addr) (ca:Nat) (sb1:Option Addr) (sb2 sb3:Nat) (B':Option Addr) (cb:Nat),jhc w0 1000001 35184372088000 a b (plV a (.slice sa1 sa2 sa3) (.slice A' a.cs.length ca)) (plV b (.slice sb1 sb2 sb3) (.slice B' b.cs.length cb))/\p.mul q=a.mul b/\zg3 w a b (.slice sa1 sa2 sa3) (.slice A' a.cs.length ca) (.slice sb1 sb2 sb3) (.slice B' b.cs.length cb) wc:=by
  rcases hcut.out with ⟨h1,h2⟩ | ⟨h1,h2⟩
  · exact ⟨q,p,_,_,_,_,_,_,_,_,_,_,HQP.out h1,HCM.out,h2⟩
  · exact ⟨p,q,_,_,_,_,_,_,_,_,_,_,HPQ.out h1,rfl,h2⟩
 clear hcut HPQ HQP HCM HCUT b0 b1 b2 b3 e0 e1 e2 e3 hf1 hf2 hW hWs;have HM:=Lib.hid hm;clear hm;have HC:=Lib.hid hc;have HH:=Lib.hid hh;obtain ⟨b0,b1,b2,b3⟩:=hc.box;obtain ⟨e0,e1,e2,e3⟩:=hc.box';have hcs:=hc.size;have HZA:=Lib.hid (vgt a _ (hh.pa.ext (HX0.out.trans hc.ext)));clear hc hh;unfold plV at HZA;go_wp2_with fail;clear b0 b1 b2 b3 e0 e1 e2 e3;refine HZA.out.mono ?_;rintro e w1 ⟨rfl,x1⟩;have HZB:Hid (Calls Tryz.prog 56 #[plV b (.slice sb1 sb2 sb3) (.slice B' b.cs.length cb)] w1 fun e w'=>e=.returned (.bool b.isZ)/\Ext w1 w'):=vgt b _ (HH.out.pb.ext ((HX0.out.trans HC.out.ext).trans x1));unfold plV at HZB;have hb1:=HC.out.box.ext x1 (by omega);have hb2:=HC.out.box'.ext x1 (by omega);have hz1:=HC.out.zero.ext x1 (by omega);have hs1:=x1.size;have HB1:=Lib.hid hb1;have HB2:=Lib.hid hb2;have HZ1:=Lib.hid hz1;have X1:=Lib.hid (HC.out.ext.trans x1);obtain ⟨b0,b1,b2,b3⟩:=hb1;obtain ⟨e0,e1,e2,e3⟩:=hb2;obtain ⟨⟨z0,z1,z2,z3⟩,zf⟩:=hz1;clear x1 HZA
 by_cases ha0:a.isZ=true
 · rw [ha0];have HF:Hid (vc4 (fun i=>w.heap.size<=i) (p.mul q) w (.returned (plV Pl.zero (.slice none 0 0) (.slice none 0 0))) ((((w1.setCell ⟨w.heap.size+1+1,0,none⟩ (.int .i64 Pl.zero.lv)).setCell ⟨w.heap.size+1+1,1,none⟩ (.bool Pl.zero.neg)).setCell ⟨w.heap.size+1+1,2,none⟩ (.slice none 0 0)).setCell ⟨w.heap.size+1+1,3,none⟩ (.slice none 0 0))):=by
    have e:p.mul q=Pl.zero:=by rw [HM.out,(Pl.zero_isZ HH.out.ca).1 ha0,Pl.mul_zero_l]
    rw [e];exact gc5 (p:=Pl.zero) (q:=fun _=>False) X1.out (by omega) HZ1.out (Pl.zero_v _ _ none 0 (by omega)) (fun b _ h=>h.elim)
   simp only [Pl.zero,Pl.lv,Pl.neg] at HF;clear ha0 HZB;go_wp2_with fail;exact bodyPost_ret (v:=plV Pl.zero (.slice none 0 0) (.slice none 0 0)) (by simp [results,Tryz.results26,go_sem,z0,z1,z2,z3,plV,Pl.zero,Pl.lv,Pl.neg]) rfl HF.out
 have ha0':a.isZ=false:=by simpa using ha0
 rw [ha0'];have HA0:=Lib.hid ha0;clear ha0 ha0';go_wp2_with fail;clear b0 b1 b2 b3 e0 e1 e2 e3 z0 z1 z2 z3 zf;refine HZB.out.mono ?_;rintro e w2 ⟨rfl,x2⟩;have hb1:=HB1.out.ext x2 (by omega);have hb2:=HB2.out.ext x2 (by omega);have hz1:=HZ1.out.ext x2 (by omega);have hs2:=x2.size;have HB3:=Lib.hid hb1;have HB4:=Lib.hid hb2;have HZ2:=Lib.hid hz1;have X2:=Lib.hid (X1.out.trans x2);obtain ⟨b0,b1,b2,b3⟩:=hb1;obtain ⟨e0,e1,e2,e3⟩:=hb2;obtain ⟨⟨z0,z1,z2,z3⟩,zf⟩:=hz1;clear x2 HZB HB1 HB2 HZ1 X1
 by_cases hb0:b.isZ=true
 · rw [hb0];have HF:Hid (vc4 (fun i=>w.heap.size<=i) (p.mul q) w (.returned (plV Pl.zero (.slice none 0 0) (.slice none 0 0))) ((((w2.setCell ⟨w.heap.size+1+1,0,none⟩ (.int .i64 Pl.zero.lv)).setCell ⟨w.heap.size+1+1,1,none⟩ (.bool Pl.zero.neg)).setCell ⟨w.heap.size+1+1,2,none⟩ (.slice none 0 0)).setCell ⟨w.heap.size+1+1,3,none⟩ (.slice none 0 0))):=by
    have e:p.mul q=Pl.zero:=by rw [HM.out,(Pl.zero_isZ HH.out.cb).1 hb0,Pl.mul_zero_r]
    rw [e];exact gc5 (p:=Pl.zero) (q:=fun _=>False) X2.out (by omega) HZ2.out (Pl.zero_v _ _ none 0 (by omega)) (fun b _ h=>h.elim)
   simp only [Pl.zero,Pl.lv,Pl.neg] at HF;clear hb0;go_wp2_with fail;exact bodyPost_ret (v:=plV Pl.zero (.slice none 0 0) (.slice none 0 0)) (by simp [results,Tryz.results26,go_sem,z0,z1,z2,z3,plV,Pl.zero,Pl.lv,Pl.neg]) rfl HF.out
 have hb0':b.isZ=false:=by simpa using hb0
 rw [hb0'];have HB0:=Lib.hid hb0;clear hb0 hb0';have halv:=HH.out.ca.lv_nonneg;have hblv:=HH.out.cb.lv_nonneg;have hord:=HH.out.ord;have hne:=HH.out.ne
 by_cases hl:a.lv=0
 · have hbl:b.lv=0:=by omega
   have HAL:=Lib.hid (vg5 HH.out.ca hl);have HBL:=Lib.hid (vg5 HH.out.cb hbl);have hpa:=HH.out.pa.ext (HX0.out.trans X2.out);have hpb:=HH.out.pb.ext (HX0.out.trans X2.out);have hia:xc4 w2 (.agg #[.bool a.neg,.slice sa1 sa2 sa3]) a.z a.ds.length:=by
    obtain ⟨A1,n1,c1,A2,c2,e,hn,-⟩:=hpa.open_;unfold plV at e;simp only [Value.agg.injEq,Array.mk.injEq,List.cons.injEq,and_true,true_and] at e;rw [e.1];exact ⟨_,_,_,rfl,hn,rfl,Nat.le_refl _⟩
   have hib:xc4 w2 (.agg #[.bool b.neg,.slice sb1 sb2 sb3]) b.z b.ds.length:=by
    obtain ⟨A1,n1,c1,A2,c2,e,hn,-⟩:=hpb.open_;unfold plV at e;simp only [Value.agg.injEq,Array.mk.injEq,List.cons.injEq,and_true,true_and] at e;rw [e.1];exact ⟨_,_,_,rfl,hn,rfl,Nat.le_refl _⟩
   have HMU:=Lib.hid (jdf _ _ a.z b.z _ _ w2 hia hib HH.out.dig);have q1:(a.lv == 0)=true:=by simpa using hl
   have hlz:a.lv=0:=hl;have HLA:=Lib.hid hl;clear hpa hpb hia hib hbl hl halv hblv hord hne hlz;go_wp2_with fail;clear b0 b1 b2 b3 e0 e1 e2 e3 z0 z1 z2 z3 zf;refine HMU.out.mono ?_;rintro e w3 ⟨x,rfl,⟨v1,rfl,hv1⟩,x3⟩;obtain ⟨A1,d1,rfl,-⟩:=id hv1;have hz3:=HZ2.out.ext x3 (by omega);have HF:Hid (vc4 (fun i=>w.heap.size<=i) (p.mul q) w (.returned (plV (Pl.const (a.z * b.z)) (.slice A1 (dg (a.z * b.z).natAbs).length d1) (.slice none 0 0))) ((((w3.setCell ⟨w.heap.size+1+1,0,none⟩ (.int .i64 0)).setCell ⟨w.heap.size+1+1,1,none⟩ (.bool (decide (a.z * b.z < 0)))).setCell ⟨w.heap.size+1+1,2,none⟩ (.slice A1 (dg (a.z * b.z).natAbs).length d1)).setCell ⟨w.heap.size+1+1,3,none⟩ (.slice none 0 0))):=by
    have e:p.mul q=Pl.const (a.z * b.z):=by rw [HM.out,<- Pl.const_mul,<- HAL.out,<- HBL.out]
    rw [e];exact gc5 (p:=Pl.const (a.z * b.z)) (q:=fun _=>False) (X2.out.trans x3) (by omega) hz3 (PlV.mk (t:=Pl.const (a.z * b.z)) hv1 (Nat.le_refl _) (by simp [Pl.cs,Pl.const]) (by unfold Pl.const Pl.cs kc3; trivial)) (fun b _ h=>h.elim)
   obtain ⟨⟨z0,z1,z2,z3⟩,zf⟩:=hz3;clear x3 HMU hv1;generalize a.z * b.z=z at *;go_wp2_with fail;exact bodyPost_ret (v:=plV (Pl.const z) (.slice A1 (dg z.natAbs).length d1) (.slice none 0 0)) (by simp [results,Tryz.results26,go_sem,z0,z1,z2,z3,plV,Pl.const,Pl.lv,Pl.neg]) rfl HF.out
 · have hlt:b.lv < a.lv:=by
    have:a.lv ≠ b.lv:=fun e=>hl (hne e)
    omega
   have HUP:=Lib.hid (Pl.mul_up_ HH.out.ca HH.out.cb hlt (fun e=>HB0.out ((Pl.zero_isZ HH.out.cb).2 e)));have q1:(a.lv == 0)=false:=by simpa using hl
   have hlen:=HH.out.len;obtain ⟨A1,n1,c1,A2,c2,e,-,hl1,hl2,hat⟩:=HH.out.pa.open_;unfold plV at e;simp only [Value.agg.injEq,Array.mk.injEq,List.cons.injEq,and_true,true_and,Value.slice.injEq] at e;obtain ⟨-,rfl,rfl⟩:=e;have HAT:=Lib.hid hat;obtain ⟨V,hmk,hVx,hVs,hrow⟩:=jgu (a.cs.length:Int) (by omega) (by omega) w2;rw [Int.toNat_natCast] at hmk hrow;have HROW:=Lib.hid (hrow (fun i=>w2.heap.size<=i));have HVX:=Lib.hid hVx;obtain ⟨f0,f1,f2,f3⟩:=HB3.out.ext hVx (by omega);clear hat hrow hVx hl halv hblv hord hne HA0;go_wp2_with fail;clear hmk b0 b1 b2 b3 e0 e1 e2 e3 f0 f1 f2 f3 z0 z1 z2 z3 zf
   go_loopw [55] (fun iv wr=>∃ k:Nat,k<=a.cs.length/\iv=.int .i64 k/\Hid ((∃ L:List Pl,L.length=a.cs.length/\L.take k=(a.cs.map fun c=>c.mul b).take k/\qgu wr (fun i=>w2.heap.size<=i) w2.heap.size L)/\Ext w2 wr)) (fun iv _=>a.cs.length - (intOf iv).toNat)
   case atStart=>exact ⟨0,Nat.zero_le _,rfl,⟨⟨_,List.length_replicate,by simp,HROW.out⟩,HVX.out⟩⟩
   case round =>
    obtain ⟨k,hk,rfl,⟨⟨L,hLl,hLt,hrow⟩,hx⟩⟩:=hrel;have HX:=Lib.hid hx;have HROWk:=Lib.hid hrow;have HLT:=Lib.hid hLt;have hws:=hx.size;obtain ⟨b0,b1,b2,b3⟩:=HB3.out.ext hx (by omega);have hRlt:w2.heap.size < wr.heap.size:=hrow.1;clear hx hrow hLt HVX HROW
    by_cases hlt:k < a.cs.length
    · obtain ⟨ad,C0,j0,g0,C1,j1,g1,rfl,hadb,hnd,hkt⟩:=kc3.kid HAT.out k hlt;have hxx:Ext w0 wr:=(HX0.out.trans X2.out).trans HX.out;obtain ⟨a0,a1,a2,a3⟩:=hnd.ext hxx (by rw [uc2]; exact hadb);have HC2:=Lib.hid (fun W' (hxW:Ext wr W')=>HH.out.ih k hlt _ hkt W' (hxx.trans hxW));have HSET:Hid ((L.set k (a.cs[k].mul b)).take (k+1)=(a.cs.map fun c=>c.mul b).take (k+1)):=by
       have h1:=qdf L (a.cs.map fun c=>c.mul b) k HLT.out (by omega) (by rw [List.length_map]; exact hlt);rw [List.getElem_map] at h1;exact h1
      unfold plV at HC2;obtain ⟨U,hU⟩:=n_m (wr.alloc (.cells #[.int .i64 a.cs[k].lv,.bool a.cs[k].neg,.slice C0 j0 g0,.slice C1 j1 g1] 30));have hUx:Ext wr U:=by rw [<- hU]; exact (Ext.refl _).alloc _
      have hUs:U.heap.size=wr.heap.size+1:=by rw [<- hU]; simp
      obtain ⟨y0,y1,y2,y3⟩:yc3 U wr.heap.size a.cs[k] (.slice C0 j0 g0) (.slice C1 j1 g1):=by rw [<- hU]; exact yc3.new wr a.cs[k] _ _ _
      obtain ⟨e0,e1,e2,e3⟩:=HB4.out.ext (HX.out.trans hUx) (by omega);have HUX:=Lib.hid hUx;generalize hres:a.cs[k].mul b=res at *;generalize a.cs[k]=ck at *;clear hnd hkt hadb hxx HLT hres hUx;go_wp2_with fail;clear hU y0 y1 y2 y3;refine (HC2.out _ HUX.out).mono ?_;rintro e w3 ⟨v3,rfl,p3,x3⟩;have x3':Ext wr w3:=HUX.out.trans x3;obtain ⟨C0,j0,f0,C1,f1,rfl,-⟩:=id p3.open_;have hr3:=HROWk.out.ext x3';obtain ⟨D0,n2,g0,D1,n3,g1,⟨r0,r1,r2,r3⟩,-⟩:=hr3.2.2 k (by omega);have hfr:=hr3.2.1;have hst:=(hr3.set_ k (by omega) res (p3.mono fun i hi=>by
       have hi':wr.heap.size+1<=i:=by rw [<- hUs]; exact hi
       exact ⟨by omega,by omega⟩)).1
      simp only at r0 r1 r2 r3;have HST:=Lib.hid hst;have X3:=Lib.hid (HX.out.trans x3');unfold plV;clear hr3 hst p3 x3 x3' HC2 HROWk a0 a1 a2 a3 b0 b1 b2 b3 e0 e1 e2 e3 HUX hUs;go_wp2_with fail
      go_roundw
      case rel=>exact ⟨k+1,by omega,by go_num,⟨_,by rw [List.length_set]; exact hLl,HSET.out,HST.out⟩,(((X3.out.setCell (Nat.le_refl _) _).setCell (Nat.le_refl _) _).setCell (Nat.le_refl _) _).setCell (Nat.le_refl _) _⟩
      case measure=>simp [intOf]; omega
    · have hke:k=a.cs.length:=by omega
      have hLe:L=a.cs.map fun c=>c.mul b:=by
       have h:=HLT.out;rw [hke,show a.cs.length=(a.cs.map fun c=>c.mul b).length by rw [List.length_map],List.take_length,List.length_map,<- hLl,List.take_length] at h;exact h
      have hz3:=HZ2.out.ext HX.out (by omega);have hfin:=HROWk.out.fin (Nat.le_refl _);rw [hLe] at hfin;have HF:Hid (vc4 (fun i=>w.heap.size<=i) (p.mul q) w (.returned (plV (.mk a.lv false [] (a.cs.map fun c=>c.mul b)) (.slice none 0 0) (.slice (some ⟨w2.heap.size,0,none⟩) a.cs.length a.cs.length))) ((((wr.setCell ⟨w.heap.size+1+1,0,none⟩ (.int .i64 a.lv)).setCell ⟨w.heap.size+1+1,1,none⟩ (.bool false)).setCell ⟨w.heap.size+1+1,2,none⟩ (.slice none 0 0)).setCell ⟨w.heap.size+1+1,3,none⟩ (.slice (some ⟨w2.heap.size,0,none⟩) a.cs.length a.cs.length))):=by
       rw [HM.out,HUP.out];have h1:=PlV.mk (t:=.mk a.lv false [] (a.cs.map fun c=>c.mul b)) (c:=a.cs.length) (vc2.nil wr) (by simp [Pl.cs]) (by omega) hfin;rw [show (Pl.mk a.lv false [] (a.cs.map fun c=>c.mul b)).cs.length=a.cs.length by simp [Pl.cs]] at h1;exact gc5 (p:=.mk a.lv false [] (a.cs.map fun c=>c.mul b)) (q':=fun i=>w.heap.size<=i) (X2.out.trans HX.out) (by omega) hz3 h1 (fun b _ hb=>⟨by omega,by omega⟩)
      obtain ⟨⟨z0,z1,z2,z3⟩,zf⟩:=hz3;clear hfin HROWk HLT hLe;go_wp2_with fail;exact bodyPost_ret (v:=plV (.mk a.lv false [] (a.cs.map fun c=>c.mul b)) (.slice none 0 0) (.slice (some ⟨w2.heap.size,0,none⟩) a.cs.length a.cs.length)) (by simp [results,Tryz.results26,go_sem,z0,z1,z2,z3,plV,Pl.lv,Pl.neg]) rfl HF.out
end Go.Proofs.YtopddaabiinboaaGreat

/- Layer 22: recpoly.Const, mul by a constant, scale, Scale, Neg. -/
set_option maxRecDepth 100000
set_option maxHeartbeats 8000000
namespace Go.Proofs.YtopddaabiinboaaGreat
open Go.RowKit
theorem xc4.lt {w:World} {x:Value} {z:Int} {L:Nat} (h:xc4 w x z L):z.natAbs < B32 ^ L:=by
 obtain ⟨n,s,ds,rfl,hn,hz,hl⟩:=h;rw [hz,qc7];exact Nat.lt_of_lt_of_le (gc9 (vc2.digs hn)) (Nat.pow_le_pow_right (by decide) hl)
theorem zhd {w:World} {s:Value} {z:Int} {L:Nat} (h:vc2 w s (dg z.natAbs)) (hL:(dg z.natAbs).length<=L):xc4 w (.agg #[.bool (decide (z < 0)),s]) z L:=⟨_,_,_,rfl,h,by rw [jc3,zgs],hL⟩
theorem qih (z:Int) (s A:Value):plV (Pl.const z) s A=.agg #[.int .i64 0,.bool (decide (z < 0)),s,A]:=rfl
theorem xil {w:World} {s:Value} {z:Int} (q:Nat->Prop) (h:vc2 w s (dg z.natAbs)):PlV w q (Pl.const z) (plV (Pl.const z) s (.slice none 0 0)):=
 PlV.mk (t:=Pl.const z) (A:=none) (c:=0) h (Nat.le_refl _) (by omega) (by unfold Pl.const Pl.cs kc3; trivial)
theorem zh9 {w:World} {z:Int} {L:Nat} (v0:Value) (h0:xc4 w v0 z L) (hL:L<=35184372088832):Calls Tryz.prog 9 #[v0] w (vc4 (fun b=>w.heap.size<=b) (Pl.const z) w):=by
 have H0:=Lib.hid h0;obtain ⟨n0,s0,e0,rfl,⟨A0,c0,rfl,-,-,-⟩,-,-⟩:=h0;obtain ⟨W,hW⟩:=n_m ((w.alloc (.cells #[.bool n0,.slice A0 e0.length c0] 27)).alloc (.cells #[.int .i64 0,.bool false,.slice none 0 0,.slice none 0 0] 30));have hWx:Ext w W:=by rw [<- hW]; exact ((Ext.refl w).alloc _).alloc _
 have hWs:W.heap.size=w.heap.size+1+1:=by rw [<- hW]; simp
 have HX0:=Lib.hid hWx;have HS:Hid (∀ W',Ext W W'->(Ext w W'/\W'.cell? ⟨w.heap.size,0,none⟩=some (.bool n0)/\W'.cell? ⟨w.heap.size,1,none⟩=some (.slice A0 e0.length c0))):=by
  have:∀ W',Ext W W'->(Ext w W'/\W'.cell? ⟨w.heap.size,0,none⟩=some (.bool n0)/\W'.cell? ⟨w.heap.size,1,none⟩=some (.slice A0 e0.length c0)):=fun W' hx=>by
   obtain ⟨hc,hf⟩:=hx.cells;refine ⟨hWx.trans hx,?_,?_⟩ <;> (rw [hc _ _ (by omega),<- hW]; simp [go_sem])
  exact this
 have HZ:Hid (yc5 W (w.heap.size+1)):=by
  have:yc5 W (w.heap.size+1):=by
   rw [<- hW];refine ⟨⟨?_,?_,?_,?_⟩,fun i=>?_⟩ <;> simp [go_sem]
  exact this
 obtain ⟨-,b0,b1⟩:=HS.out W (Ext.refl W);clear hWx;go_enter Tryz.func9,Tryz.ntmps9;go_wp2_with fail;clear hW b0 b1;refine (xdi _ z L _ (H0.out.ext HX0.out) hL).mono ?_;rintro e w1 ⟨z1,rfl,⟨y1,rfl,m1⟩,x1⟩;obtain ⟨C1,k1,rfl,-⟩:=id m1;have YY1:=Lib.hid (x1);have hzn:=HZ.out.ext YY1.out (by omega);have hsn:=(YY1.out:Ext W _).size
 have HF:Hid (vc4 (fun b=>w.heap.size<=b) (Pl.const z) w (.returned (plV (Pl.const z) (.slice C1 (dg z.natAbs).length k1) (.slice none 0 0))) ((((w1.setCell ⟨w.heap.size+1,0,none⟩ (.int .i64 0)).setCell ⟨w.heap.size+1,1,none⟩ (.bool (decide (z < 0)))).setCell ⟨w.heap.size+1,2,none⟩ (.slice C1 (dg z.natAbs).length k1)).setCell ⟨w.heap.size+1,3,none⟩ (.slice none 0 0))):=
  gc5 (p:=Pl.const z) (q:=fun _=>False) (HX0.out.trans YY1.out) (by omega) hzn (xil _ m1) (fun b _ h=>h.elim)
 obtain ⟨⟨r0,r1,r2,r3⟩,rf⟩:=hzn;clear m1 x1 HS HZ;go_wp2_with fail;exact bodyPost_ret (v:=plV (Pl.const z) (.slice C1 (dg z.natAbs).length k1) (.slice none 0 0)) (by simp [results,Tryz.results9,go_sem,r0,r1,r2,r3,qih]) rfl HF.out
theorem wi1 (w0:World) (z:Int) (u:Value) (E D G:Nat) (hE:E<=1000000) (hD:D+G<=35184372088000) (hz:z.natAbs < B32 ^ G) (k:PlV w0 (fun _=>True) (Pl.const z) u) (n:Nat) :
 ∀ (p:Pl) (v:Value) (w:World),p.sz < n->Fit p E D->PlV w0 (fun _=>True) p v->Ext w0 w->Calls Tryz.prog 26 #[v,u] w (vc4 (fun i=>w.heap.size<=i) (p.mul (Pl.const z)) w):=by
 induction n with
 | zero=>intro p v w h; omega
 | succ n ih =>
   intro p v w hn hp h hx;refine gi1 (F:=0) p (Pl.const z) v u hp (Fit.const hz) hE (by omega) hD h k hx (fun e=>e) (fun a h1 x pa W' hx'=>?_) (fun a h1=>by simp [Pl.const,Pl.cs] at h1);obtain ⟨l,ng,ds,cs⟩:=p;have hl:0 < l:=by
    have:=hp.can;unfold Pl.Can at this;rcases this with h | h
    · simp only [Pl.cs,h.2.1] at h1; cases h1
    · omega
   exact ih a x W' (by have:=Pl.sz_kid h1; omega) (hp.kid hl h1) pa hx'
theorem jir {w:World} {q q':Nat->Prop} {z:Int} {E D G:Nat} (p:Pl) (v u:Value) (hp:Fit p E D) (hz:z.natAbs < B32 ^ G) (hE:E<=1000000) (hD:D+G<=35184372088000) (h:PlV w q p v) (k:PlV w q' (Pl.const z) u):Calls Tryz.prog 26 #[v,u] w (vc4 (fun i=>w.heap.size<=i) (p.mul (Pl.const z)) w):=
 wi1 w z u E D G hE hD hz (k.mono fun _ _=>trivial) (p.sz+1) p v w (Nat.lt_succ_self _) hp (h.mono fun _ _=>trivial) (Ext.refl w)
theorem jg3 {w:World} {p:Pl} {z:Int} {L E D:Nat} {q0:Nat->Prop} (v0:Value) (v1:Value) (h0:PlV w q0 p v0) (h1:xc4 w v1 z L) (hp:Fit p E D) (hE:E<=1000000) (hD:D+L<=35184372088000):Calls Tryz.prog 25 #[v0,v1] w (vc4 (fun b=>w.heap.size<=b) (p.mul (Pl.const z)) w):=by
 have H0:=Lib.hid h0;obtain ⟨A0,n0,c0,B0,d0,rfl,-,-,-,-⟩:=h0.open_;clear h0;have H1:=Lib.hid h1;obtain ⟨n1,s1,e1,rfl,⟨A1,c1,rfl,-,-,-⟩,-,-⟩:=h1;obtain ⟨W,hW⟩:=n_m (((w.alloc (.cells #[.int .i64 (p).lv,.bool (p).neg,.slice A0 n0 c0,.slice B0 (p).cs.length d0] 30)).alloc (.cells #[.bool n1,.slice A1 e1.length c1] 27)).alloc (.cells #[.int .i64 0,.bool false,.slice none 0 0,.slice none 0 0] 30));have hWx:Ext w W:=by rw [<- hW]; exact (((Ext.refl w).alloc _).alloc _).alloc _
 have hWs:W.heap.size=w.heap.size+1+1+1:=by rw [<- hW]; simp
 have HX0:=Lib.hid hWx;have HS:Hid (∀ W',Ext W W'->(Ext w W'/\W'.cell? ⟨w.heap.size,0,none⟩=some (.int .i64 (p).lv)/\W'.cell? ⟨w.heap.size,1,none⟩=some (.bool (p).neg)/\W'.cell? ⟨w.heap.size,2,none⟩=some (.slice A0 n0 c0)/\W'.cell? ⟨w.heap.size,3,none⟩=some (.slice B0 (p).cs.length d0)/\W'.cell? ⟨w.heap.size+1,0,none⟩=some (.bool n1)/\W'.cell? ⟨w.heap.size+1,1,none⟩=some (.slice A1 e1.length c1))):=by
  have:∀ W',Ext W W'->(Ext w W'/\W'.cell? ⟨w.heap.size,0,none⟩=some (.int .i64 (p).lv)/\W'.cell? ⟨w.heap.size,1,none⟩=some (.bool (p).neg)/\W'.cell? ⟨w.heap.size,2,none⟩=some (.slice A0 n0 c0)/\W'.cell? ⟨w.heap.size,3,none⟩=some (.slice B0 (p).cs.length d0)/\W'.cell? ⟨w.heap.size+1,0,none⟩=some (.bool n1)/\W'.cell? ⟨w.heap.size+1,1,none⟩=some (.slice A1 e1.length c1)):=fun W' hx=>by
   obtain ⟨hc,hf⟩:=hx.cells;refine ⟨hWx.trans hx,?_,?_,?_,?_,?_,?_⟩ <;> (rw [hc _ _ (by omega),<- hW]; simp [go_sem])
  exact this
 have HZ:Hid (yc5 W (w.heap.size+1+1)):=by
  have:yc5 W (w.heap.size+1+1):=by
   rw [<- hW];refine ⟨⟨?_,?_,?_,?_⟩,fun i=>?_⟩ <;> simp [go_sem]
  exact this
 have HS2:Hid (∀ W'' u0 u1 u2 u3,Ext W W''->∀ W',W'=(((W''.setCell ⟨w.heap.size+1+1,0,none⟩ u0).setCell ⟨w.heap.size+1+1,1,none⟩ u1).setCell ⟨w.heap.size+1+1,2,none⟩ u2).setCell ⟨w.heap.size+1+1,3,none⟩ u3->(Ext w W'/\W'.cell? ⟨w.heap.size,0,none⟩=some (.int .i64 (p).lv)/\W'.cell? ⟨w.heap.size,1,none⟩=some (.bool (p).neg)/\W'.cell? ⟨w.heap.size,2,none⟩=some (.slice A0 n0 c0)/\W'.cell? ⟨w.heap.size,3,none⟩=some (.slice B0 (p).cs.length d0)/\W'.cell? ⟨w.heap.size+1,0,none⟩=some (.bool n1)/\W'.cell? ⟨w.heap.size+1,1,none⟩=some (.slice A1 e1.length c1))):=by
  have:∀ W'' u0 u1 u2 u3,Ext W W''->∀ W',W'=(((W''.setCell ⟨w.heap.size+1+1,0,none⟩ u0).setCell ⟨w.heap.size+1+1,1,none⟩ u1).setCell ⟨w.heap.size+1+1,2,none⟩ u2).setCell ⟨w.heap.size+1+1,3,none⟩ u3->(Ext w W'/\W'.cell? ⟨w.heap.size,0,none⟩=some (.int .i64 (p).lv)/\W'.cell? ⟨w.heap.size,1,none⟩=some (.bool (p).neg)/\W'.cell? ⟨w.heap.size,2,none⟩=some (.slice A0 n0 c0)/\W'.cell? ⟨w.heap.size,3,none⟩=some (.slice B0 (p).cs.length d0)/\W'.cell? ⟨w.heap.size+1,0,none⟩=some (.bool n1)/\W'.cell? ⟨w.heap.size+1,1,none⟩=some (.slice A1 e1.length c1)):=fun W'' u0 u1 u2 u3 hx W' hW'=>by
   obtain ⟨s1,k0,k1,k2,k3,k4,k5⟩:=HS.out W'' hx;rw [hW'];refine ⟨(((s1.setCell (by simp; try omega) _).setCell (by simp; try omega) _).setCell (by simp; try omega) _).setCell (by simp; try omega) _,?_,?_,?_,?_,?_,?_⟩ <;> rw [World.cell?_setCell_other _ _ _ _ (by simp; try omega),World.cell?_setCell_other _ _ _ _ (by simp; try omega),World.cell?_setCell_other _ _ _ _ (by simp; try omega),World.cell?_setCell_other _ _ _ _ (by simp; try omega)] <;> assumption
  exact this
 have HFP:=Lib.hid hp;have HZL:=Lib.hid (xc4.lt H1.out);clear hp;obtain ⟨-,b0,b1,b2,b3,b4,b5⟩:=HS.out W (Ext.refl W);clear hWx;unfold plV at *;go_enter Tryz.func25,Tryz.ntmps25;go_wp2_with fail;clear hW b0 b1 b2 b3 b4 b5;have yy0:Ext W W.drew:=(Ext.refl W).drew;have Y0:=Lib.hid yy0;clear yy0
 go_region_held3 (fun W' => Ext w W' /\ W'.cell? ⟨w.heap.size, 0, none⟩ = some (.int .i64 (p).lv) /\ W'.cell? ⟨w.heap.size, 1, none⟩ = some (.bool (p).neg) /\ W'.cell? ⟨w.heap.size, 2, none⟩ = some (.slice A0 n0 c0) /\ W'.cell? ⟨w.heap.size, 3, none⟩ = some (.slice B0 (p).cs.length d0) /\ W'.cell? ⟨w.heap.size + 1, 0, none⟩ = some (.bool n1) /\ W'.cell? ⟨w.heap.size + 1, 1, none⟩ = some (.slice A1 e1.length c1))
  (first | with_reducible exact HS.out _ Y0.out | with_reducible exact HS.out _ yy1 | with_reducible exact HS.out _ yy2 | exact HS2.out _ _ _ _ _ yy2 _ rfl)
  (first
    | (go_at_call 9
       refine (zh9 _ (H1.out.ext (HX0.out.trans Y0.out)) (by omega)).mono ?_;rintro e w1 ⟨z1,rfl,m1,x1⟩;obtain ⟨C1,i1,j1,D1,k1,rfl,-⟩:=id m1.open_;have yy1:Ext W w1:=Ext.trans Y0.out x1
       unfold plV)
    | (go_at_call 26
       refine (jir (G:=L) p _ _ HFP.out HZL.out hE hD (H0.out.ext (HX0.out.trans yy1)) m1).mono ?_;rintro e w2 ⟨z2,rfl,m2,x2⟩;obtain ⟨C2,i2,j2,D2,k2,rfl,-⟩:=id m2.open_;have yy2:Ext W w2:=Ext.trans yy1 x2
       replace m1:=m1.ext x2
       obtain ⟨⟨r0,r1,r2,r3⟩,rf⟩:=HZ.out.ext yy2 (by omega)
       unfold plV))
 have hzn:=HZ.out.ext yy2 (by omega);have hsn:=(yy2:Ext W _).size;have hsp:=(yy1:Ext W _).size;have HF:=Lib.hid (gc5 (q':=fun b=>w.heap.size<=b) (HX0.out.trans yy2) (by omega) hzn m2 (fun b _ hb=>⟨by omega,by omega⟩));clear m2 x2 m1 x1 yy2 yy1 HS2 HS HZ
 try unfold plV
 go_wp2_with fail;exact bodyPost_ret (by simp [results,Tryz.results25,go_sem,r0,r1,r2,r3,plV]) rfl HF.out
end Go.Proofs.YtopddaabiinboaaGreat

/- A polynomial in a box that may be written. -/
namespace Go.Proofs.YtopddaabiinboaaGreat
open Go.RowKit
def PBx (V:World) (Q:Nat->Prop) (g:Nat) (p:Pl):Prop:=g < V.heap.size/\(∀ i,V.frozen? ⟨g,i,none⟩=false)/\∃ A0 n0 c0 A1 c1,yc3 V g p (.slice A0 n0 c0) (.slice A1 p.cs.length c1)/\PlV V (fun b=>Q b/\b ≠ g) p (plV p (.slice A0 n0 c0) (.slice A1 p.cs.length c1))
section
variable {V V':World} {Q:Nat->Prop} {g:Nat} {p p':Pl}
theorem PBx.ext (h:PBx V Q g p) (hx:Ext V V'):PBx V' Q g p:=by
 obtain ⟨h0,h1,A0,n0,c0,A1,c1,h2,h3⟩:=h;exact ⟨Nat.lt_of_lt_of_le h0 hx.size,fun i=>(hx.frozen (p:=⟨g,i,none⟩) h0).trans (h1 i),A0,n0,c0,A1,c1,h2.ext hx h0,h3.ext hx⟩
theorem PBx.store (h:PBx V Q g p) {Q':Nat->Prop} {A0 A1:Option Addr} {n0 c0 c1:Nat} (hp:PlV V (fun b=>Q' b/\b ≠ g) p' (plV p' (.slice A0 n0 c0) (.slice A1 p'.cs.length c1))) :
 PBx ((((V.setCell ⟨g,0,none⟩ (.int .i64 p'.lv)).setCell ⟨g,1,none⟩ (.bool p'.neg)).setCell ⟨g,2,none⟩ (.slice A0 n0 c0)).setCell ⟨g,3,none⟩ (.slice A1 p'.cs.length c1)) Q' g p':=by
 obtain ⟨h0,h1,B0,m0,d0,B1,d1,h2,h3⟩:=h;exact ⟨by simpa [World.setCell] using h0,fun i=>by simp only [World.frozen?_setCell]; exact h1 i,_,_,_,_,_,h2.set,h2.keep _ _ _ _ hp fun b _ hb=>⟨hb.2,hb⟩⟩
theorem PBx.stays (h:PBx V Q g p) {q:Nat->Prop} {P:Pl} {v:Value} (hP:PlV V q P v) (hq:∀ b,q b->b ≠ g) (x0:Int) (x1:Bool) (A0 A1:Option Addr) (n0 c0 n1 c1:Nat) :
 PlV ((((V.setCell ⟨g,0,none⟩ (.int .i64 x0)).setCell ⟨g,1,none⟩ (.bool x1)).setCell ⟨g,2,none⟩ (.slice A0 n0 c0)).setCell ⟨g,3,none⟩ (.slice A1 n1 c1)) q P v:=by
 obtain ⟨h0,h1,B0,m0,d0,B1,d1,⟨g0,g1,g2,g3⟩,h3⟩:=h;refine PlV.turn_ (by simp [World.setCell]) (fun v ds hv=>?_) (fun b _ hb=>⟨hb,xde _ _ _ _ _ _ _ (hq b hb)⟩) hP;refine (((hv.box g0 rfl _).box (u:=.bool p.neg) ?_ rfl _).box (u:=.slice B0 m0 d0) ?_ rfl _).box (u:=.slice B1 p.cs.length d1) ?_ rfl _
 · rw [World.cell?_setCell_other _ _ _ _ (by simp)]; exact g1
 · rw [World.cell?_setCell_other _ _ _ _ (by simp),World.cell?_setCell_other _ _ _ _ (by simp)]; exact g2
 · rw [World.cell?_setCell_other _ _ _ _ (by simp),World.cell?_setCell_other _ _ _ _ (by simp),World.cell?_setCell_other _ _ _ _ (by simp)]; exact g3
theorem PBx.new {A0 A1:Option Addr} {n0 c0 c1:Nat} (hp:PlV V Q p (plV p (.slice A0 n0 c0) (.slice A1 p.cs.length c1))) (T:TypeId):PBx (V.alloc (.cells #[.int .i64 p.lv,.bool p.neg,.slice A0 n0 c0,.slice A1 p.cs.length c1] T)) Q V.heap.size p:=by
 refine ⟨by simp,fun i=>by simp [go_sem],A0,n0,c0,A1,c1,yc3.new V p _ _ _,?_⟩;exact PlV.turn_ (V.size_alloc _ ▸ Nat.le_succ _) (fun _ _ h=>h.ext ((Ext.refl V).alloc _)) (fun b hb hq=>⟨⟨hq,by omega⟩,((Ext.refl V).alloc _).below.block b hb⟩) hp
end
theorem z_b {W prev:World} (y:Ext W prev):∃ V o,prev.alloc (.cells #[.int .i64 0,.bool false,.slice none 0 0,.slice none 0 0] 30)=V/\prev.heap.size=o/\PBx V (fun _=>False) o Pl.zero/\Ext W V/\W.heap.size<=o/\o < V.heap.size/\Hid (o=prev.heap.size)/\Ext prev V:=
  ⟨_,_,rfl,rfl,PBx.new (Pl.zero_v _ _ none 0 (by omega)) _,y.alloc _,y.size,by simp,Lib.hid rfl,(Ext.refl _).alloc _⟩
theorem z_d {W prev:World} (y:Ext W prev):∃ V o,(prev.alloc (.cells #[.int .i64 0,.bool false,.slice none 0 0,.slice none 0 0] 30)).drew=V/\prev.heap.size=o/\PBx V (fun _=>False) o Pl.zero/\Ext W V/\W.heap.size<=o/\o < V.heap.size/\Hid (o=prev.heap.size)/\Ext prev V:=
  ⟨_,_,rfl,rfl,(PBx.new (Pl.zero_v _ _ none 0 (by omega)) _).ext (Ext.refl _).drew,(y.alloc _).drew,y.size,by have:=(PBx.new (V:=prev) (Q:=fun _=>False) (Pl.zero_v _ _ none 0 (by omega)) 30).1; exact this,Lib.hid rfl,((Ext.refl _).alloc _).drew⟩
theorem b_1 (w:World) (f:Pl) (a b:Value):∃ W,(w.alloc (.cells #[.int .i64 f.lv,.bool f.neg,a,b] 30))=W/\W.heap.size=w.heap.size+1/\Ext w W/\yc3 W w.heap.size f a b:=⟨_,rfl,by simp,(Ext.refl w).alloc _,yc3.new w f _ _ _⟩
theorem b_z (w:World):∃ W,(w.alloc (.cells #[.int .i64 0,.bool false,.slice none 0 0,.slice none 0 0] 30))=W/\W.heap.size=w.heap.size+1/\Ext w W/\yc5 W w.heap.size:=⟨_,rfl,by simp,(Ext.refl w).alloc _,yc5.new w _⟩
theorem b_y (w:World) (f:Pl) (a b:Value):∃ V W,(w.alloc (.cells #[.int .i64 f.lv,.bool f.neg,a,b] 30))=V/\(V.alloc (.cells #[.int .i64 0,.bool false,.slice none 0 0,.slice none 0 0] 30))=W/\V.heap.size=w.heap.size+1/\Ext w V/\W.heap.size=w.heap.size+1+1/\Ext V W/\yc3 W w.heap.size f a b/\yc5 W (w.heap.size+1):=by
  obtain ⟨V,hV,h1,h2,h3⟩:=b_1 w f a b;obtain ⟨W,hW,h4,h5,h6⟩:=b_z V;exact ⟨V,W,hV,hW,h1,h2,by omega,h5,h3.ext h5 (by omega),by rw [h1] at h6; exact h6⟩
theorem b_2 (w:World) (f g:Pl) (a b c d:Value):∃ V W,(w.alloc (.cells #[.int .i64 f.lv,.bool f.neg,a,b] 30))=V/\(V.alloc (.cells #[.int .i64 g.lv,.bool g.neg,c,d] 30))=W/\V.heap.size=w.heap.size+1/\Ext w V/\W.heap.size=w.heap.size+1+1/\Ext V W/\yc3 W w.heap.size f a b/\yc3 W (w.heap.size+1) g c d:=by
  obtain ⟨V,hV,h1,h2,h3⟩:=b_1 w f a b;obtain ⟨W,hW,h4,h5,h6⟩:=b_1 V g c d;exact ⟨V,W,hV,hW,h1,h2,by omega,h5,h3.ext h5 (by omega),by rw [h1] at h6; exact h6⟩
theorem b_x (w:World) (f g:Pl) (a b c d:Value):∃ U V W,(w.alloc (.cells #[.int .i64 f.lv,.bool f.neg,a,b] 30))=U/\(U.alloc (.cells #[.int .i64 g.lv,.bool g.neg,c,d] 30))=V/\(V.alloc (.cells #[.int .i64 0,.bool false,.slice none 0 0,.slice none 0 0] 30))=W/\U.heap.size=w.heap.size+1/\Ext w U/\V.heap.size=w.heap.size+1+1/\Ext U V/\W.heap.size=w.heap.size+1+1+1/\Ext V W/\yc3 W w.heap.size f a b/\yc3 W (w.heap.size+1) g c d/\yc5 W (w.heap.size+1+1):=by
  obtain ⟨U,V,hU,hV,h1,h2,h3,h4,h5,h6⟩:=b_2 w f g a b c d;obtain ⟨W,hW,h7,h8,h9⟩:=b_z V;exact ⟨U,V,W,hU,hV,hW,h1,h2,h3,h4,by omega,h8,h5.ext h8 (by omega),h6.ext h8 (by omega),by rw [h3] at h9; exact h9⟩
end Go.Proofs.YtopddaabiinboaaGreat

/- Equality of integers and of polynomials: cylinderref34.SameInt, cylinderref38.SamePoly, integer.Same, recpoly.same, Same. -/
namespace Go.Proofs.YtopddaabiinboaaGreat
open Go.RowKit
end Go.Proofs.YtopddaabiinboaaGreat

/- integer.Same, recpoly.same. -/
namespace Go.Proofs.YtopddaabiinboaaGreat
open Go.RowKit
end Go.Proofs.YtopddaabiinboaaGreat

/- Layer 22: recpoly.Same; polynomials of a small size. -/
namespace Go.Proofs.YtopddaabiinboaaGreat
open Go.RowKit
theorem Fit.of_raw {p:Pl} {S M:Nat} (hd:p.dig) (hs:p.sz<=S) (hm:p.dm<=M) (hS:S < B32):Fit p.nf S (M+1):=by
 refine ⟨p.nf_can,Pl.ofS_ex fun x hx=>(Pl.terms_le p Mo.one 0 Mo.one_le x hx).mono (by omega),Nat.lt_of_le_of_lt (Pl.ofS_nr _) (Nat.lt_of_le_of_lt (Pl.terms_nrm p Mo.one M hm hd) ?_)⟩;rw [Nat.pow_succ,Nat.mul_comm];exact Nat.mul_lt_mul_of_pos_left (by omega) (Nat.pow_pos (by decide))
end Go.Proofs.YtopddaabiinboaaGreat

/- Layer 22: recpoly.Constant. -/
set_option maxRecDepth 100000
set_option maxHeartbeats 8000000
namespace Go.Proofs.YtopddaabiinboaaGreat
open Go.RowKit
def qjb (z:Int) (b:Bool) (w:World) (e:Ending) (w':World):Prop:=∃ x,e=.returned (.tuple #[x,.bool b])/\kdb w' x z/\Ext w w'
theorem zhz {w:World} {q:Nat->Prop} {E D:Nat} (p:Pl) (v:Value) (h:PlV w q p v) (hsz:p.sz<=1073741824) (hdm:p.dm<=1099511627776) (hp:Fit p.nf E D) (hD:D<=35184372088832) :
 Calls Tryz.prog 67 #[v] w (qjb (if p.nf.lv=0 then p.nf.z else 0) (decide (p.nf.lv=0)) w):=by
 have HH:=Lib.hid h;obtain ⟨A0,n0,c0,A,c,rfl,-,-,-,-⟩:=h.open_;clear h;obtain ⟨W,hW⟩:=n_m ((w.alloc (.cells #[.int .i64 p.lv,.bool p.neg,.slice A0 n0 c0,.slice A p.cs.length c] 30)).alloc (.cells #[.bool false,.slice none 0 0] 27));have hWx:Ext w W:=by rw [<- hW]; exact ((Ext.refl w).alloc _).alloc _
 have hWs:W.heap.size=w.heap.size+1+1:=by rw [<- hW]; simp
 have hbx:yc3 W w.heap.size p (.slice A0 n0 c0) (.slice A p.cs.length c):=by rw [<- hW]; exact (yc3.new w p _ _ _).ext ((Ext.refl _).alloc _) (by simp)
 have hfr:∀ i,W.frozen? ⟨w.heap.size,i,none⟩=false:=fun i=>by rw [<- hW]; simp [go_sem]
 have hz:(W.cell? ⟨w.heap.size+1,0,none⟩=some (.bool false)/\W.cell? ⟨w.heap.size+1,1,none⟩=some (.slice none 0 0))/\∀ i,W.frozen? ⟨w.heap.size+1,i,none⟩=false:=by
  rw [<- hW]; refine ⟨⟨?_,?_⟩,fun i=>?_⟩ <;> simp [go_sem]
 have HZ:=Lib.hid hz;have HBX:=Lib.hid hbx;have HFR:=Lib.hid hfr;have HWX:=Lib.hid hWx;have HCA:=Lib.hid (zha p _ (HH.out.ext hWx) hsz hdm);have HNC:=Lib.hid p.nf_can;have HFD:=Lib.hid (Nat.le_trans p.nf.dm_ds hp.dm);obtain ⟨b0,b1,b2,b3⟩:=hbx;clear hz hfr hWx hp hsz hdm;generalize p.nf=P at *;unfold plV at HCA;unfold plV;obtain ⟨zz,hzz⟩:=n_m ((if P.lv=0 then P.z else 0));obtain ⟨bb,hbb⟩:=n_m (decide (P.lv=0));rw [hzz,hbb];have HZZ:=Lib.hid hzz;have HBB:=Lib.hid hbb;clear hzz hbb;go_enter Tryz.func67,Tryz.ntmps67;go_wp2_with fail;clear hW b0 b1 b2 b3;refine HCA.out.mono ?_;rintro e w1 ⟨v1,rfl,m1,x1⟩;obtain ⟨C0,j0,f0,C1,f1,rfl,-⟩:=id m1.open_;have hs1:=x1.size;obtain ⟨b0,b1,b2,b3⟩:=HBX.out.ext x1 (by omega);have fr:∀ i,w1.frozen? ⟨w.heap.size,i,none⟩=false:=fun i=>(x1.frozen (p:=⟨w.heap.size,i,none⟩) (by show w.heap.size < _; omega)).trans (HFR.out i)
 obtain ⟨W1,hW1⟩:=n_m (((((w1.setCell ⟨w.heap.size,0,none⟩ (.int .i64 P.lv)).setCell ⟨w.heap.size,1,none⟩ (.bool P.neg)).setCell ⟨w.heap.size,2,none⟩ (.slice C0 j0 f0)).setCell ⟨w.heap.size,3,none⟩ (.slice C1 P.cs.length f1)));have X1:Hid (Ext w W1):=Lib.hid (by rw [<- hW1]; exact ((((HWX.out.trans x1).setCell (Nat.le_refl _) _).setCell (Nat.le_refl _) _).setCell (Nat.le_refl _) _).setCell (Nat.le_refl _) _);have hbb:yc3 W1 w.heap.size P (.slice C0 j0 f0) (.slice C1 P.cs.length f1):=by rw [<- hW1]; exact yc3.set (HBX.out.ext x1 (by omega))
 have hb1:W1.heap[w.heap.size+1]?=W.heap[w.heap.size+1]?:=by
  rw [<- hW1,xde _ _ _ _ _ _ _ (by omega)];exact x1.below.block _ (by omega)
 have hs2:W1.heap.size=w1.heap.size:=by rw [<- hW1]; simp [World.setCell]
 have HIN:Hid (xc4 W1 (.agg #[.bool P.neg,.slice C0 j0 f0]) P.z P.ds.length):=by
  have:xc4 W1 (.agg #[.bool P.neg,.slice C0 j0 f0]) P.z P.ds.length:=by
   obtain ⟨A1,n1,c1,A2,c2,e,hn,-⟩:=m1.open_;unfold plV at e;simp only [Value.agg.injEq,Array.mk.injEq,List.cons.injEq,and_true,true_and] at e;rw [e.1];refine ⟨_,_,_,rfl,?_,rfl,Nat.le_refl _⟩;rw [<- hW1];have e1:=fun (i j:Nat) (hij:i ≠ j) (X:World) (u:Value)=>World.cell?_setCell_other X ⟨w.heap.size,i,none⟩ ⟨w.heap.size,j,none⟩ u (by intro e; injection e; omega)
   refine (((hn.box b0 rfl _).box (u:=.bool p.neg) ?_ rfl _).box (u:=.slice A0 n0 c0) ?_ rfl _).box (u:=.slice A p.cs.length c) ?_ rfl _
   · rw [World.cell?_setCell_other _ _ _ _ (by simp)]; exact b1
   · rw [World.cell?_setCell_other _ _ _ _ (by simp),World.cell?_setCell_other _ _ _ _ (by simp)]; exact b2
   · rw [World.cell?_setCell_other _ _ _ _ (by simp),World.cell?_setCell_other _ _ _ _ (by simp),World.cell?_setCell_other _ _ _ _ (by simp)]; exact b3
  exact this
 have HZ1:Hid (∀ W',Ext W1 W'->(W'.cell? ⟨w.heap.size+1,0,none⟩=some (.bool false)/\W'.cell? ⟨w.heap.size+1,1,none⟩=some (.slice none 0 0))/\∀ i,W'.frozen? ⟨w.heap.size+1,i,none⟩=false):=by
  have:∀ W',Ext W1 W'->(W'.cell? ⟨w.heap.size+1,0,none⟩=some (.bool false)/\W'.cell? ⟨w.heap.size+1,1,none⟩=some (.slice none 0 0))/\∀ i,W'.frozen? ⟨w.heap.size+1,i,none⟩=false:=fun W' hx=>by
   have hh:=(hx.below.block (w.heap.size+1) (by omega)).trans hb1;have k1:∀ i,W'.cell? ⟨w.heap.size+1,i,none⟩=W.cell? ⟨w.heap.size+1,i,none⟩:=fun i=>World.cell?_of_block (a:=⟨w.heap.size+1,i,none⟩) hh
   have k2:∀ i,W'.frozen? ⟨w.heap.size+1,i,none⟩=W.frozen? ⟨w.heap.size+1,i,none⟩:=fun i=>by
    rw [hx.frozen (p:=⟨w.heap.size+1,i,none⟩) (by show w.heap.size+1 < _; omega),<- hW1];simp only [World.frozen?_setCell];exact x1.frozen (p:=⟨w.heap.size+1,i,none⟩) (by show w.heap.size+1 < _; omega)
   exact ⟨⟨(k1 0).trans HZ.out.1.1,(k1 1).trans HZ.out.1.2⟩,fun i=>(k2 i).trans (HZ.out.2 i)⟩
  exact this
 have hs3:=X1.out.size;unfold plV
 by_cases hl:P.lv=0
 · have hl2:(P.lv != 0)=false:=by simpa using hl
   have HB:Hid (bb=true):=Lib.hid (HBB.out.symm.trans (by simpa using hl));have HV:Hid (zz=P.z):=Lib.hid (HZZ.out.symm.trans (if_pos hl));have HLZ:=Lib.hid hl;clear hl;have HNO:=Lib.hid (xdi _ P.z _ W1 HIN.out (Nat.le_trans HFD.out hD));go_upto_region 2 with fail;obtain ⟨d0,d1,d2,d3⟩:=hbb;have hl:=HLZ.out;clear hW1 b0 b1 b2 b3 fr;go_wp2_with fail;clear d0 d1 d2 d3;refine HNO.out.mono ?_;rintro e w2 ⟨z2,rfl,⟨y2,rfl,m2⟩,x2⟩;obtain ⟨C2,k2,rfl,-⟩:=id m2;obtain ⟨⟨z0,z1⟩,zf⟩:=HZ1.out _ x2;have hcl:=yc9 (g:=w.heap.size+1) (z:=P.z) (u0:=.bool false) (u1:=.slice none 0 0) (X1.out.trans x2) (Nat.le_succ _) z0 z1 rfl rfl ⟨_,rfl,m2⟩;have HF:=Lib.hid hcl;have HI2:=Lib.hid m2;clear m2 x2 HNO HZ1 HIN hcl;go_wp2_with fail;obtain ⟨x,ex,hx1,hx2⟩:=HF.out;injection ex with ex
   subst ex;exact bodyPost_ret (v:=.tuple #[.agg #[.bool (decide (P.z < 0)),.slice C2 (dg P.z.natAbs).length k2],.bool true]) (by simp [results,Tryz.results67,go_sem,z0,z1]) rfl ⟨_,by rw [HB.out],by rw [HV.out]; exact hx1,hx2⟩
 · have hl2:(P.lv != 0)=true:=by simpa using hl
   have HB:Hid (bb=false):=Lib.hid (HBB.out.symm.trans (by simpa using hl));have HV:Hid (zz=0):=Lib.hid (HZZ.out.symm.trans (if_neg hl));have HLZ:=Lib.hid hl;clear hl;go_upto_region 2 with fail;obtain ⟨d0,d1,d2,d3⟩:=hbb;obtain ⟨⟨z0,z1⟩,zf⟩:=HZ1.out _ (Ext.refl _);clear hW1 b0 b1 b2 b3 fr;have hl:=HLZ.out;have hcl:=yc9 (g:=w.heap.size+1) (z:=0) (u0:=.bool false) (u1:=.slice none 0 0) (b:=.bool false) (s:=.slice none 0 0) X1.out (Nat.le_succ _) z0 z1 rfl rfl ⟨_,rfl,by rw [Int.natAbs_zero,uc5]; exact vc2.nil _⟩;have HF:=Lib.hid hcl;clear hcl;go_wp2_with fail;obtain ⟨x,ex,hx1,hx2⟩:=HF.out;injection ex with ex
   subst ex;exact bodyPost_ret (v:=.tuple #[.agg #[.bool false,.slice none 0 0],.bool false]) (by simp [results,Tryz.results67,go_sem,z0,z1]) rfl ⟨_,by rw [HB.out],by rw [HV.out]; exact hx1,hx2⟩
end Go.Proofs.YtopddaabiinboaaGreat
