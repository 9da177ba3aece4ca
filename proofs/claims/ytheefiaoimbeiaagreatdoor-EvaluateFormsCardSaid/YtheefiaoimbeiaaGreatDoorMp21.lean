/- Layer 38: the state of a prenex.builder in memory, and what changes it. -/
import Derived.Test.YtheefiaoimbeiaaGreatDoorMp20
set_option linter.unusedSimpArgs false
set_option linter.unusedVariables false

namespace Go.Proofs.YtheefiaoimbeiaaGreatDoor
open Go.RowKit
theorem yd4 : vee 34 9 1 16 (.string ByteArray.empty) where
 und:=Tryz.underlying34
 info:=zei
 cells:=rfl
 pos:=by omega
 nodig:=by
  intro u hu;simp only [Value.cells,rb] at hu;rw [hu]
  rfl
theorem gfj:(Tryz.prog.info? 4).map (fun i=>(i.zero,i.size,i.bytes))=some (some (.bool false),1,1):=by kernel_rfl
theorem qf6 : vee 41 4 1 1 (.bool false) where
 und:=Tryz.underlying41
 info:=gfj
 cells:=rfl
 pos:=by omega
 nodig:=by
  intro u hu;simp only [Value.cells,rb] at hu;rw [hu]
  rfl
def bools (l:List Bool):List Value:=l.map Value.bool
theorem qfl (l:List Bool) (s:Bool):bools (l ++ [s])=bools l ++ [.bool s]:=by simp [bools]
def SNm (base:Nat) (W:World) (v:Value) (l:List ByteArray) (o:Option Nat):Prop:=(vdm 9 1 base W v l.length (strs l)/\o=v.ownBlock)\/(l=[]/\o=none/\∃ A,v=.slice A 0 0)
theorem SNm.len {base:Nat} {W:World} {v:Value} {l:List ByteArray} {o:Option Nat} (h:SNm base W v l o):∃ A c,v=.slice A l.length c/\l.length<=c/\c<=9223372036854775807:=by
 rcases h with ⟨h,-⟩ | ⟨rfl,-,A,rfl⟩
 · exact h.len
 · exact ⟨A,0,rfl,by simp,by omega⟩
theorem SNm.own {base:Nat} {W:World} {v:Value} {l:List ByteArray} {o:Option Nat} (h:SNm base W v l o) {R:Nat} (hR:o=some R):base<=R/\R < W.heap.size:=by
 rcases h with ⟨h,rfl⟩ | ⟨-,rfl,-⟩
 · exact h.own hR
 · cases hR
theorem SNm.ql {base:Nat} {W W':World} {v:Value} {l:List ByteArray} {o:Option Nat} (h:SNm base W v l o) (hb:∀ R,o=some R->W'.heap[R]?=W.heap[R]?):SNm base W' v l o:=by
 rcases h with ⟨h,rfl⟩ | h
 · exact .inl ⟨h.ql hb,rfl⟩
 · exact .inr h
theorem SNm.ext {base:Nat} {W W':World} {v:Value} {l:List ByteArray} {o:Option Nat} (h:SNm base W v l o) (hx:Ext W W'):SNm base W' v l o:=h.ql fun R hR=>hx.below.block R (h.own hR).2
theorem SNm.push {base:Nat} {W:World} {v:Value} {l:List ByteArray} {o:Option Nat} (h:SNm base W v l o) (adW:base<=W.heap.size) (s:ByteArray) (hlen:l.length+1<=1000000000) (ty:TypeId) :
 ∃ v4 w4,(Builtin.append_ #[34,34] ty #[v,.slice (some ⟨W.heap.size,0,none⟩) 1 1]).run Tryz.prog (W.alloc (.cells #[.string s] 9))=.ok v4 w4/\SNm base w4 v4 (l ++ [s]) v4.ownBlock/\W.grownBy w4 o/\(∀ v ds,zb1 W v ds->zb1 w4 v ds)/\(v4.ownBlock=o\/∃ g,v4.ownBlock=some g/\W.heap.size<=g):=by
 have key:∀ v,vdm 9 1 base W v l.length (strs l)->∃ v4 w4,(Builtin.append_ #[34,34] ty #[v,.slice (some ⟨W.heap.size,0,none⟩) 1 1]).run Tryz.prog (W.alloc (.cells #[.string s] 9))=.ok v4 w4/\SNm base w4 v4 (l ++ [s]) v4.ownBlock/\W.grownBy w4 v.ownBlock/\(∀ v ds,zb1 W v ds->zb1 w4 v ds)/\(v4.ownBlock=v.ownBlock\/∃ g,v4.ownBlock=some g/\W.heap.size<=g):=by
  intro v h;obtain ⟨v4,w4,h1,h2,h3,h4,h5⟩:=vdm.push yd4 h adW [.string s] rfl (by
   intro u hu;rw [rb.1 hu]
   exact ⟨rfl,rfl⟩) (by omega) (by omega) ty
  refine ⟨v4,w4,h1,.inl ⟨?_,rfl⟩,h3,h4,h5.imp id fun e=>⟨_,e,by omega⟩⟩;rw [wed,pz];exact h2
 rcases h with ⟨h,rfl⟩ | ⟨rfl,rfl,A,rfl⟩
 · exact key v h
 · obtain ⟨v4,w4,h1,h2,h3,h4,h5⟩:=key (.slice none 0 0) (vdm.nil _ _ _ _);refine ⟨v4,w4,?_,h2,h3,h4,h5⟩;cases A with
   | none=>exact h1
   | some ad =>
     obtain ⟨i0,hi,hz0,hz1,hz2⟩:=info_parts yd4.info;have hc:∀ j u,[Value.string s][j]?=some u->(W.alloc (.cells #[.string s] 9)).cell? ((⟨W.heap.size,0,none⟩:Addr).add j)=some u:=fun j u hu=>by
      rw [kdo,pH,cell_of_row _ _ j _ _ (0,0) (heap_alloc_new W _)];simpa using hu
     have e1:=run_append_nil (P:=Tryz.prog) (W.alloc (.cells #[.string s] 9)) 34 ty 9 i0 _ yd4.und hi hz0 ⟨W.heap.size,0,none⟩ 1 1 [.string s] (by rw [hz1]; rfl) hc (by omega) (by omega) (by rw [hz2]; omega);have e2:=run_append_grow (P:=Tryz.prog) (W.alloc (.cells #[.string s] 9)) 34 ty 9 i0 _ yd4.und hi hz0 ad 0 0 [] (by simp) (by intro j v hv; simp at hv) ⟨W.heap.size,0,none⟩ 1 1 [.string s] (by rw [hz1]; rfl) hc (by omega) (by omega) (by rw [nextslicecap_zero (by omega),hz2]; omega);rw [e2,<- h1,e1];simp
theorem uft {base:Nat} {W:World} {v:Value} {l:List Bool} (h:vdm 4 1 base W v l.length (bools l)) (adW:base<=W.heap.size) (s:Bool) (hlen:l.length+1<=1000000000) (ty:TypeId) :
 ∃ v4 w4,(Builtin.append_ #[41,41] ty #[v,.slice (some ⟨W.heap.size,0,none⟩) 1 1]).run Tryz.prog (W.alloc (.cells #[.bool s] 4))=.ok v4 w4/\vdm 4 1 base w4 v4 (l ++ [s]).length (bools (l ++ [s]))/\W.grownBy w4 v.ownBlock/\(∀ v ds,zb1 W v ds->zb1 w4 v ds)/\(v4.ownBlock=v.ownBlock\/∃ g,v4.ownBlock=some g/\W.heap.size<=g):=by
 obtain ⟨v4,w4,h1,h2,h3,h4,h5⟩:=vdm.push qf6 h adW [.bool s] rfl (by
  intro u hu;rw [rb.1 hu]
  exact ⟨rfl,rfl⟩) (by omega) (by omega) ty
 refine ⟨v4,w4,h1,?_,h3,h4,h5.imp id fun e=>⟨_,e,by omega⟩⟩;rw [qfl,pz];exact h2
structure vdp (own : Nat -> Prop) (W : World) (own' : Nat -> Prop) (W' : World) : Prop where
 keeps:qdk own W own' W'
 nat:∀ v ds,zb1 W v ds->zb1 W' v ds
theorem vdp.refl (own:Nat->Prop) (W:World):vdp own W own W:=⟨qdk.refl _ _,fun _ _ h=>h⟩
theorem vdp.trans {o1 o2 o3:Nat->Prop} {a b c:World} (h:vdp o1 a o2 b) (k:vdp o2 b o3 c):vdp o1 a o3 c:=⟨h.keeps.trans k.keeps,fun v ds hv=>k.nat v ds (h.nat v ds hv)⟩
theorem vdp.qo {o:Nat->Prop} {a b:World} (h:Ext a b):vdp o a o b:=⟨qdk.qo h,fun _ _ hv=>hv.ext h⟩
theorem vdp.size {o1 o2:Nat->Prop} {a b:World} (h:vdp o1 a o2 b):a.heap.size<=b.heap.size:=h.keeps.size
theorem vdp.ext {w0 a b:World} {o1 o2:Nat->Prop} (h:vdp o1 a o2 b) (hx:Ext w0 a) (ho:∀ i,o1 i->w0.heap.size<=i):Ext w0 b:=h.keeps.ext hx ho
theorem vdp.mx {o1 o2:Nat->Prop} {a b:World} (h:vdp o1 a o2 b) {base:Nat} {m:Mx} {v:Value} (hm:MxV a (fun i=>base<=i/\¬ o1 i) m v):MxV b (fun i=>base<=i/\¬ o2 i) m v:=
 hm.qO h.size h.nat fun i hi hp=>⟨⟨hp.1,fun ho=>hp.2 (h.keeps.own i hi ho)⟩,h.keeps.block i hi hp.2⟩
theorem vey {w w':World} {b:Nat} {es:Array MapEntry} {clock:Nat} (hb:w.heap[b]?=some (.map es clock)) (ho:Only b w w') {v:Value} {ds:List Nat} (h:zb1 w v ds):zb1 w' v ds:=by
 obtain ⟨A,c,e,h1,h2,h3,h4⟩:=h;refine ⟨A,c,e,h1,h2,h3,fun hd=>?_⟩;obtain ⟨ad,e4,hlt,hc⟩:=h4 hd;refine ⟨ad,e4,pr hlt ho.size,fun j hj=>(ho.cell (p:=ad.add j) (by rw [zc1]; exact hlt) ?_).trans (hc j hj)⟩;rw [zc1];intro hbe;have h0:=hc 0 hd;rw [World.cell?,zc1,hbe,hb] at h0;cases h0
structure zdp (base gb bl bt : Nat) (W : World) (own : Nat -> Prop) (s : PSt) (tk : List ByteArray) : Prop where
 ex:∃ nv av on,W.cell? ⟨gb,0,none⟩=some nv/\W.cell? ⟨gb,1,none⟩=some av/\SNm base W nv s.names on/\vdm 4 1 base W av s.all.length (bools s.all)/\(∀ i,own i ↔ i=gb\/i=bl\/i=bt\/on=some i\/av.ownBlock=some i)/\(∀ i,on=some i->av.ownBlock ≠ some i)/\∀ i,on=some i\/av.ownBlock=some i->i ≠ gb/\i ≠ bl/\i ≠ bt
 c2:W.cell? ⟨gb,2,none⟩=some (.map (some bl))
 c3:W.cell? ⟨gb,3,none⟩=some (.map (some bt))
 fr:∀ i,W.frozen? ⟨gb,i,none⟩=false
 lev:jdv W bl s.lev
 tak:vdy W bt tk
 lt:gb < W.heap.size/\bl < W.heap.size/\bt < W.heap.size/\base<=W.heap.size
 ne:gb ≠ bl/\gb ≠ bt/\bl ≠ bt
section
variable {base gb bl bt:Nat} {W W':World} {own own':Nat->Prop} {s:PSt} {tk:List ByteArray}
theorem zdp.xA (h:zdp base gb bl bt W own s tk) {i:Nat} (hi:own i):i < W.heap.size/\(i=gb\/i=bl\/i=bt\/base<=i):=by
 obtain ⟨nv,av,on,-,-,h3,h4,h5,-,-⟩:=h.ex;have:=h.lt;rcases (h5 i).1 hi with e | e | e | e | e
 · omega
 · omega
 · omega
 · have:=h3.own e; omega
 · have:=h4.own e; omega
theorem zdp.ext (h:zdp base gb bl bt W own s tk) (hx:Ext W W'):zdp base gb bl bt W' own s tk:=by
 obtain ⟨nv,av,on,h1,h2,h3,h4,h5,h6,hap⟩:=h.ex;have hl:=h.lt;have hc:∀ i,W'.cell? ⟨gb,i,none⟩=W.cell? ⟨gb,i,none⟩:=fun i=>hx.cell (p:=⟨gb,i,none⟩) (by show gb < _; omega)
 exact ⟨⟨nv,av,on,(hc 0).trans h1,(hc 1).trans h2,h3.ext hx,h4.ext hx,h5,h6,hap⟩,(hc 2).trans h.c2,(hc 3).trans h.c3,fun i=>(hx.frozen (p:=⟨gb,i,none⟩) (by show gb < _; omega)).trans (h.fr i),h.lev.ext hx,h.tak.ext hx,by have:=hx.size; omega,h.ne⟩
theorem zdp.ql (h:zdp base gb bl bt W own s tk) (hs:W.heap.size<=W'.heap.size) (hb:∀ i,own i->W'.heap[i]?=W.heap[i]?) (hf:∀ a,W'.frozen? a=W.frozen? a):zdp base gb bl bt W' own s tk:=by
 obtain ⟨nv,av,on,h1,h2,h3,h4,h5,h6,hap⟩:=id h.ex;have hl:=h.lt;have hgb:=hb gb ((h5 gb).2 (.inl rfl));have hc:∀ i,W'.cell? ⟨gb,i,none⟩=W.cell? ⟨gb,i,none⟩:=fun i=>ph (a:=⟨gb,i,none⟩) hgb
 exact ⟨⟨nv,av,on,(hc 0).trans h1,(hc 1).trans h2,h3.ql fun R e=>hb R ((h5 R).2 (.inr (.inr (.inr (.inl e))))),h4.ql fun R e=>hb R ((h5 R).2 (.inr (.inr (.inr (.inr e))))),h5,h6,hap⟩,(hc 2).trans h.c2,(hc 3).trans h.c3,fun i=>(hf _).trans (h.fr i),h.lev.block (hb bl ((h5 bl).2 (.inr (.inl rfl)))),h.tak.block (hb bt ((h5 bt).2 (.inr (.inr (.inl rfl))))),by omega,h.ne⟩
theorem zdp.yQ (h:zdp base gb bl bt W own s tk) (hlen:s.names.length<=1000):∃ nA nc,W.cell? ⟨gb,0,none⟩=some (.slice nA s.names.length nc)/\∀ nm:ByteArray,∃ nB nd w4 own',(Builtin.append_ #[34,34] 34 #[.slice nA s.names.length nc,.slice (some ⟨W.heap.size,0,none⟩) 1 1]).run Tryz.prog (W.alloc (.cells #[.string nm] 9))=.ok (.slice nB (s.names.length+1) nd) w4 /\
 w4.cell? ⟨gb,0,none⟩=some (.slice nA s.names.length nc)/\w4.frozen? ⟨gb,0,none⟩=false/\zdp base gb bl bt (w4.setCell ⟨gb,0,none⟩ (.slice nB (s.names.length+1) nd)) own' ⟨s.names ++ [nm],s.all,s.lev⟩ tk/\vdp own W own' (w4.setCell ⟨gb,0,none⟩ (.slice nB (s.names.length+1) nd)):=by
 obtain ⟨nv,av,on,h1,h2,h3,h4,h5,h6,hap⟩:=id h.ex;obtain ⟨nA,nc,rfl,-⟩:=h3.len;refine ⟨nA,nc,h1,fun nm=>?_⟩;have hl:=h.lt;have hne:=h.ne;obtain ⟨v4,w4,ab3,g1,g2,g3,g4⟩:=h3.push hl.2.2.2 nm (by omega) 34;obtain ⟨nB,nd,e4,-⟩:=g1.len;rw [pz] at e4;have e4':v4=.slice nB (s.names.length+1) nd:=e4;subst e4';have hon:∀ i,on=some i->base<=i/\i < W.heap.size:=fun i e=>h3.own e
 have hav:∀ i,av.ownBlock=some i->base<=i/\i < W.heap.size:=fun i e=>h4.own e
 have hblk:∀ i,i < W.heap.size->on ≠ some i->w4.heap[i]?=W.heap[i]?:=fun i hi hn=>pW g2 i hi (fun e=>hn e.symm)
 have hsz:=ud g2;have hgb:w4.heap[gb]?=W.heap[gb]?:=hblk gb (by omega) (fun e=>(hap gb (.inl e)).1 rfl);have hc4:∀ i,w4.cell? ⟨gb,i,none⟩=W.cell? ⟨gb,i,none⟩:=fun i=>ph (a:=⟨gb,i,none⟩) hgb
 have hf4:∀ i,w4.frozen? ⟨gb,i,none⟩=false:=fun i=>(sh (a:=⟨gb,i,none⟩) hgb).trans (h.fr i)
 have hb5:∀ i,i ≠ gb->(w4.setCell ⟨gb,0,none⟩ (.slice nB (s.names.length+1) nd)).heap[i]?=w4.heap[i]?:=fun i hi=>Below.heap_setCell _ _ _ i hi
 have hc5:∀ i,i ≠ 0->(w4.setCell ⟨gb,0,none⟩ (.slice nB (s.names.length+1) nd)).cell? ⟨gb,i,none⟩=W.cell? ⟨gb,i,none⟩:=fun i hi=>(pe _ _ _ _ (by intro e; injection e; omega)).trans (hc4 i)
 have hs5:(w4.setCell ⟨gb,0,none⟩ (.slice nB (s.names.length+1) nd)).heap.size=w4.heap.size:=by simp [World.setCell]
 have ajz:∀ i,(Value.slice nB (s.names.length+1) nd).ownBlock=some i->i < W.heap.size->on=some i:=fun i e hi=>by
  rcases g4 with g4 | ⟨g,g4,hg⟩
  · rw [<- g4]; exact e
  · have:=uX (g4.symm.trans e); omega
 have hnb:∀ i,(Value.slice nB (s.names.length+1) nd).ownBlock=some i->i ≠ gb/\i ≠ bl/\i ≠ bt:=fun i e=>by
  by_cases hi:i < W.heap.size
  · exact hap i (.inl (ajz i e hi))
  · omega
 refine ⟨nB,nd,w4,fun i=>i=gb\/i=bl\/i=bt\/(Value.slice nB (s.names.length+1) nd).ownBlock=some i\/av.ownBlock=some i,ab3,(hc4 0).trans h1,hf4 0,⟨⟨_,av,_,pG _ _ _ ((hc4 0).trans h1),(hc5 1 (by omega)).trans h2,g1.ql fun R e=>hb5 R (hnb R e).1,h4.ql fun R e=>(hb5 R (hap R (.inr e)).1).trans (hblk R (hav R e).2 fun e2=>h6 R e2 e),fun i=>Iff.rfl,fun i e e2=>?_,fun i e=>e.elim (hnb i) fun e=>hap i (.inr e)⟩,(hc5 2 (by omega)).trans h.c2,(hc5 3 (by omega)).trans h.c3,fun i=>by rw [pJ]; exact hf4 i,h.lev.block ((hb5 bl (Ne.symm hne.1)).trans (hblk bl (by omega) fun e=>(hap bl (.inl e)).2.1 rfl)),h.tak.block ((hb5 bt (Ne.symm hne.2.1)).trans (hblk bt (by omega) fun e=>(hap bt (.inl e)).2.2 rfl)),by rw [hs5]; omega,h.ne⟩,⟨⟨(show _=_ from rR (w':=w4) g2),(show _=_ from rK (w':=w4) g2),(show _=_ from rE (w':=w4) g2),by rw [hs5]; exact hsz,fun i hi hn=>?_,fun i hi ho=>?_⟩,fun v ds hv=>(g3 v ds hv).box ((hc4 0).trans h1) rfl _⟩⟩
 · exact h6 i (ajz i e (hav i e2).2) e2
 · have hn':=fun x=>hn ((h5 i).2 x)
   rw [hb5 i (fun e=>hn' (.inl e))];exact hblk i hi fun e=>hn' (.inr (.inr (.inr (.inl e))))
 · refine (h5 i).2 ?_;rcases ho with e | e | e | e | e
   · exact .inl e
   · exact .inr (.inl e)
   · exact .inr (.inr (.inl e))
   · exact .inr (.inr (.inr (.inl (ajz i e hi))))
   · exact .inr (.inr (.inr (.inr e)))
theorem zdp.ji (h:zdp base gb bl bt W own s tk) (hlen:s.all.length<=1000):∃ nA nc,W.cell? ⟨gb,1,none⟩=some (.slice nA s.all.length nc)/\∀ b:Bool,∃ nB nd w4 own',(Builtin.append_ #[41,41] 41 #[.slice nA s.all.length nc,.slice (some ⟨W.heap.size,0,none⟩) 1 1]).run Tryz.prog (W.alloc (.cells #[.bool b] 4))=.ok (.slice nB (s.all.length+1) nd) w4 /\
 w4.cell? ⟨gb,1,none⟩=some (.slice nA s.all.length nc)/\w4.frozen? ⟨gb,1,none⟩=false/\zdp base gb bl bt (w4.setCell ⟨gb,1,none⟩ (.slice nB (s.all.length+1) nd)) own' ⟨s.names,s.all ++ [b],s.lev⟩ tk/\vdp own W own' (w4.setCell ⟨gb,1,none⟩ (.slice nB (s.all.length+1) nd)):=by
 obtain ⟨nv,av,on,h1,h2,h3,h4,h5,h6,hap⟩:=id h.ex;obtain ⟨nA,nc,rfl,-⟩:=h4.len;refine ⟨nA,nc,h2,fun b=>?_⟩;have hl:=h.lt;have hne:=h.ne;obtain ⟨v4,w4,ab3,g1,g2,g3,g4⟩:=uft h4 hl.2.2.2 b (by omega) 41;obtain ⟨nB,nd,e4,-⟩:=g1.len;rw [pz] at e4;have e4':v4=.slice nB (s.all.length+1) nd:=e4;subst e4';have hon:∀ i,on=some i->base<=i/\i < W.heap.size:=fun i e=>h3.own e
 have hav:∀ i,(Value.slice nA s.all.length nc).ownBlock=some i->base<=i/\i < W.heap.size:=fun i e=>h4.own e
 have hblk:∀ i,i < W.heap.size->(Value.slice nA s.all.length nc).ownBlock ≠ some i->w4.heap[i]?=W.heap[i]?:=fun i hi hn=>pW g2 i hi (fun e=>hn e.symm)
 have hsz:=ud g2;have hgb:w4.heap[gb]?=W.heap[gb]?:=hblk gb (by omega) (fun e=>(hap gb (.inr e)).1 rfl);have hc4:∀ i,w4.cell? ⟨gb,i,none⟩=W.cell? ⟨gb,i,none⟩:=fun i=>ph (a:=⟨gb,i,none⟩) hgb
 have hf4:∀ i,w4.frozen? ⟨gb,i,none⟩=false:=fun i=>(sh (a:=⟨gb,i,none⟩) hgb).trans (h.fr i)
 have hb5:∀ i,i ≠ gb->(w4.setCell ⟨gb,1,none⟩ (.slice nB (s.all.length+1) nd)).heap[i]?=w4.heap[i]?:=fun i hi=>Below.heap_setCell _ _ _ i hi
 have hc5:∀ i,i ≠ 1->(w4.setCell ⟨gb,1,none⟩ (.slice nB (s.all.length+1) nd)).cell? ⟨gb,i,none⟩=W.cell? ⟨gb,i,none⟩:=fun i hi=>(pe _ _ _ _ (by intro e; injection e; omega)).trans (hc4 i)
 have hs5:(w4.setCell ⟨gb,1,none⟩ (.slice nB (s.all.length+1) nd)).heap.size=w4.heap.size:=by simp [World.setCell]
 have ajz:∀ i,(Value.slice nB (s.all.length+1) nd).ownBlock=some i->i < W.heap.size->(Value.slice nA s.all.length nc).ownBlock=some i:=fun i e hi=>by
  rcases g4 with g4 | ⟨g,g4,hg⟩
  · rw [<- g4]; exact e
  · have:=uX (g4.symm.trans e); omega
 have hnb:∀ i,(Value.slice nB (s.all.length+1) nd).ownBlock=some i->i ≠ gb/\i ≠ bl/\i ≠ bt:=fun i e=>by
  by_cases hi:i < W.heap.size
  · exact hap i (.inr (ajz i e hi))
  · omega
 refine ⟨nB,nd,w4,fun i=>i=gb\/i=bl\/i=bt\/on=some i\/(Value.slice nB (s.all.length+1) nd).ownBlock=some i,ab3,(hc4 1).trans h2,hf4 1,⟨⟨nv,_,on,(hc5 0 (by omega)).trans h1,pG _ _ _ ((hc4 1).trans h2),h3.ql fun R e=>(hb5 R (hap R (.inl e)).1).trans (hblk R (hon R e).2 fun e2=>h6 R e e2),g1.ql fun R e=>hb5 R (hnb R e).1,fun i=>Iff.rfl,fun i e e2=>?_,fun i e=>e.elim (fun e=>hap i (.inl e)) (hnb i)⟩,(hc5 2 (by omega)).trans h.c2,(hc5 3 (by omega)).trans h.c3,fun i=>by rw [pJ]; exact hf4 i,h.lev.block ((hb5 bl (Ne.symm hne.1)).trans (hblk bl (by omega) fun e=>(hap bl (.inr e)).2.1 rfl)),h.tak.block ((hb5 bt (Ne.symm hne.2.1)).trans (hblk bt (by omega) fun e=>(hap bt (.inr e)).2.2 rfl)),by rw [hs5]; omega,h.ne⟩,⟨⟨(show _=_ from rR (w':=w4) g2),(show _=_ from rK (w':=w4) g2),(show _=_ from rE (w':=w4) g2),by rw [hs5]; exact hsz,fun i hi hn=>?_,fun i hi ho=>?_⟩,fun v ds hv=>(g3 v ds hv).box ((hc4 1).trans h2) rfl _⟩⟩
 · exact h6 i e (ajz i e2 (hon i e).2)
 · have hn':=fun x=>hn ((h5 i).2 x)
   rw [hb5 i (fun e=>hn' (.inl e))];exact hblk i hi fun e=>hn' (.inr (.inr (.inr (.inr e))))
 · refine (h5 i).2 ?_;rcases ho with e | e | e | e | e
   · exact .inl e
   · exact .inr (.inl e)
   · exact .inr (.inr (.inl e))
   · exact .inr (.inr (.inr (.inl e)))
   · exact .inr (.inr (.inr (.inr (ajz i e hi))))
theorem zdp.zv (h:zdp base gb bl bt W own s tk) (nm:ByteArray) (n:Int):∃ w4,(Instr.mapUpdate 90 (.map (some bl)) (.string nm) (.int .i64 n)).run Tryz.prog W=.ok () w4/\zdp base gb bl bt w4 own ⟨s.names,s.all,fun t=>if t=nm then n else s.lev t⟩ tk/\vdp own W own w4/\Only bl W w4:=by
 obtain ⟨nv,av,on,h1,h2,h3,h4,h5,h6,hap⟩:=id h.ex;have hl:=h.lt;have hne:=h.ne;obtain ⟨w4,ab3,g1,g2⟩:=h.lev.put nm n;have hon:∀ i,on=some i->base<=i/\i < W.heap.size:=fun i e=>h3.own e
 have hav:∀ i,av.ownBlock=some i->base<=i/\i < W.heap.size:=fun i e=>h4.own e
 have hblk:∀ i,i < W.heap.size->i ≠ bl->w4.heap[i]?=W.heap[i]?:=fun i hi hn=>g2.block hi hn
 have hc4:∀ i,w4.cell? ⟨gb,i,none⟩=W.cell? ⟨gb,i,none⟩:=fun i=>ph (a:=⟨gb,i,none⟩) (hblk gb (by omega) hne.1)
 have hs:=g2.size;obtain ⟨ls,⟨es,clock,aoM,-⟩,-⟩:=id h.lev;refine ⟨w4,ab3,⟨⟨nv,av,on,(hc4 0).trans h1,(hc4 1).trans h2,h3.ql fun R e=>hblk R (hon R e).2 (hap R (.inl e)).2.1,h4.ql fun R e=>hblk R (hav R e).2 (hap R (.inr e)).2.1,h5,h6,hap⟩,(hc4 2).trans h.c2,(hc4 3).trans h.c3,fun i=>(sh (a:=⟨gb,i,none⟩) (hblk gb (by omega) hne.1)).trans (h.fr i),g1,h.tak.block (hblk bt (by omega) (Ne.symm hne.2.2)),by omega,h.ne⟩,⟨⟨rR g2.g,rK g2.g,rE g2.g,hs,fun i hi hn=>hblk i hi fun e=>hn ((h5 i).2 (.inr (.inl e))),fun i _ ho=>ho⟩,fun v ds hv=>vey aoM g2 hv⟩,g2⟩
theorem zdp.zu (h:zdp base gb bl bt W own s tk) (nm:ByteArray):∃ w4,(Instr.mapUpdate 91 (.map (some bt)) (.string nm) (.bool true)).run Tryz.prog W=.ok () w4/\zdp base gb bl bt w4 own s (zed tk nm)/\vdp own W own w4:=by
 obtain ⟨nv,av,on,h1,h2,h3,h4,h5,h6,hap⟩:=id h.ex;have hl:=h.lt;have hne:=h.ne;obtain ⟨w4,ab3,g1,g2⟩:=h.tak.put nm;have hon:∀ i,on=some i->base<=i/\i < W.heap.size:=fun i e=>h3.own e
 have hav:∀ i,av.ownBlock=some i->base<=i/\i < W.heap.size:=fun i e=>h4.own e
 have hblk:∀ i,i < W.heap.size->i ≠ bt->w4.heap[i]?=W.heap[i]?:=fun i hi hn=>g2.block hi hn
 have hc4:∀ i,w4.cell? ⟨gb,i,none⟩=W.cell? ⟨gb,i,none⟩:=fun i=>ph (a:=⟨gb,i,none⟩) (hblk gb (by omega) hne.2.1)
 have hs:=g2.size;obtain ⟨ls,⟨es,clock,aoM,-⟩,-⟩:=id h.tak;refine ⟨w4,ab3,⟨⟨nv,av,on,(hc4 0).trans h1,(hc4 1).trans h2,h3.ql fun R e=>hblk R (hon R e).2 (hap R (.inl e)).2.2,h4.ql fun R e=>hblk R (hav R e).2 (hap R (.inr e)).2.2,h5,h6,hap⟩,(hc4 2).trans h.c2,(hc4 3).trans h.c3,fun i=>(sh (a:=⟨gb,i,none⟩) (hblk gb (by omega) hne.2.1)).trans (h.fr i),h.lev.block (hblk bl (by omega) hne.2.2),g1,by omega,h.ne⟩,⟨⟨rR g2.g,rK g2.g,rE g2.g,hs,fun i hi hn=>hblk i hi fun e=>hn ((h5 i).2 (.inr (.inr (.inl e)))),fun i _ ho=>ho⟩,fun v ds hv=>vey aoM g2 hv⟩⟩
end
def kea (base gb bl bt:Nat) (own:Nat->Prop) (W:World) (tk:List ByteArray) (r:Mx × PSt) (e:Ending) (W':World):Prop:=
 ∃ v own',e=.returned v/\MxV W' (fun i=>W.heap.size<=i/\¬ own' i) r.1 v/\zdp base gb bl bt W' own' r.2 tk/\vdp own W own' W'
theorem kga {base gb bl bt : Nat} {W Wf W' : World} {g : Nat} {m : Mx} {v : Value} {own acp q : Nat -> Prop} {s : PSt} {tk : List ByteArray} (hn : ∀ v ds, zb1 Wf v ds -> zb1 W' v ds) (hh : ∀ b, b ≠ g -> W'.heap[b]? = Wf.heap[b]?) (hsz : W'.heap.size = Wf.heap.size) (hfr : ∀ a, W'.frozen? a = Wf.frozen? a) (ho1 : W'.os = Wf.os) (ho2 : W'.tape = Wf.tape) (ho3 : W'.output = Wf.output)
 (hm:vdp own W acp Wf) (hg:W.heap.size<=g) (hgo:¬ acp g) (hb:zdp base gb bl bt Wf acp s tk) (hp:MxV Wf q m v) (hq:∀ b,b < Wf.heap.size->q b->b ≠ g/\W.heap.size<=b/\¬ acp b):kea base gb bl bt own W tk (m,s) (.returned v) W':=by
 have h1:MxV W' (fun i=>W.heap.size<=i/\¬ acp i) m v:=MxV.qO (by omega) hn (fun b hlt hqb=>⟨(hq b hlt hqb).2,hh b (hq b hlt hqb).1⟩) hp;have h2:zdp base gb bl bt W' acp s tk:=hb.ql (by omega) (fun i hi=>hh i fun e=>hgo (e ▸ hi)) hfr;have h3:qdk own W acp W':=⟨ho1.trans hm.keeps.os,ho2.trans hm.keeps.tape,ho3.trans hm.keeps.output,by have:=hm.size; omega,fun i hi hno=>(hh i (by omega)).trans (hm.keeps.block i hi hno),fun i hi ho=>hm.keeps.own i hi ho⟩;exact ⟨v,acp,rfl,h1,h2,⟨h3,fun v ds hv=>hn v ds (hm.nat v ds hv)⟩⟩
theorem yea {base gb bl bt : Nat} {W Wf : World} {g : Nat} {m : Mx} {own acp q : Nat -> Prop} {s : PSt} {tk : List ByteArray} {A0 A1 K : Option Addr} {n0 c0 n1 c1 n2 c2 : Nat} (hm : vdp own W acp Wf) (hg : W.heap.size <= g) (hgo : ¬ acp g) (hz : gdn Wf g) (hb : zdp base gb bl bt Wf acp s tk)
 (hp:MxV Wf q m (mxV m (.slice A0 n0 c0) (.slice A1 n1 c1) (.slice K n2 c2))) (hq:∀ b,b < Wf.heap.size->q b->b ≠ g/\W.heap.size<=b/\¬ acp b) :
 kea base gb bl bt own W tk (m,s) (.returned (mxV m (.slice A0 n0 c0) (.slice A1 n1 c1) (.slice K n2 c2))) (((((((Wf.setCell ⟨g,0,none⟩ (.int .i64 m.kind)).setCell ⟨g,1,none⟩ (.int .i64 m.rel)).setCell ⟨g,2,none⟩ (.int .i64 m.p.lv)).setCell ⟨g,3,none⟩ (.bool m.p.neg)).setCell ⟨g,4,none⟩ (.slice A0 n0 c0)).setCell ⟨g,5,none⟩ (.slice A1 n1 c1)).setCell ⟨g,6,none⟩ (.slice K n2 c2)):=
 have hbx:=wet (m':=m) (B0:=A0) (m0:=n0) (d0:=c0) (B1:=A1) (m1:=n1) (d1:=c1) (K1:=K) (m2:=n2) (d2:=c2) hz.1
 kga hbx.1 hbx.2 (by simp [World.setCell]) (fun a=>by simp only [pJ]) (by simp only [World.setCell]) (by simp only [World.setCell]) (by simp only [World.setCell]) hm hg hgo hb hp hq
attribute [local go_sem] uds ydr qdt kds zdt wds vds ydp xdr gds xdt udv qdn ydt xdp
theorem vfy (r:Int) (w:World):Calls Tryz.prog 63 #[.int .i64 r] w fun e w'=>e=.returned (.int .i64 (ud4 r))/\w'=w:=by
 unfold ud4
 by_cases h1:r < 1
 · rw [if_pos (.inl h1)];go_enter Tryz.func63,Tryz.ntmps63;go_wp2_with fail;go_ret;exact ⟨rfl,rfl⟩
 · by_cases h2:6 < r
   · rw [if_pos (.inr h2)];go_enter Tryz.func63,Tryz.ntmps63;go_wp2_with fail;go_ret;exact ⟨rfl,rfl⟩
   · rw [if_neg (by omega)];go_enter Tryz.func63,Tryz.ntmps63;go_wp2_with fail;go_ret;exact ⟨rfl,rfl⟩
theorem qft (r:Int) (w:World):Calls Tryz.prog 64 #[.int .i64 r] w fun e w'=>e=.returned (.int .i64 (wek r))/\w'=w:=by
 unfold wek;rcases (show r=1\/r=2\/r=4\/r=5\/r=6\/(r ≠ 1/\r ≠ 2/\r ≠ 4/\r ≠ 5/\r ≠ 6) by omega) with rfl | rfl | rfl | rfl | rfl | ⟨h1,h2,h3,h4,h5⟩
 all_goals
  first | rw [if_neg h1,if_neg h2,if_neg h3,if_neg h4,if_neg h5] | skip
  first | (have k1 : (r == 1) = false := by simp [h1]
           have k2:(r == 2)=false:=by simp [h2]
           have k3:(r == 4)=false:=by simp [h3]
           have k4:(r == 5)=false:=by simp [h4]
           have k5:(r == 6)=false:=by simp [h5]
           clear h1 h2 h3 h4 h5) | skip
  go_enter Tryz.func64,Tryz.ntmps64;go_wp2_with fail;go_ret;exact ⟨rfl,rfl⟩
def ve8 (W:World) (gb bl:Nat) (g:ByteArray->Int):Prop:=W.cell? ⟨gb,2,none⟩=some (.map (some bl))/\gb < W.heap.size/\jdv W bl g
theorem ve8.ext {W W':World} {gb bl:Nat} {g:ByteArray->Int} (h:ve8 W gb bl g) (hx:Ext W W'):ve8 W' gb bl g:=⟨(hx.cell (p:=⟨gb,2,none⟩) h.2.1).trans h.1,pr h.2.1 hx.size,h.2.2.ext hx⟩
section
variable {w0:World} {L gb bl:Nat} {g:ByteArray->Int}
def wdt (w0:World) (L gb bl:Nat) (g:ByteArray->Int) (t:Tm):Prop:=∀ (v:Value) (W:World),Ext w0 W->TmV w0 L t v->ve8 W gb bl g->t.wt<=400 ->
 Calls Tryz.prog 66 #[.pointer (some ⟨gb,0,none⟩),v] W (gdl (fun b=>W.heap.size<=b) (wdm g t) W)
theorem Bd.xh {p:Pl} {W:Nat} (h:Bd p W) (hw:W<=400):Fit p 400 401:=(h.mono hw).fit
theorem qfm {a b:Tm} (h:xdm (wdj a.wt b.wt+1)<=400):a.wt<=400/\b.wt<=400:=by
 have h1:=kd4 h;have hm:a.wt<=wdj a.wt b.wt/\b.wt<=wdj a.wt b.wt:=by unfold wdj; split <;> omega
 omega
theorem yff {a b:Tm} (h:xdm (a.wt+b.wt)<=400):a.wt<=400/\b.wt<=400:=by
 have h1:=kd4 h;have:=a.qx; have:=b.qx;omega
end
end Go.Proofs.YtheefiaoimbeiaaGreatDoor
