/- Layer 38: the state of a prenex.builder in memory, and what changes it. -/
import Derived.Test.YtaedbimbbeploaaGreatDoorMb23
import Derived.Test.YtaedbimbbeploaaGreatDoorMb11
import Derived.Test.YtaedbimbbeploaaGreatDoorCheck
import Derived.Test.YtaedbimbbeploaaGreatDoorMRow
set_option linter.unusedSimpArgs false
set_option linter.unusedVariables false

namespace Go.Proofs.YtaedbimbbeploaaGreatDoor
open Go.RowKit
theorem vaj : vap 39 9 1 16 (.string ByteArray.empty) where
 und:=Tryz.underlying39
 info:=wa7
 cells:=rfl
 pos:=by omega
 nodig:=by
  intro u hu;simp only [Value.cells,List.mem_singleton] at hu;rw [hu]
  rfl
theorem xb3:(Tryz.prog.info? 4).map (fun i=>(i.zero,i.size,i.bytes))=some (some (.bool false),1,1):=by kernel_rfl
theorem gcn : vap 38 4 1 1 (.bool false) where
 und:=Tryz.underlying38
 info:=xb3
 cells:=rfl
 pos:=by omega
 nodig:=by
  intro u hu;simp only [Value.cells,List.mem_singleton] at hu;rw [hu]
  rfl
def bools (l:List Bool):List Value:=l.map Value.bool
theorem vb4 (l:List Bool) (s:Bool):bools (l ++ [s])=bools l ++ [.bool s]:=by simp [bools]
def SNm (base:Nat) (W:World) (v:Value) (l:List ByteArray) (o:Option Nat):Prop:=(zh 9 1 base W v l.length (strs l)/\o=v.ownBlock)\/(l=[]/\o=none/\∃ A,v=.slice A 0 0)
theorem SNm.len {base:Nat} {W:World} {v:Value} {l:List ByteArray} {o:Option Nat} (h:SNm base W v l o):∃ A c,v=.slice A l.length c/\l.length<=c/\c<=9223372036854775807:=by
 rcases h with ⟨h,-⟩ | ⟨rfl,-,A,rfl⟩
 · exact h.len
 · exact ⟨A,0,rfl,by simp,by omega⟩
theorem SNm.own {base:Nat} {W:World} {v:Value} {l:List ByteArray} {o:Option Nat} (h:SNm base W v l o) {R:Nat} (hR:o=some R):base<=R/\R < W.heap.size:=by
 rcases h with ⟨h,rfl⟩ | ⟨-,rfl,-⟩
 · exact h.own hR
 · cases hR
theorem SNm.turn {base:Nat} {W W':World} {v:Value} {l:List ByteArray} {o:Option Nat} (h:SNm base W v l o) (hb:∀ R,o=some R->W'.heap[R]?=W.heap[R]?):SNm base W' v l o:=by
 rcases h with ⟨h,rfl⟩ | h
 · exact .inl ⟨h.turn hb,rfl⟩
 · exact .inr h
theorem SNm.ext {base:Nat} {W W':World} {v:Value} {l:List ByteArray} {o:Option Nat} (h:SNm base W v l o) (hx:Ext W W'):SNm base W' v l o:=h.turn fun R hR=>hx.below.block R (h.own hR).2
theorem SNm.push {base:Nat} {W:World} {v:Value} {l:List ByteArray} {o:Option Nat} (h:SNm base W v l o) (hbase:base<=W.heap.size) (s:ByteArray) (hlen:l.length+1<=1000000000) (ty:TypeId) :
 ∃ v4 w4,(Builtin.append_ #[39,39] ty #[v,.slice (some ⟨W.heap.size,0,none⟩) 1 1]).run Tryz.prog (W.alloc (.cells #[.string s] 9))=.ok v4 w4/\SNm base w4 v4 (l ++ [s]) v4.ownBlock/\W.grownBy w4 o/\(∀ v ds,jb W v ds->jb w4 v ds)/\(v4.ownBlock=o\/∃ g,v4.ownBlock=some g/\W.heap.size<=g):=by
 have key:∀ v,zh 9 1 base W v l.length (strs l)->∃ v4 w4,(Builtin.append_ #[39,39] ty #[v,.slice (some ⟨W.heap.size,0,none⟩) 1 1]).run Tryz.prog (W.alloc (.cells #[.string s] 9))=.ok v4 w4/\SNm base w4 v4 (l ++ [s]) v4.ownBlock/\W.grownBy w4 v.ownBlock/\(∀ v ds,jb W v ds->jb w4 v ds)/\(v4.ownBlock=v.ownBlock\/∃ g,v4.ownBlock=some g/\W.heap.size<=g):=by
  intro v h;obtain ⟨v4,w4,h1,h2,h3,h4,h5⟩:=zh.push vaj h hbase [.string s] rfl (by
   intro u hu;rw [List.mem_singleton.1 hu]
   exact ⟨rfl,rfl⟩) (by omega) (by omega) ty
  refine ⟨v4,w4,h1,.inl ⟨?_,rfl⟩,h3,h4,h5.imp id fun e=>⟨_,e,by omega⟩⟩;rw [waz,List.length_append];exact h2
 rcases h with ⟨h,rfl⟩ | ⟨rfl,rfl,A,rfl⟩
 · exact key v h
 · obtain ⟨v4,w4,h1,h2,h3,h4,h5⟩:=key (.slice none 0 0) (zh.nil _ _ _ _);refine ⟨v4,w4,?_,h2,h3,h4,h5⟩;cases A with
   | none=>exact h1
   | some ad =>
     obtain ⟨i0,hi,hz0,hz1,hz2⟩:=info_parts vaj.info;have hc:∀ j u,[Value.string s][j]?=some u->(W.alloc (.cells #[.string s] 9)).cell? ((⟨W.heap.size,0,none⟩:Addr).add j)=some u:=fun j u hu=>by
      rw [gp,Nat.zero_add,cell_of_row _ _ j _ _ (0,0) (heap_alloc_new W _)];simpa using hu
     have e1:=run_append_nil (P:=Tryz.prog) (W.alloc (.cells #[.string s] 9)) 39 ty 9 i0 _ vaj.und hi hz0 ⟨W.heap.size,0,none⟩ 1 1 [.string s] (by rw [hz1]; rfl) hc (by omega) (by omega) (by rw [hz2]; omega);have e2:=run_append_grow (P:=Tryz.prog) (W.alloc (.cells #[.string s] 9)) 39 ty 9 i0 _ vaj.und hi hz0 ad 0 0 [] (by simp) (by intro j v hv; simp at hv) ⟨W.heap.size,0,none⟩ 1 1 [.string s] (by rw [hz1]; rfl) hc (by omega) (by omega) (by rw [nextslicecap_zero (by omega),hz2]; omega);rw [e2,<- h1,e1];simp
theorem gcc {base:Nat} {W:World} {v:Value} {l:List Bool} (h:zh 4 1 base W v l.length (bools l)) (hbase:base<=W.heap.size) (s:Bool) (hlen:l.length+1<=1000000000) (ty:TypeId) :
 ∃ v4 w4,(Builtin.append_ #[38,38] ty #[v,.slice (some ⟨W.heap.size,0,none⟩) 1 1]).run Tryz.prog (W.alloc (.cells #[.bool s] 4))=.ok v4 w4/\zh 4 1 base w4 v4 (l ++ [s]).length (bools (l ++ [s]))/\W.grownBy w4 v.ownBlock/\(∀ v ds,jb W v ds->jb w4 v ds)/\(v4.ownBlock=v.ownBlock\/∃ g,v4.ownBlock=some g/\W.heap.size<=g):=by
 obtain ⟨v4,w4,h1,h2,h3,h4,h5⟩:=zh.push gcn h hbase [.bool s] rfl (by
  intro u hu;rw [List.mem_singleton.1 hu]
  exact ⟨rfl,rfl⟩) (by omega) (by omega) ty
 refine ⟨v4,w4,h1,?_,h3,h4,h5.imp id fun e=>⟨_,e,by omega⟩⟩;rw [vb4,List.length_append];exact h2
structure vaa (own : Nat -> Prop) (W : World) (own' : Nat -> Prop) (W' : World) : Prop where
 keeps:xe own W own' W'
 nat:∀ v ds,jb W v ds->jb W' v ds
theorem vaa.refl (own:Nat->Prop) (W:World):vaa own W own W:=⟨xe.refl _ _,fun _ _ h=>h⟩
theorem vaa.trans {o1 o2 o3:Nat->Prop} {a b c:World} (h:vaa o1 a o2 b) (k:vaa o2 b o3 c):vaa o1 a o3 c:=⟨h.keeps.trans k.keeps,fun v ds hv=>k.nat v ds (h.nat v ds hv)⟩
theorem vaa.of_ext {o:Nat->Prop} {a b:World} (h:Ext a b):vaa o a o b:=⟨xe.of_ext h,fun _ _ hv=>hv.ext h⟩
theorem vaa.size {o1 o2:Nat->Prop} {a b:World} (h:vaa o1 a o2 b):a.heap.size<=b.heap.size:=h.keeps.size
theorem vaa.ext {w0 a b:World} {o1 o2:Nat->Prop} (h:vaa o1 a o2 b) (hx:Ext w0 a) (ho:∀ i,o1 i->w0.heap.size<=i):Ext w0 b:=h.keeps.ext hx ho
theorem wbf {w w':World} {b:Nat} {es:Array MapEntry} {clock:Nat} (hb:w.heap[b]?=some (.map es clock)) (ho:Only b w w') {v:Value} {ds:List Nat} (h:jb w v ds):jb w' v ds:=by
 obtain ⟨A,c,e,h1,h2,h3,h4⟩:=h;refine ⟨A,c,e,h1,h2,h3,fun hd=>?_⟩;obtain ⟨ad,e4,hlt,hc⟩:=h4 hd;refine ⟨ad,e4,Nat.lt_of_lt_of_le hlt ho.size,fun j hj=>(ho.cell (p:=ad.add j) (by rw [ja]; exact hlt) ?_).trans (hc j hj)⟩;rw [ja];intro hbe;have h0:=hc 0 hd;rw [World.cell?,ja,hbe,hb] at h0;cases h0
structure uu (base gb bl bt : Nat) (W : World) (own : Nat -> Prop) (s : PSt) (tk : List ByteArray) : Prop where
 ex:∃ nv av on,W.cell? ⟨gb,0,none⟩=some nv/\W.cell? ⟨gb,1,none⟩=some av/\SNm base W nv s.names on/\zh 4 1 base W av s.all.length (bools s.all)/\(∀ i,own i ↔ i=gb\/i=bl\/i=bt\/on=some i\/av.ownBlock=some i)/\(∀ i,on=some i->av.ownBlock ≠ some i)/\∀ i,on=some i\/av.ownBlock=some i->i ≠ gb/\i ≠ bl/\i ≠ bt
 c2:W.cell? ⟨gb,2,none⟩=some (.map (some bl))
 c3:W.cell? ⟨gb,3,none⟩=some (.map (some bt))
 fr:∀ i,W.frozen? ⟨gb,i,none⟩=false
 lev:vab W bl s.lev
 tak:xag W bt tk
 lt:gb < W.heap.size/\bl < W.heap.size/\bt < W.heap.size/\base<=W.heap.size
 ne:gb ≠ bl/\gb ≠ bt/\bl ≠ bt
section
variable {base gb bl bt:Nat} {W W':World} {own own':Nat->Prop} {s:PSt} {tk:List ByteArray}
theorem uu.own_ (h:uu base gb bl bt W own s tk) {i:Nat} (hi:own i):i < W.heap.size/\(i=gb\/i=bl\/i=bt\/base<=i):=by
 obtain ⟨nv,av,on,-,-,h3,h4,h5,-,-⟩:=h.ex;have:=h.lt;rcases (h5 i).1 hi with e | e | e | e | e
 · omega
 · omega
 · omega
 · have:=h3.own e; omega
 · have:=h4.own e; omega
theorem uu.ext (h:uu base gb bl bt W own s tk) (hx:Ext W W'):uu base gb bl bt W' own s tk:=by
 obtain ⟨nv,av,on,h1,h2,h3,h4,h5,h6,hap⟩:=h.ex;have hl:=h.lt;have hc:∀ i,W'.cell? ⟨gb,i,none⟩=W.cell? ⟨gb,i,none⟩:=fun i=>hx.cell (p:=⟨gb,i,none⟩) (by show gb < _; omega)
 exact ⟨⟨nv,av,on,(hc 0).trans h1,(hc 1).trans h2,h3.ext hx,h4.ext hx,h5,h6,hap⟩,(hc 2).trans h.c2,(hc 3).trans h.c3,fun i=>(hx.frozen (p:=⟨gb,i,none⟩) (by show gb < _; omega)).trans (h.fr i),h.lev.ext hx,h.tak.ext hx,by have:=hx.size; omega,h.ne⟩
theorem uu.turn (h:uu base gb bl bt W own s tk) (hs:W.heap.size<=W'.heap.size) (hb:∀ i,own i->W'.heap[i]?=W.heap[i]?) (hf:∀ a,W'.frozen? a=W.frozen? a):uu base gb bl bt W' own s tk:=by
 obtain ⟨nv,av,on,h1,h2,h3,h4,h5,h6,hap⟩:=id h.ex;have hl:=h.lt;have hgb:=hb gb ((h5 gb).2 (.inl rfl));have hc:∀ i,W'.cell? ⟨gb,i,none⟩=W.cell? ⟨gb,i,none⟩:=fun i=>World.cell?_of_block (a:=⟨gb,i,none⟩) hgb
 exact ⟨⟨nv,av,on,(hc 0).trans h1,(hc 1).trans h2,h3.turn fun R e=>hb R ((h5 R).2 (.inr (.inr (.inr (.inl e))))),h4.turn fun R e=>hb R ((h5 R).2 (.inr (.inr (.inr (.inr e))))),h5,h6,hap⟩,(hc 2).trans h.c2,(hc 3).trans h.c3,fun i=>(hf _).trans (h.fr i),h.lev.block (hb bl ((h5 bl).2 (.inr (.inl rfl)))),h.tak.block (hb bt ((h5 bt).2 (.inr (.inr (.inl rfl))))),by omega,h.ne⟩
theorem uu.addName (h:uu base gb bl bt W own s tk) (hlen:s.names.length<=1000):∃ nA nc,W.cell? ⟨gb,0,none⟩=some (.slice nA s.names.length nc)/\∀ nm:ByteArray,∃ nB nd w4 own',(Builtin.append_ #[39,39] 39 #[.slice nA s.names.length nc,.slice (some ⟨W.heap.size,0,none⟩) 1 1]).run Tryz.prog (W.alloc (.cells #[.string nm] 9))=.ok (.slice nB (s.names.length+1) nd) w4 /\
 w4.cell? ⟨gb,0,none⟩=some (.slice nA s.names.length nc)/\w4.frozen? ⟨gb,0,none⟩=false/\uu base gb bl bt (w4.setCell ⟨gb,0,none⟩ (.slice nB (s.names.length+1) nd)) own' ⟨s.names ++ [nm],s.all,s.lev⟩ tk/\vaa own W own' (w4.setCell ⟨gb,0,none⟩ (.slice nB (s.names.length+1) nd)):=by
 obtain ⟨nv,av,on,h1,h2,h3,h4,h5,h6,hap⟩:=id h.ex;obtain ⟨nA,nc,rfl,-⟩:=h3.len;refine ⟨nA,nc,h1,fun nm=>?_⟩;have hl:=h.lt;have hne:=h.ne;obtain ⟨v4,w4,hrun,g1,g2,g3,g4⟩:=h3.push hl.2.2.2 nm (by omega) 39;obtain ⟨nB,nd,e4,-⟩:=g1.len;rw [List.length_append] at e4;have e4':v4=.slice nB (s.names.length+1) nd:=e4;subst e4';have hon:∀ i,on=some i->base<=i/\i < W.heap.size:=fun i e=>h3.own e
 have hav:∀ i,av.ownBlock=some i->base<=i/\i < W.heap.size:=fun i e=>h4.own e
 have hblk:∀ i,i < W.heap.size->on ≠ some i->w4.heap[i]?=W.heap[i]?:=fun i hi hn=>World.grownBy.block g2 i hi (fun e=>hn e.symm)
 have hsz:=World.grownBy.size g2;have hgb:w4.heap[gb]?=W.heap[gb]?:=hblk gb (by omega) (fun e=>(hap gb (.inl e)).1 rfl);have hc4:∀ i,w4.cell? ⟨gb,i,none⟩=W.cell? ⟨gb,i,none⟩:=fun i=>World.cell?_of_block (a:=⟨gb,i,none⟩) hgb
 have hf4:∀ i,w4.frozen? ⟨gb,i,none⟩=false:=fun i=>(World.frozen?_of_block (a:=⟨gb,i,none⟩) hgb).trans (h.fr i)
 have hb5:∀ i,i ≠ gb->(w4.setCell ⟨gb,0,none⟩ (.slice nB (s.names.length+1) nd)).heap[i]?=w4.heap[i]?:=fun i hi=>Below.heap_setCell _ _ _ i hi
 have hc5:∀ i,i ≠ 0->(w4.setCell ⟨gb,0,none⟩ (.slice nB (s.names.length+1) nd)).cell? ⟨gb,i,none⟩=W.cell? ⟨gb,i,none⟩:=fun i hi=>(World.cell?_setCell_other _ _ _ _ (by intro e; injection e; omega)).trans (hc4 i)
 have hs5:(w4.setCell ⟨gb,0,none⟩ (.slice nB (s.names.length+1) nd)).heap.size=w4.heap.size:=by simp [World.setCell]
 have hnew:∀ i,(Value.slice nB (s.names.length+1) nd).ownBlock=some i->i < W.heap.size->on=some i:=fun i e hi=>by
  rcases g4 with g4 | ⟨g,g4,hg⟩
  · rw [<- g4]; exact e
  · have:=Option.some.inj (g4.symm.trans e); omega
 have hnb:∀ i,(Value.slice nB (s.names.length+1) nd).ownBlock=some i->i ≠ gb/\i ≠ bl/\i ≠ bt:=fun i e=>by
  by_cases hi:i < W.heap.size
  · exact hap i (.inl (hnew i e hi))
  · omega
 refine ⟨nB,nd,w4,fun i=>i=gb\/i=bl\/i=bt\/(Value.slice nB (s.names.length+1) nd).ownBlock=some i\/av.ownBlock=some i,hrun,(hc4 0).trans h1,hf4 0,⟨⟨_,av,_,World.cell?_setCell_same _ _ _ ((hc4 0).trans h1),(hc5 1 (by omega)).trans h2,g1.turn fun R e=>hb5 R (hnb R e).1,h4.turn fun R e=>(hb5 R (hap R (.inr e)).1).trans (hblk R (hav R e).2 fun e2=>h6 R e2 e),fun i=>Iff.rfl,fun i e e2=>?_,fun i e=>e.elim (hnb i) fun e=>hap i (.inr e)⟩,(hc5 2 (by omega)).trans h.c2,(hc5 3 (by omega)).trans h.c3,fun i=>by rw [World.frozen?_setCell]; exact hf4 i,h.lev.block ((hb5 bl (Ne.symm hne.1)).trans (hblk bl (by omega) fun e=>(hap bl (.inl e)).2.1 rfl)),h.tak.block ((hb5 bt (Ne.symm hne.2.1)).trans (hblk bt (by omega) fun e=>(hap bt (.inl e)).2.2 rfl)),by rw [hs5]; omega,h.ne⟩,⟨⟨(show _=_ from World.grownBy.os (w':=w4) g2),(show _=_ from World.grownBy.tape (w':=w4) g2),(show _=_ from World.grownBy.output (w':=w4) g2),by rw [hs5]; exact hsz,fun i hi hn=>?_,fun i hi ho=>?_⟩,fun v ds hv=>(g3 v ds hv).box ((hc4 0).trans h1) rfl _⟩⟩
 · exact h6 i (hnew i e (hav i e2).2) e2
 · have hn':=fun x=>hn ((h5 i).2 x)
   rw [hb5 i (fun e=>hn' (.inl e))];exact hblk i hi fun e=>hn' (.inr (.inr (.inr (.inl e))))
 · refine (h5 i).2 ?_;rcases ho with e | e | e | e | e
   · exact .inl e
   · exact .inr (.inl e)
   · exact .inr (.inr (.inl e))
   · exact .inr (.inr (.inr (.inl (hnew i e hi))))
   · exact .inr (.inr (.inr (.inr e)))
theorem uu.addAll (h:uu base gb bl bt W own s tk) (hlen:s.all.length<=1000):∃ nA nc,W.cell? ⟨gb,1,none⟩=some (.slice nA s.all.length nc)/\∀ b:Bool,∃ nB nd w4 own',(Builtin.append_ #[38,38] 38 #[.slice nA s.all.length nc,.slice (some ⟨W.heap.size,0,none⟩) 1 1]).run Tryz.prog (W.alloc (.cells #[.bool b] 4))=.ok (.slice nB (s.all.length+1) nd) w4 /\
 w4.cell? ⟨gb,1,none⟩=some (.slice nA s.all.length nc)/\w4.frozen? ⟨gb,1,none⟩=false/\uu base gb bl bt (w4.setCell ⟨gb,1,none⟩ (.slice nB (s.all.length+1) nd)) own' ⟨s.names,s.all ++ [b],s.lev⟩ tk/\vaa own W own' (w4.setCell ⟨gb,1,none⟩ (.slice nB (s.all.length+1) nd)):=by
 obtain ⟨nv,av,on,h1,h2,h3,h4,h5,h6,hap⟩:=id h.ex;obtain ⟨nA,nc,rfl,-⟩:=h4.len;refine ⟨nA,nc,h2,fun b=>?_⟩;have hl:=h.lt;have hne:=h.ne;obtain ⟨v4,w4,hrun,g1,g2,g3,g4⟩:=gcc h4 hl.2.2.2 b (by omega) 38;obtain ⟨nB,nd,e4,-⟩:=g1.len;rw [List.length_append] at e4;have e4':v4=.slice nB (s.all.length+1) nd:=e4;subst e4';have hon:∀ i,on=some i->base<=i/\i < W.heap.size:=fun i e=>h3.own e
 have hav:∀ i,(Value.slice nA s.all.length nc).ownBlock=some i->base<=i/\i < W.heap.size:=fun i e=>h4.own e
 have hblk:∀ i,i < W.heap.size->(Value.slice nA s.all.length nc).ownBlock ≠ some i->w4.heap[i]?=W.heap[i]?:=fun i hi hn=>World.grownBy.block g2 i hi (fun e=>hn e.symm)
 have hsz:=World.grownBy.size g2;have hgb:w4.heap[gb]?=W.heap[gb]?:=hblk gb (by omega) (fun e=>(hap gb (.inr e)).1 rfl);have hc4:∀ i,w4.cell? ⟨gb,i,none⟩=W.cell? ⟨gb,i,none⟩:=fun i=>World.cell?_of_block (a:=⟨gb,i,none⟩) hgb
 have hf4:∀ i,w4.frozen? ⟨gb,i,none⟩=false:=fun i=>(World.frozen?_of_block (a:=⟨gb,i,none⟩) hgb).trans (h.fr i)
 have hb5:∀ i,i ≠ gb->(w4.setCell ⟨gb,1,none⟩ (.slice nB (s.all.length+1) nd)).heap[i]?=w4.heap[i]?:=fun i hi=>Below.heap_setCell _ _ _ i hi
 have hc5:∀ i,i ≠ 1->(w4.setCell ⟨gb,1,none⟩ (.slice nB (s.all.length+1) nd)).cell? ⟨gb,i,none⟩=W.cell? ⟨gb,i,none⟩:=fun i hi=>(World.cell?_setCell_other _ _ _ _ (by intro e; injection e; omega)).trans (hc4 i)
 have hs5:(w4.setCell ⟨gb,1,none⟩ (.slice nB (s.all.length+1) nd)).heap.size=w4.heap.size:=by simp [World.setCell]
 have hnew:∀ i,(Value.slice nB (s.all.length+1) nd).ownBlock=some i->i < W.heap.size->(Value.slice nA s.all.length nc).ownBlock=some i:=fun i e hi=>by
  rcases g4 with g4 | ⟨g,g4,hg⟩
  · rw [<- g4]; exact e
  · have:=Option.some.inj (g4.symm.trans e); omega
 have hnb:∀ i,(Value.slice nB (s.all.length+1) nd).ownBlock=some i->i ≠ gb/\i ≠ bl/\i ≠ bt:=fun i e=>by
  by_cases hi:i < W.heap.size
  · exact hap i (.inr (hnew i e hi))
  · omega
 refine ⟨nB,nd,w4,fun i=>i=gb\/i=bl\/i=bt\/on=some i\/(Value.slice nB (s.all.length+1) nd).ownBlock=some i,hrun,(hc4 1).trans h2,hf4 1,⟨⟨nv,_,on,(hc5 0 (by omega)).trans h1,World.cell?_setCell_same _ _ _ ((hc4 1).trans h2),h3.turn fun R e=>(hb5 R (hap R (.inl e)).1).trans (hblk R (hon R e).2 fun e2=>h6 R e e2),g1.turn fun R e=>hb5 R (hnb R e).1,fun i=>Iff.rfl,fun i e e2=>?_,fun i e=>e.elim (fun e=>hap i (.inl e)) (hnb i)⟩,(hc5 2 (by omega)).trans h.c2,(hc5 3 (by omega)).trans h.c3,fun i=>by rw [World.frozen?_setCell]; exact hf4 i,h.lev.block ((hb5 bl (Ne.symm hne.1)).trans (hblk bl (by omega) fun e=>(hap bl (.inr e)).2.1 rfl)),h.tak.block ((hb5 bt (Ne.symm hne.2.1)).trans (hblk bt (by omega) fun e=>(hap bt (.inr e)).2.2 rfl)),by rw [hs5]; omega,h.ne⟩,⟨⟨(show _=_ from World.grownBy.os (w':=w4) g2),(show _=_ from World.grownBy.tape (w':=w4) g2),(show _=_ from World.grownBy.output (w':=w4) g2),by rw [hs5]; exact hsz,fun i hi hn=>?_,fun i hi ho=>?_⟩,fun v ds hv=>(g3 v ds hv).box ((hc4 1).trans h2) rfl _⟩⟩
 · exact h6 i e (hnew i e2 (hon i e).2)
 · have hn':=fun x=>hn ((h5 i).2 x)
   rw [hb5 i (fun e=>hn' (.inl e))];exact hblk i hi fun e=>hn' (.inr (.inr (.inr (.inr e))))
 · refine (h5 i).2 ?_;rcases ho with e | e | e | e | e
   · exact .inl e
   · exact .inr (.inl e)
   · exact .inr (.inr (.inl e))
   · exact .inr (.inr (.inr (.inl e)))
   · exact .inr (.inr (.inr (.inr (hnew i e hi))))
theorem uu.addLevel (h:uu base gb bl bt W own s tk) (nm:ByteArray) (n:Int):∃ w4,(Instr.mapUpdate 105 (.map (some bl)) (.string nm) (.int .i64 n)).run Tryz.prog W=.ok () w4/\uu base gb bl bt w4 own ⟨s.names,s.all,fun t=>if t=nm then n else s.lev t⟩ tk/\vaa own W own w4/\Only bl W w4:=by
 obtain ⟨nv,av,on,h1,h2,h3,h4,h5,h6,hap⟩:=id h.ex;have hl:=h.lt;have hne:=h.ne;obtain ⟨w4,hrun,g1,g2⟩:=h.lev.put nm n;have hon:∀ i,on=some i->base<=i/\i < W.heap.size:=fun i e=>h3.own e
 have hav:∀ i,av.ownBlock=some i->base<=i/\i < W.heap.size:=fun i e=>h4.own e
 have hblk:∀ i,i < W.heap.size->i ≠ bl->w4.heap[i]?=W.heap[i]?:=fun i hi hn=>g2.block hi hn
 have hc4:∀ i,w4.cell? ⟨gb,i,none⟩=W.cell? ⟨gb,i,none⟩:=fun i=>World.cell?_of_block (a:=⟨gb,i,none⟩) (hblk gb (by omega) hne.1)
 have hs:=g2.size;obtain ⟨ls,⟨es,clock,hmap,-⟩,-⟩:=id h.lev;refine ⟨w4,hrun,⟨⟨nv,av,on,(hc4 0).trans h1,(hc4 1).trans h2,h3.turn fun R e=>hblk R (hon R e).2 (hap R (.inl e)).2.1,h4.turn fun R e=>hblk R (hav R e).2 (hap R (.inr e)).2.1,h5,h6,hap⟩,(hc4 2).trans h.c2,(hc4 3).trans h.c3,fun i=>(World.frozen?_of_block (a:=⟨gb,i,none⟩) (hblk gb (by omega) hne.1)).trans (h.fr i),g1,h.tak.block (hblk bt (by omega) (Ne.symm hne.2.2)),by omega,h.ne⟩,⟨⟨World.grownBy.os g2.g,World.grownBy.tape g2.g,World.grownBy.output g2.g,hs,fun i hi hn=>hblk i hi fun e=>hn ((h5 i).2 (.inr (.inl e))),fun i _ ho=>ho⟩,fun v ds hv=>wbf hmap g2 hv⟩,g2⟩
theorem uu.addTaken (h:uu base gb bl bt W own s tk) (nm:ByteArray):∃ w4,(Instr.mapUpdate 106 (.map (some bt)) (.string nm) (.bool true)).run Tryz.prog W=.ok () w4/\uu base gb bl bt w4 own s (zaw tk nm)/\vaa own W own w4:=by
 obtain ⟨nv,av,on,h1,h2,h3,h4,h5,h6,hap⟩:=id h.ex;have hl:=h.lt;have hne:=h.ne;obtain ⟨w4,hrun,g1,g2⟩:=h.tak.put nm;have hon:∀ i,on=some i->base<=i/\i < W.heap.size:=fun i e=>h3.own e
 have hav:∀ i,av.ownBlock=some i->base<=i/\i < W.heap.size:=fun i e=>h4.own e
 have hblk:∀ i,i < W.heap.size->i ≠ bt->w4.heap[i]?=W.heap[i]?:=fun i hi hn=>g2.block hi hn
 have hc4:∀ i,w4.cell? ⟨gb,i,none⟩=W.cell? ⟨gb,i,none⟩:=fun i=>World.cell?_of_block (a:=⟨gb,i,none⟩) (hblk gb (by omega) hne.2.1)
 have hs:=g2.size;obtain ⟨ls,⟨es,clock,hmap,-⟩,-⟩:=id h.tak;refine ⟨w4,hrun,⟨⟨nv,av,on,(hc4 0).trans h1,(hc4 1).trans h2,h3.turn fun R e=>hblk R (hon R e).2 (hap R (.inl e)).2.2,h4.turn fun R e=>hblk R (hav R e).2 (hap R (.inr e)).2.2,h5,h6,hap⟩,(hc4 2).trans h.c2,(hc4 3).trans h.c3,fun i=>(World.frozen?_of_block (a:=⟨gb,i,none⟩) (hblk gb (by omega) hne.2.1)).trans (h.fr i),h.lev.block (hblk bl (by omega) hne.2.2),g1,by omega,h.ne⟩,⟨⟨World.grownBy.os g2.g,World.grownBy.tape g2.g,World.grownBy.output g2.g,hs,fun i hi hn=>hblk i hi fun e=>hn ((h5 i).2 (.inr (.inr (.inl e)))),fun i _ ho=>ho⟩,fun v ds hv=>wbf hmap g2 hv⟩⟩
end
def ka2 (base gb bl bt:Nat) (own:Nat->Prop) (W:World) (tk:List ByteArray) (r:Mx × PSt) (e:Ending) (W':World):Prop:=
 ∃ v own',e=.returned v/\MxV W' (fun i=>W.heap.size<=i/\¬ own' i) r.1 v/\uu base gb bl bt W' own' r.2 tk/\vaa own W own' W'
theorem kcr {base gb bl bt : Nat} {W Wf W' : World} {g : Nat} {m : Mx} {v : Value} {own own2 q : Nat -> Prop} {s : PSt} {tk : List ByteArray} (hn : ∀ v ds, jb Wf v ds -> jb W' v ds) (hh : ∀ b, b ≠ g -> W'.heap[b]? = Wf.heap[b]?) (hsz : W'.heap.size = Wf.heap.size) (hfr : ∀ a, W'.frozen? a = Wf.frozen? a) (ho1 : W'.os = Wf.os) (ho2 : W'.tape = Wf.tape) (ho3 : W'.output = Wf.output)
 (hm:vaa own W own2 Wf) (hg:W.heap.size<=g) (hgo:¬ own2 g) (hb:uu base gb bl bt Wf own2 s tk) (hp:MxV Wf q m v) (hq:∀ b,b < Wf.heap.size->q b->b ≠ g/\W.heap.size<=b/\¬ own2 b):ka2 base gb bl bt own W tk (m,s) (.returned v) W':=by
 have h1:MxV W' (fun i=>W.heap.size<=i/\¬ own2 i) m v:=MxV.turn_ (by omega) hn (fun b hlt hqb=>⟨(hq b hlt hqb).2,hh b (hq b hlt hqb).1⟩) hp;have h2:uu base gb bl bt W' own2 s tk:=hb.turn (by omega) (fun i hi=>hh i fun e=>hgo (e ▸ hi)) hfr;have h3:xe own W own2 W':=⟨ho1.trans hm.keeps.os,ho2.trans hm.keeps.tape,ho3.trans hm.keeps.output,by have:=hm.size; omega,fun i hi hno=>(hh i (by omega)).trans (hm.keeps.block i hi hno),fun i hi ho=>hm.keeps.own i hi ho⟩;exact ⟨v,own2,rfl,h1,h2,⟨h3,fun v ds hv=>hn v ds (hm.nat v ds hv)⟩⟩
theorem za2 {base gb bl bt : Nat} {W Wf : World} {g : Nat} {m : Mx} {own own2 q : Nat -> Prop} {s : PSt} {tk : List ByteArray} {A0 A1 K : Option Addr} {n0 c0 n1 c1 n2 c2 : Nat} (hm : vaa own W own2 Wf) (hg : W.heap.size <= g) (hgo : ¬ own2 g) (hz : qy Wf g) (hb : uu base gb bl bt Wf own2 s tk)
 (hp:MxV Wf q m (mxV m (.slice A0 n0 c0) (.slice A1 n1 c1) (.slice K n2 c2))) (hq:∀ b,b < Wf.heap.size->q b->b ≠ g/\W.heap.size<=b/\¬ own2 b) :
 ka2 base gb bl bt own W tk (m,s) (.returned (mxV m (.slice A0 n0 c0) (.slice A1 n1 c1) (.slice K n2 c2))) (((((((Wf.setCell ⟨g,0,none⟩ (.int .i64 m.kind)).setCell ⟨g,1,none⟩ (.int .i64 m.rel)).setCell ⟨g,2,none⟩ (.int .i64 m.p.lv)).setCell ⟨g,3,none⟩ (.bool m.p.neg)).setCell ⟨g,4,none⟩ (.slice A0 n0 c0)).setCell ⟨g,5,none⟩ (.slice A1 n1 c1)).setCell ⟨g,6,none⟩ (.slice K n2 c2)):=
 have hbx:=vay (m':=m) (B0:=A0) (m0:=n0) (d0:=c0) (B1:=A1) (m1:=n1) (d1:=c1) (K1:=K) (m2:=n2) (d2:=c2) hz.1
 kcr hbx.1 hbx.2 (by simp [World.setCell]) (fun a=>by simp only [World.frozen?_setCell]) (by simp only [World.setCell]) (by simp only [World.setCell]) (by simp only [World.setCell]) hm hg hgo hb hp hq
end Go.Proofs.YtaedbimbbeploaaGreatDoor
