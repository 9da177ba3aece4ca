/- Layer 20: (*gather).add: the terms collected by their monomials. -/
import Derived.Test.YtcepajijiabkmaaGreatMq9
import Derived.Shelf.SlSortCmp.WholeK
set_option linter.unusedSimpArgs false
set_option linter.unusedVariables false
set_option maxRecDepth 100000
set_option maxHeartbeats 8000000
namespace Go.Proofs.YtcepajijiabkmaaGreat
open Lib (hid)
open Go.RowKit
def yac (c : Int) (m : Mo) : Sp -> Sp
 | []=>[(c,m)]
 | (d,n) :: r=>if m=n then (d+c,n) :: r else (d,n) :: yac c m r
theorem zcl (c:Int) (m:Mo) (l:Sp) (k:Mo):je (yac c m l) k=je l k+if m=k then c else 0:=by
 induction l with
 | nil=>simp [yac,je]
 | cons x r ih =>
   obtain ⟨d,n⟩:=x;unfold yac
   by_cases h:m=n
   · rw [if_pos h]; subst h; simp only [je]; split <;> omega
   · rw [if_neg h]; simp only [je,ih]; omega
theorem ucu (c:Int) (m:Mo) (l:Sp):yg (yac c m l)<=yg l+c.natAbs:=by
 induction l with
 | nil=>simp [yac,yg]
 | cons x r ih =>
   obtain ⟨d,n⟩:=x;unfold yac
   by_cases h:m=n
   · rw [if_pos h]; simp only [yg]; omega
   · rw [if_neg h]; simp only [yg]; omega
theorem gcu (c:Int) (m:Mo) (l:Sp):(yac c m l).length<=l.length+1:=by
 induction l with
 | nil=>simp [yac]
 | cons x r ih =>
   obtain ⟨d,n⟩:=x;unfold yac
   by_cases h:m=n
   · rw [if_pos h]; simp
   · rw [if_neg h]; simp; omega
theorem xbw {c:Int} {m:Mo} {l:Sp} {x:Int × Mo} (h:x ∈ yac c m l):x.2=m\/∃ y ∈ l,y.2=x.2:=by
 induction l with
 | nil=>left; rw [List.mem_singleton.1 h]
 | cons y r ih =>
   obtain ⟨d,n⟩:=y;unfold yac at h
   split at h
   · rcases List.mem_cons.1 h with rfl | h
     · exact .inr ⟨_,List.mem_cons_self,rfl⟩
     · exact .inr ⟨x,List.mem_cons_of_mem _ h,rfl⟩
   · rcases List.mem_cons.1 h with rfl | h
     · exact .inr ⟨_,List.mem_cons_self,rfl⟩
     · rcases ih h with h | ⟨y,hy,e⟩
       · exact .inl h
       · exact .inr ⟨y,List.mem_cons_of_mem _ hy,e⟩
def Apart (l:Sp):Prop:=l.Pairwise fun x y=>x.2 ≠ y.2
theorem kcc (c:Int) (m:Mo) (l:Sp) (h:Apart l):Apart (yac c m l):=by
 induction l with
 | nil=>exact List.pairwise_singleton _ _
 | cons x r ih =>
   obtain ⟨d,n⟩:=x;unfold Apart at h ih ⊢;rw [List.pairwise_cons] at h;unfold yac
   by_cases hm:m=n
   · rw [if_pos hm,List.pairwise_cons]; exact h
   · rw [if_neg hm,List.pairwise_cons];refine ⟨fun y hy=>?_,ih h.2⟩;rcases xbw hy with e | ⟨z,hz,e⟩
     · rw [e]; exact fun e'=>hm e'.symm
     · rw [<- e]; exact h.1 z hz
def gac (i : Nat) : Sp -> List (Mo × Value)
 | []=>[]
 | (_,m) :: r=>(m,.int .i64 i) :: gac (i+1) r
theorem jcc (c:Int) (m:Mo) (l:Sp):∀ i,(mog (gac i l) m=none/\yac c m l=l ++ [(c,m)]/\∀ z,mop (gac i l) m (.int .i64 (i+l.length:Nat))=gac i (l ++ [(z,m)])) \/
 ∃ k,∃ hk:k < l.length,mog (gac i l) m=some (.int .i64 (i+k:Nat))/\l[k].2=m/\yac c m l=l.set k (l[k].1+c,m)/\gac i (l.set k (l[k].1+c,m))=gac i l:=by
 induction l with
 | nil=>intro i; exact .inl ⟨rfl,rfl,fun z=>by simp [gac,mop]⟩
 | cons x r ih =>
   intro i;obtain ⟨d,n⟩:=x
   by_cases hm:m=n
   · subst hm;exact .inr ⟨0,by simp,by simp [gac,mog],rfl,by simp [yac],by simp [gac]⟩
   · rcases ih (i+1) with ⟨h1,h2,h3⟩ | ⟨k,hk,h1,h2,h3,h4⟩
     · refine .inl ⟨by simp [gac,mog,hm,h1],by simp [yac,hm,h2],fun z=>?_⟩;have:=h3 z;simp only [gac,mop,List.cons_append,List.length_cons,if_neg hm];rw [<- this,show i+1+r.length=i+(r.length+1) by omega]
     · refine .inr ⟨k+1,by simpa using hk,?_,by simpa using h2,by simp [yac,hm,h3],by simp [gac,h4]⟩;simp only [gac,mog,if_neg hm,h1];rw [show i+1+k=i+(k+1) by omega]
def GaV (base:Nat) (w:World) (G M:Nat) (v:Value) (l:Sp):Prop:=
 w.cell? ⟨G,0,none⟩=some (.map (some M))/\w.cell? ⟨G,1,none⟩=some v/\(∀ i,w.frozen? ⟨G,i,none⟩=false)/\wac w M (gac 0 l)/\TsV none base w v l/\(base<=G/\base<=M/\G ≠ M/\G < w.heap.size)/\∀ R,v.ownBlock=some R->R ≠ G/\R ≠ M
theorem GaV.ext {base:Nat} {w w':World} {G M:Nat} {v:Value} {l:Sp} (h:GaV base w G M v l) (hx:Ext w w'):GaV base w' G M v l:=by
 obtain ⟨h1,h2,h3,h4,h5,h6,h7⟩:=h;exact ⟨(hx.cell (p:=⟨G,0,none⟩) h6.2.2.2).trans h1,(hx.cell (p:=⟨G,1,none⟩) h6.2.2.2).trans h2,fun i=>(hx.frozen (p:=⟨G,i,none⟩) h6.2.2.2).trans (h3 i),h4.ext hx,h5.ext hx,⟨h6.1,h6.2.1,h6.2.2.1,Nat.lt_of_lt_of_le h6.2.2.2 hx.size⟩,h7⟩
def wce (G M:Nat) (v v':Value) (w w':World):Prop:=(∀ b,b < w.heap.size->b ≠ G->b ≠ M->v.ownBlock ≠ some b->w'.heap[b]?=w.heap[b]?)/\(v'.ownBlock=v.ownBlock\/∃ R,v'.ownBlock=some R/\w.heap.size<=R)
def wap (base:Nat) (G M:Nat) (v:Value) (l:Sp) (w:World) (e:Ending) (w':World):Prop:=e=.returned (.tuple #[])/\∃ v',GaV base w' G M v' l/\Below base w w'/\(∀ v ds,jb w v ds->jb w' v ds)/\wce G M v v' w w'
theorem jcv {base G M:Nat} {l':Sp} {w w4:World} {v0 v v':Value} (kM:wce G M v0 v' w w4) (uT:Below base w w4) (hn:∀ x ds,jb w x ds->jb w4 x ds) (h0:w4.cell? ⟨G,0,none⟩=some (.map (some M))) (h1:w4.cell? ⟨G,1,none⟩=some v) (hd:qo v=false) (hf:∀ i,w4.frozen? ⟨G,i,none⟩=false) (hm:wac w4 M (gac 0 l')) (ht:TsV none base w4 v' l') (hb:base<=G/\base<=M/\G ≠ M/\G < w4.heap.size) (ho:∀ R,v'.ownBlock=some R->R ≠ G/\R ≠ M):wap base G M v0 l' w (.returned (.tuple #[])) (w4.setCell ⟨G,1,none⟩ v'):=by
 have kU:∀ x ds,jb w4 x ds->jb (w4.setCell ⟨G,1,none⟩ v') x ds:=fun x ds hx=>hx.box h1 hd _
 refine ⟨rfl,v',⟨?_,World.cell?_setCell_same _ _ _ h1,fun i=>?_,hm.block (Below.heap_setCell _ _ _ M (Ne.symm hb.2.2.1)),ht.turn (fun R hR=>Below.heap_setCell _ _ _ R (ho R hR).1) kU,⟨hb.1,hb.2.1,hb.2.2.1,by simpa [World.setCell] using hb.2.2.2⟩,ho⟩,Below.setCell uT hb.1 _,fun x ds hx=>kU x ds (hn x ds hx),fun b h1 h2 h3 h4=>(Below.heap_setCell _ _ _ b h2).trans (kM.1 b h1 h2 h3 h4),kM.2⟩
 · rw [World.cell?_setCell_other _ _ _ _ (by simp)]; exact h0
 · rw [World.frozen?_setCell]; exact hf i
theorem vbu {w w':World} {M:Nat} {l:List (Mo × Value)} {v:Value} {ds:List Nat} (hv:jb w v ds) (hm:wac w M l) (ho:Only M w w'):jb w' v ds:=by
 obtain ⟨A,c,e,h1,h2,h3,h4⟩:=hv;refine ⟨A,c,e,h1,h2,h3,fun hd=>?_⟩;obtain ⟨ad,e4,af,hc⟩:=h4 hd;refine ⟨ad,e4,Nat.lt_of_lt_of_le af ho.size,fun j hj=>?_⟩;have au:ad.block ≠ M:=fun e=>by
  obtain ⟨es,clock,hb,-⟩:=hm;have h0:=hc 0 hd;rw [World.cell?,ja,e,hb] at h0;cases h0
 exact (ho.cell (p:=ad.add j) (by rw [ja]; exact af) (by rw [ja]; exact au)).trans (hc j hj)
theorem xcv {base G M:Nat} {v:Value} {l:Sp} {w:World} (h:GaV base w G M v l) (m:Mo) (x:Value) (k:Option Nat) (z:Int) (hc:Cf w k x z) (hm:¬ m.nonneg) (hb:base<=w.heap.size):Calls Tryz.prog 54 #[.pointer (some ⟨G,0,none⟩),moV m,x] w (wap base G M v l w):=by
 obtain ⟨b,B,n,c,rfl⟩:=hc.unpack;have HQ:Hid (decide (¬ m.nonneg)=true):=by
  have:decide (¬ m.nonneg)=true:=decide_eq_true hm;exact this
 have H:=hid h;obtain ⟨W,hW⟩:=n_m ((w.alloc (.cells #[.int .i64 m.a,.int .i64 m.b,.int .i64 m.c,.int .i64 m.d] 61)).alloc (.cells #[.bool b,.slice B n c] 30));have ag:Ext w W:=by rw [<- hW]; exact ((Ext.refl w).alloc _).alloc _
 obtain ⟨d0,d1,d2,d3⟩:vw W w.heap.size m:=by rw [<- hW]; exact (vw.new w m _).ext ((Ext.refl _).alloc _) (by simp)
 have aB:=hid ag;clear h hc ag;unfold moV;go_enter Tryz.func54,Tryz.ntmps54;go_wp2_with fail;refine (jat m W).mono ?_;rintro e w1 ⟨rfl,x1⟩;rw [HQ.out];have X1:=hid (aB.out.trans x1);clear x1;go_wp2_with fail;exact bodyPost_ret (results_none rfl _ _ _) rfl ⟨rfl,v,H.out.ext X1.out,Below.mono X1.out (by omega),fun v ds hv=>hv.ext X1.out,fun b hb _ _ _=>X1.out.below.block b hb,.inl rfl⟩
theorem zcv {base G M:Nat} {v:Value} {l:Sp} {w:World} (h:GaV base w G M v l) (m:Mo) (x:Value) (L:Nat) (z:Int) (hc:qm w x z L) (hL:L<=35184372088832) (hm:m.nonneg) (hb:base<=w.heap.size) (hlen:l.length < 1099511627776) (hn:mog (gac 0 l) m=none) (hp:∀ z,mop (gac 0 l) m (.int .i64 (0+l.length:Nat))=gac 0 (l ++ [(z,m)])):Calls Tryz.prog 54 #[.pointer (some ⟨G,0,none⟩),moV m,x] w (wap base G M v (l ++ [(z,m)]) w):=by
 have HC:=hid hc;obtain ⟨b,B,n,c,rfl⟩:=hc.unpack;have HQ:Hid (decide (¬ m.nonneg)=false):=by
  have:decide (¬ m.nonneg)=false:=decide_eq_false (fun h=>h hm);exact this
 have H:=hid h;obtain ⟨W,hW⟩:=n_m ((w.alloc (.cells #[.int .i64 m.a,.int .i64 m.b,.int .i64 m.c,.int .i64 m.d] 61)).alloc (.cells #[.bool b,.slice B n c] 30));have ag:Ext w W:=by rw [<- hW]; exact ((Ext.refl w).alloc _).alloc _
 have bY:W.heap.size=w.heap.size+1+1:=by rw [<- hW]; simp
 have iw:vw W w.heap.size m:=by rw [<- hW]; exact (vw.new w m _).ext ((Ext.refl _).alloc _) (by simp)
 have nS:W.cell? ⟨w.heap.size+1,0,none⟩=some (.bool b):=by rw [<- hW]; simp [go_sem]
 have bZ:W.cell? ⟨w.heap.size+1,1,none⟩=some (.slice B n c):=by rw [<- hW]; simp [go_sem]
 obtain ⟨d0,d1,d2,d3⟩:=id iw;have CO:=hid iw;have Ez:=hid nS;have Ey:=hid bZ;have aB:=hid ag;have HN:=hid hn;have HP:=hid hp;clear h hc ag iw hn hp nS bZ;unfold moV;go_enter Tryz.func54,Tryz.ntmps54;go_wp2_with fail;refine (jat m W).mono ?_;rintro e w1 ⟨rfl,x1⟩;rw [HQ.out];have h1:=H.out.ext (aB.out.trans x1);have rQ:=x1.size;obtain ⟨d0,d1,d2,d3⟩:=CO.out.ext x1 (by omega);have c0:=(x1.cell (p:=⟨w.heap.size+1,0,none⟩) (by show w.heap.size+1 < _; omega)).trans Ez.out;have c1:=(x1.cell (p:=⟨w.heap.size+1,1,none⟩) (by show w.heap.size+1 < _; omega)).trans Ey.out;have X1:=hid (aB.out.trans x1);obtain ⟨g0,g1,gf,gm,gt,⟨Zf,Ze,LX,yR⟩,xQ⟩:=h1;have lC:=wac.look (w:=w1.drew) gm m true;rw [HN.out] at lC;simp only [Option.getD_none,Option.isSome_none,if_true,moV] at lC;obtain ⟨At,ct,rfl,-,-⟩:=gt.len;have GM:=hid gm;have GT:=hid gt;have ru:=hid xQ;clear gm gt xQ x1 hW;go_upto_region 2 with fail
 go_region
 all_goals
  clear lC;have agy:=H.out.2.2.2.1.lt;have agE:=H.out.2.2.2.2.2.1.2.2.2;obtain ⟨W5,mJ,Zd,KX⟩:=wac.put (w:=w1.drew.drew) GM.out m (.int .i64 (0+l.length:Nat));rw [HP.out z] at Zd;simp only [moV,Nat.zero_add] at mJ;have TR:w1.heap.size<=W5.heap.size:=KX.size;have Yr:∀ b,b < w1.heap.size->b ≠ M->W5.heap[b]?=w1.heap[b]?:=fun b hb au=>KX.block hb au
  have k5:∀ b i,b < w1.heap.size->b ≠ M->W5.cell? ⟨b,i,none⟩=w1.cell? ⟨b,i,none⟩:=fun b i hb au=>World.cell?_of_block (a:=⟨b,i,none⟩) (Yr b hb au)
  have G0:=(k5 G 0 yR LX).trans g0;have G1:=(k5 G 1 yR LX).trans g1;have D0:=(k5 w.heap.size 0 (by omega) (by omega)).trans d0;have D1:=(k5 w.heap.size 1 (by omega) (by omega)).trans d1;have D2:=(k5 w.heap.size 2 (by omega) (by omega)).trans d2;have D3:=(k5 w.heap.size 3 (by omega) (by omega)).trans d3;have C0:=(k5 (w.heap.size+1) 0 (by omega) (by omega)).trans c0;have C1:=(k5 (w.heap.size+1) 1 (by omega) (by omega)).trans c1;have HK5:=hid k5;have Vx:=hid Yr;have HO5:=hid KX;have GM5:=hid Zd;clear k5 Yr KX Zd;go_upto_region 5 with fail
  go_region
  all_goals
   clear mJ d0 d1 d2 d3 c0 c1 g0 g1;have Dt:Only M w1 W5:=by
    obtain ⟨q1,q2,q3,q4,q5⟩:=HO5.out.g;exact ⟨q1,q2,q3,q4,q5⟩
   have x05:Below base w W5:=Below.grown (Below.mono X1.out hb) Dt (by have:=X1.out.size; omega) (fun k e=>by injection e with e; omega);have n05:∀ v ds,jb w v ds->jb W5 v ds:=fun v ds hv=>vbu (hv.ext X1.out) GM.out Dt
   have gt5:TsV none base W5 (.slice At l.length ct) l:=GT.out.turn (fun R hR=>Vx.out R (GT.out.own hR).2 (ru.out R hR).2) (fun v ds hv=>vbu hv GM.out Dt);have GT5:=hid gt5;have Zx:=hid n05;have X05:=hid x05;clear gt5 n05 x05 Dt;go_upto_region 6 with fail;have bG:Hid (∀ (w3:World) (A3:Option Addr) (c3:Nat),jb w3 (.slice A3 (dg z.natAbs).length c3) (dg z.natAbs)->Ext W5.drew w3->∃ w4 A4 c4,(Builtin.append_ #[23,23] 23 #[.slice At l.length ct,.slice (some ⟨w3.heap.size,0,none⟩) 1 1]).run Tryz.prog (w3.alloc (.cells #[.bool (decide (z < 0)),.slice A3 (dg z.natAbs).length c3,.int .i64 m.a,.int .i64 m.b,.int .i64 m.c,.int .i64 m.d] 76))=.ok (.slice A4 (l.length+1) c4) w4/\(w3.cell? ⟨w.heap.size,0,none⟩=some (.int .i64 m.a)/\w3.cell? ⟨w.heap.size,1,none⟩=some (.int .i64 m.b)/\w3.cell? ⟨w.heap.size,2,none⟩=some (.int .i64 m.c)/\w3.cell? ⟨w.heap.size,3,none⟩=some (.int .i64 m.d))/\(w3.cell? ⟨G,0,none⟩=some (.map (some M))/\w3.cell? ⟨G,1,none⟩=some (.slice At l.length ct))/\(G < w3.heap.size/\w.heap.size < w3.heap.size/\w.heap.size+1 < w3.heap.size)/\w4.cell? ⟨G,1,none⟩=some (.slice At l.length ct)/\(∀ i,w4.frozen? ⟨G,i,none⟩=false)/\wap base G M (.slice At l.length ct) (l ++ [(z,m)]) w (.returned (.tuple #[])) (w4.setCell ⟨G,1,none⟩ (.slice A4 (l.length+1) c4))):=by
    intro w3 A3 c3 n3 x3;have y3:Ext W5 w3:=Ext.trans ((Ext.refl W5).drew) x3;obtain ⟨v4,w4,ax,t4,LY,VI,TI⟩:=(GT5.out.ext y3).push (by have:=y3.size; omega) (k:=none) (z:=z) (b:=decide (z < 0)) (s:=.slice A3 (dg z.natAbs).length c3) ⟨_,rfl,n3⟩ m hlen 23;obtain ⟨A4,c4,e4,-,-⟩:=t4.len;rw [show (l ++ [(z,m)]).length=l.length+1 by simp] at e4;subst e4;have e3:∀ b i,b < w1.heap.size->w3.cell? ⟨b,i,none⟩=W5.cell? ⟨b,i,none⟩:=fun b i hb=>y3.cell (p:=⟨b,i,none⟩) (by show b < _; omega)
    have E0:=(e3 w.heap.size 0 (by omega)).trans D0;have E1:=(e3 w.heap.size 1 (by omega)).trans D1;have E2:=(e3 w.heap.size 2 (by omega)).trans D2;have E3:=(e3 w.heap.size 3 (by omega)).trans D3;have F0:=(e3 G 0 yR).trans G0;have F1:=(e3 G 1 yR).trans G1;have y3s:=y3.size;have hG3:G < w3.heap.size:=by omega
    have hB3:w.heap.size < w3.heap.size:=by omega
    have hC3:w.heap.size+1 < w3.heap.size:=by omega
    have Ju:∀ b,b < w1.heap.size->(Value.slice At l.length ct).ownBlock ≠ some b->w4.heap[b]?=w3.heap[b]?:=fun b hb au=>World.grownBy.block LY b (by omega) (fun e=>au e.symm)
    have gG:=Ju G yR (fun e=>(ru.out G e).1 rfl);have H1:w4.cell? ⟨G,1,none⟩=some (.slice At l.length ct):=(World.cell?_of_block (a:=⟨G,1,none⟩) gG).trans F1;have HF:∀ i,w4.frozen? ⟨G,i,none⟩=false:=fun i=>(World.frozen?_of_block (a:=⟨G,i,none⟩) gG).trans ((y3.frozen (p:=⟨G,i,none⟩) (by show G < _; omega)).trans ((World.frozen?_of_block (a:=⟨G,i,none⟩) (Vx.out G yR LX)).trans (gf i)))
    have uH:∀ R,(Value.slice A4 (l.length+1) c4).ownBlock=some R->R ≠ G/\R ≠ M:=fun R hR=>by
     rcases TI with o | o
     · exact ru.out R (o.symm.trans hR)
     · rw [o] at hR; injection hR with hR; omega
    have bD:Hid (wap base G M (.slice At l.length ct) (l ++ [(z,m)]) w (.returned (.tuple #[])) (w4.setCell ⟨G,1,none⟩ (.slice A4 (l.length+1) c4))):=by
     have agQ:=LY.size;have hX1:=X1.out;have agh:=hX1.size;have kM:wce G M (.slice At l.length ct) (.slice A4 (l.length+1) c4) w w4:=⟨fun b h1 h2 h3 h4=>(Ju b (by omega) h4).trans ((y3.below.block b (by omega)).trans ((Vx.out b (by omega) h3).trans (hX1.below.block b h1))),TI.imp id (fun h=>⟨_,h,by omega⟩)⟩;exact jcv (v:=.slice At l.length ct) kM (Below.grown (Below.trans X05.out (Below.mono y3 (by omega))) LY (by omega) (fun b hb=>(GT5.out.own hb).1)) (fun x ds hx=>VI x ds ((Zx.out x ds hx).ext y3)) ((World.cell?_of_block (a:=⟨G,0,none⟩) gG).trans F0) H1 rfl HF (GM5.out.block ((Ju M (by omega) (fun e=>(ru.out M e).2 rfl)).trans (y3.below.block M (by omega)))) t4 ⟨Zf,Ze,LX,by omega⟩ uH
    exact ⟨w4,A4,c4,ax,⟨E0,E1,E2,E3⟩,⟨F0,F1⟩,⟨hG3,hB3,hC3⟩,H1,HF,bD.out⟩
   have oQ:=hid (Cf.turn (k:=some L) (w:=w) HC.out (fun v ds hv=>(Zx.out v ds hv).ext ((Ext.refl W5).drew)));clear GT5 Zx X05 GM5 Vx HO5 HK5 ru HC GM GT H HP HN aB X1 CO Ez Ey
   go_region_law (first
    | (go_simp
       go_at_call 32
       refine (xam _ z L _ oQ.out hL).mono ?_;rintro e w3 ⟨v3,rfl,⟨s3,rfl,n3⟩,x3⟩;obtain ⟨A3,c3,rfl,-⟩:=id n3;obtain ⟨w4,A4,c4,ax,⟨E0,E1,E2,E3⟩,⟨F0,F1⟩,⟨hG3,hB3,hC3⟩,H1,HF,aQ⟩:=bG.out _ _ _ n3 x3;have bD:=hid aQ
       clear n3 x3 aQ)
    | (refine wag rfl (.tmp 51) (.tmp 56) _ _ rfl _ _ _ _ (by simp [Act.eval,Act.put]) (by simp [Act.eval,Act.put]) ax ?_))
   all_goals
    clear ax E0 E1 E2 E3 F0 F1 H1 HF
    go_end0
    exact bD.out
theorem jm.set_ {T k base:Nat} {W:World} {g c n:Nat} {xs:List Value} (h:jm T k base W (.slice (some ⟨g,0,none⟩) n c) n xs) (j:Nat) (hj:j < n * k) (u:Value) (hu:qo u=false) :
 jm T k base (W.setCell ⟨g,j,none⟩ u) (.slice (some ⟨g,0,none⟩) n c) n (xs.set j u):=by
 obtain ⟨⟨h1,h2⟩,h3⟩:=h;rcases h2 with ⟨h2,-⟩ | ⟨g',cap,cur,e,hb,hg,hc,hm,hs,ht⟩
 · cases h2
 injection e with e1 e2 e3
 injection e1 with e1
 injection e1 with e1
 subst e1 e3;have Fj:(W.setCell ⟨g,j,none⟩ u).heap[g]?=some (.cells (cur.setIfInBounds j u) T (0,0)):=by
  simp [World.setCell,Array.getElem?_modify,hg]
 refine ⟨⟨by rw [List.length_set]; exact h1,.inr ⟨g,c,cur.setIfInBounds j u,rfl,hb,Fj,hc,hm,by simpa using hs,?_⟩⟩,?_⟩
 · rw [Array.toList_setIfInBounds,List.take_set,ht]
 · intro R cur' T' fr e dX u' TN;have hR:g=R:=by simpa [Value.ownBlock] using e
   rw [<- hR,Fj] at dX;injection dX with dX
   injection dX with dX
   rw [<- dX,Array.toList_setIfInBounds] at TN;rcases List.mem_or_eq_of_mem_set TN with TN | rfl
   · exact h3 g cur T (0,0) rfl hg u' TN
   · exact hu
theorem xcl (rs:List (Bool × Value × Int × Mo)):∀ (k:Nat) (hk:k < rs.length) (b:Bool) (s:Value) (z:Int),kam (rs.set k (b,s,z,rs[k].2.2.2))=((kam rs).set (k * 6) (.bool b)).set (k * 6+1) s:=by
 induction rs with
 | nil=>intro k hk; simp at hk
 | cons r rs ih =>
   intro k hk b s z;have hl:(tmC r.1 r.2.1 r.2.2.2).length=6:=rfl;cases k with
   | zero=>simp [kam,tmC]
   | succ k =>
     have:=ih k (by simpa using hk) b s z;simp only [List.set_cons_succ,List.getElem_cons_succ,kam,List.flatMap_cons] at this ⊢;rw [this,List.set_append_right _ _ (by rw [hl]; omega),List.set_append_right _ _ (by rw [hl]; omega),hl]
     congr 3 <;> omega
theorem TsV.set_ {base:Nat} {W:World} {g c:Nat} {l:Sp} (h:TsV none base W (.slice (some ⟨g,0,none⟩) l.length c) l) (k:Nat) (hk:k < l.length) {b:Bool} {A:Option Addr} {n d:Nat} {z:Int} (hc:Cf W none (.agg #[.bool b,.slice A n d]) z) :
 TsV none base ((W.setCell ⟨g,k * 6,none⟩ (.bool b)).setCell ⟨g,k * 6+1,none⟩ (.slice A n d)) (.slice (some ⟨g,0,none⟩) l.length c) (l.set k (z,l[k].2))/\(∀ v ds,jb W v ds->jb ((W.setCell ⟨g,k * 6,none⟩ (.bool b)).setCell ⟨g,k * 6+1,none⟩ (.slice A n d)) v ds):=by
 obtain ⟨rs,rfl,h2,h3⟩:=h;rw [List.length_map] at hk;simp only [List.length_map] at h2 ⊢;have q0:=h2.cell (k * 6) (by omega);have q1:=h2.cell (k * 6+1) (by omega);have f0:=yaw rs k hk 0 (by omega);have f1:=yaw rs k hk 1 (by omega);rw [Nat.add_zero] at f0;rw [f0] at q0;rw [f1] at q1;obtain ⟨b',B',n',c',e'⟩:=(h3 rs[k] (List.getElem_mem hk)).unpack;simp only [Value.agg.injEq,Array.mk.injEq,List.cons.injEq,and_true] at e';have q1':W.cell? ⟨g,k * 6+1,none⟩=some (.slice B' n' c'):=by rw [q1,<- e'.2]; rfl
 have ak:∀ v ds,jb W v ds->jb ((W.setCell ⟨g,k * 6,none⟩ (.bool b)).setCell ⟨g,k * 6+1,none⟩ (.slice A n d)) v ds:=fun v ds hv =>
  (hv.box q0 rfl _).box (u:=.slice B' n' c') (by rw [World.cell?_setCell_other _ _ _ _ (by simp)]; exact q1') rfl _
 refine ⟨⟨rs.set k (b,.slice A n d,z,rs[k].2.2.2),?_,?_,fun r hr=>?_⟩,ak⟩
 · rw [List.map_set]; simp
 · rw [List.length_set,xcl rs k hk];exact (h2.set_ (k * 6) (by omega) _ rfl).set_ (k * 6+1) (by omega) _ rfl
 · rcases List.mem_or_eq_of_mem_set hr with hr | rfl
   · exact (h3 r hr).turn ak
   · exact hc.turn ak
theorem wcu {base G M:Nat} {v:Value} {l:Sp} {w:World} (h:GaV base w G M v l) (m:Mo) (x:Value) (L:Nat) (z:Int) (hc:qm w x z L) (hm:m.nonneg) (hb:base<=w.heap.size) (k:Nat) (hk:k < l.length) (hL:L+(dg l[k].1.natAbs).length<=35184372088000) (hlen:l.length < 1099511627776) (hn:mog (gac 0 l) m=some (.int .i64 (0+k:Nat))) (Ai:l[k].2=m) (lS:gac 0 (l.set k (l[k].1+z,m))=gac 0 l):Calls Tryz.prog 54 #[.pointer (some ⟨G,0,none⟩),moV m,x] w (wap base G M v (l.set k (l[k].1+z,m)) w):=by
 have HC:=hid hc;obtain ⟨b,B,n,c,rfl⟩:=hc.unpack;have HQ:Hid (decide (¬ m.nonneg)=false):=by
  have:decide (¬ m.nonneg)=false:=decide_eq_false (fun h=>h hm);exact this
 have H:=hid h;obtain ⟨W,hW⟩:=n_m ((w.alloc (.cells #[.int .i64 m.a,.int .i64 m.b,.int .i64 m.c,.int .i64 m.d] 61)).alloc (.cells #[.bool b,.slice B n c] 30));have ag:Ext w W:=by rw [<- hW]; exact ((Ext.refl w).alloc _).alloc _
 have bY:W.heap.size=w.heap.size+1+1:=by rw [<- hW]; simp
 have iw:vw W w.heap.size m:=by rw [<- hW]; exact (vw.new w m _).ext ((Ext.refl _).alloc _) (by simp)
 have nS:W.cell? ⟨w.heap.size+1,0,none⟩=some (.bool b):=by rw [<- hW]; simp [go_sem]
 have bZ:W.cell? ⟨w.heap.size+1,1,none⟩=some (.slice B n c):=by rw [<- hW]; simp [go_sem]
 obtain ⟨d0,d1,d2,d3⟩:=id iw;have CO:=hid iw;have Ez:=hid nS;have Ey:=hid bZ;have aB:=hid ag;have HN:=hid hn;have Sl:=hid Ai;have nX:=hid lS;clear h hc ag iw hn nS bZ Ai lS;unfold moV;go_enter Tryz.func54,Tryz.ntmps54;go_wp2_with fail;refine (jat m W).mono ?_;rintro e w1 ⟨rfl,x1⟩;rw [HQ.out];have h1:=H.out.ext (aB.out.trans x1);have rQ:=x1.size;obtain ⟨d0,d1,d2,d3⟩:=CO.out.ext x1 (by omega);have c0:=(x1.cell (p:=⟨w.heap.size+1,0,none⟩) (by show w.heap.size+1 < _; omega)).trans Ez.out;have c1:=(x1.cell (p:=⟨w.heap.size+1,1,none⟩) (by show w.heap.size+1 < _; omega)).trans Ey.out;have X1:=hid (aB.out.trans x1);obtain ⟨g0,g1,gf,gm,gt,⟨Zf,Ze,LX,yR⟩,xQ⟩:=h1;have lC:=wac.look (w:=w1.drew) gm m true;rw [HN.out] at lC;simp only [Option.getD_some,Option.isSome_some,if_true,moV,Nat.zero_add] at lC;obtain ⟨At,ct,rfl,-,-⟩:=gt.len;have mD:=gt.sp;obtain ⟨A',c',e',-,-,aK⟩:=mD;injection e' with e1 e2 e3
 subst e1 e3;obtain ⟨ad,b1,B1,n1,c2,rfl,ah,jA,dE⟩:=aK k hk;obtain ⟨rs,Dk,iG,BR⟩:=id gt;have uD:rs.length=l.length:=by rw [<- Dk,List.length_map]
 rw [uD] at iG;obtain ⟨R,cR,eR,-,-,Qs,wY,XD⟩:=iG.pos (by omega);injection eR with Zj eR2 eR3
 injection Zj with Zj
 subst Zj;have xP:=xQ R rfl;rw [uq,Nat.zero_add] at jA;obtain ⟨t0,t1,-⟩:=jA;simp only at t0 t1;have GM:=hid gm;have GT:=hid gt;have ru:=hid xQ;have lI:=hid dE;clear gm gt xQ x1 hW iG BR Dk dE aK;go_upto_region 2 with fail
 go_region
 all_goals
  clear lC d0 d1 d2 d3;have bG:Hid (∀ (w3:World) (x3:Value),vk w3 x3 (l[k].1+z)->Ext w1.drew.drew w3->∃ A3 n3 c3,x3=.agg #[.bool (decide (l[k].1+z < 0)),.slice A3 n3 c3]/\(w3.cell? ⟨G,0,none⟩=some (.map (some M))/\w3.cell? ⟨G,1,none⟩=some (.slice (some ⟨R,0,none⟩) l.length ct))/\(w3.cell? ⟨R,k * 6,none⟩=some (.bool b1)/\w3.cell? ⟨R,k * 6+1,none⟩=some (.slice B1 n1 c2)/\(∀ i,w3.frozen? ⟨R,i,none⟩=false))/\wap base G M (.slice (some ⟨R,0,none⟩) l.length ct) (l.set k (l[k].1+z,m)) w (.returned (.tuple #[])) ((w3.setCell ⟨R,k * 6,none⟩ (.bool (decide (l[k].1+z < 0)))).setCell ⟨R,k * 6+1,none⟩ (.slice A3 n3 c3))):=by
   intro w3 x3 n3 y3;obtain ⟨s3,rfl,nv⟩:=id n3;obtain ⟨A3,c3,rfl,-⟩:=id nv;have CW:Ext w1 w3:=Ext.trans (((Ext.refl w1).drew).drew) y3;have EK:=CW.size;have ev:∀ bb i,bb < w1.heap.size->w3.cell? ⟨bb,i,none⟩=w1.cell? ⟨bb,i,none⟩:=fun bb i h=>CW.cell (p:=⟨bb,i,none⟩) h
   refine ⟨A3,_,c3,rfl,⟨(ev G 0 yR).trans g0,(ev G 1 yR).trans g1⟩,⟨(ev R _ wY).trans t0,(ev R _ wY).trans t1,fun i=>(CW.frozen (p:=⟨R,i,none⟩) wY).trans (XD i)⟩,?_⟩;obtain ⟨ts,tn⟩:=(GT.out.ext CW).set_ k hk (b:=decide (l[k].1+z < 0)) (A:=A3) (d:=c3) n3;rw [Sl.out] at ts;refine ⟨rfl,.slice (some ⟨R,0,none⟩) l.length ct,⟨?_,?_,fun i=>?_,?_,?_,⟨Zf,Ze,LX,?_⟩,ru.out⟩,?_,fun x ds hx=>tn x ds ((hx.ext X1.out).ext CW),fun b h1 h2 h3 h4=>?_,.inl rfl⟩
   · rw [World.cell?_setCell_other _ _ _ _ (by intro e; injection e with e; exact xP.1 e),World.cell?_setCell_other _ _ _ _ (by intro e; injection e with e; exact xP.1 e)]; exact (ev G 0 yR).trans g0
   · rw [World.cell?_setCell_other _ _ _ _ (by intro e; injection e with e; exact xP.1 e),World.cell?_setCell_other _ _ _ _ (by intro e; injection e with e; exact xP.1 e)]; exact (ev G 1 yR).trans g1
   · rw [World.frozen?_setCell,World.frozen?_setCell]; exact (CW.frozen (p:=⟨G,i,none⟩) yR).trans (gf i)
   · rw [nX.out];exact (GM.out.ext CW).block ((Below.heap_setCell _ _ _ M (fun e=>xP.2 e.symm)).trans (Below.heap_setCell _ _ _ M (fun e=>xP.2 e.symm)))
   · have:(l.set k (l[k].1+z,m)).length=l.length:=List.length_set;exact ts
   · simp only [World.setCell,Array.size_modify]; omega
   · exact Below.setCell (Below.setCell (Below.mono (X1.out.trans CW) hb) Qs _) Qs _
   · have Qr:b ≠ R:=fun e=>h4 (by rw [e]; rfl)
     exact ((Below.heap_setCell _ _ _ b Qr).trans (Below.heap_setCell _ _ _ b Qr)).trans ((X1.out.trans CW).below.block b h1)
  have OE:∀ w3 x3,vk w3 x3 (l[k].1+z)->Ext w1.drew.drew w3->True:=fun _ _ _ _=>trivial
  have Tu:=hid (lI.out.ext (((Ext.refl w1).drew).drew));have Tt:=hid (HC.out.ext (X1.out.trans (((Ext.refl w1).drew).drew)));have hq:(⟨R,0,none⟩:Addr).add (k * 6)=⟨R,k * 6,none⟩:=by rw [uq,Nat.zero_add]
  clear GM GT ru lI HC nX Sl HN aB X1 CO Ez Ey H;go_upto_region 4 with fail
  go_region_law (first
   | (go_simp
      go_at_call 80
      refine (xb8 _ _ (l[k].1) z _ L _ (vk.raw Tu.out) Tt.out (by omega)).mono ?_;rintro e w3 ⟨x3,rfl,n3,y3⟩;obtain ⟨A3,Nj,c3,rfl,⟨G0,G1⟩,⟨T0,T1,TF⟩,aQ⟩:=bG.out _ _ n3 y3;have bD:=hid aQ
      clear n3 y3 aQ))
  all_goals
   clear G0 G1 T0 T1 TF;go_wp2_with fail;exact bodyPost_ret (results_none rfl _ _ _) rfl bD.out
theorem qcv {base G M:Nat} {v:Value} {l:Sp} {w:World} (h:GaV base w G M v l) (m:Mo) (x:Value) (L:Nat) (z:Int) (hc:qm w x z L) (hb:base<=w.heap.size) (hL:L+(dg (yg l)).length<=35184372088000) (hlen:l.length < 1099511627776):Calls Tryz.prog 54 #[.pointer (some ⟨G,0,none⟩),moV m,x] w (wap base G M v (if m.nonneg then yac z m l else l) w):=by
 by_cases hm:m.nonneg
 · rw [if_pos hm];rcases jcc z m l 0 with ⟨h1,h2,h3⟩ | ⟨k,hk,h1,h2,h3,h4⟩
   · rw [h2]; exact zcv h m x L z hc (by omega) hm hb hlen h1 h3
   · rw [h3];have hd:=ku (waz (List.getElem_mem hk));exact wcu h m x L z hc hm hb k hk (by omega) hlen h1 h2 h4
 · rw [if_neg hm]; exact xcv h m x (some L) z hc hm hb
def vaq:Go.Shelf.Ren:=⟨fun | 14=>108 | 20=>128 | 21=>129 | 22=>130 | 23=>131 | 24=>132 | 25=>133 | 26=>134 | 27=>135 | 46=>149 | 47=>119 | 48=>120 | 49=>150 | 50=>151 | 15=>74 | 57=>156 | 28=>102 | 29=>103 | n=>n,fun | 24=>76 | 22=>22 | 3=>3 | 25=>110 | 4=>4 | 0=>0 | 46=>127 | 45=>126 | 50=>115 | 66=>146 | 39=>85 | 55=>67 | 70=>150 | 76=>168 | 77=>169 | 53=>84 | 5=>5 | 9=>9 | n=>n,fun | n=>n⟩
theorem xbr : Go.Proofs.SlLaysF0.n14 Tryz.prog vaq := {
 mixed:=by kernel_rfl,
 f14:=⟨Tryz.f108.name,by decide,Tryz.func108.trans (congrArg some (by kernel_rfl))⟩,
 f15:=Tryz.func74.trans (congrArg some (by kernel_rfl)),
 f20:=⟨Tryz.f128.name,by decide,Tryz.func128.trans (congrArg some (by kernel_rfl))⟩,
 f21:=⟨Tryz.f129.name,by decide,Tryz.func129.trans (congrArg some (by kernel_rfl))⟩,
 f22:=⟨Tryz.f130.name,by decide,Tryz.func130.trans (congrArg some (by kernel_rfl))⟩,
 f23:=⟨Tryz.f131.name,by decide,Tryz.func131.trans (congrArg some (by kernel_rfl))⟩,
 f24:=⟨Tryz.f132.name,by decide,Tryz.func132.trans (congrArg some (by kernel_rfl))⟩,
 f25:=⟨Tryz.f133.name,by decide,Tryz.func133.trans (congrArg some (by kernel_rfl))⟩,
 f26:=⟨Tryz.f134.name,by decide,Tryz.func134.trans (congrArg some (by kernel_rfl))⟩,
 f27:=⟨Tryz.f135.name,by decide,Tryz.func135.trans (congrArg some (by kernel_rfl))⟩,
 f28:=Tryz.func102.trans (congrArg some (by kernel_rfl)),
 f29:=Tryz.func103.trans (congrArg some (by kernel_rfl)),
 f46:=⟨Tryz.f149.name,by decide,Tryz.func149.trans (congrArg some (by kernel_rfl))⟩,
 f47:=Tryz.func119.trans (congrArg some (by kernel_rfl)),
 f48:=Tryz.func120.trans (congrArg some (by kernel_rfl)),
 f49:=⟨Tryz.f150.name,by decide,Tryz.func150.trans (congrArg some (by kernel_rfl))⟩,
 f50:=⟨Tryz.f151.name,by decide,Tryz.func151.trans (congrArg some (by kernel_rfl))⟩,
 f57:=⟨Tryz.f156.name,by decide,Tryz.func156.trans (congrArg some (by kernel_rfl))⟩,
 t0:=Tryz.underlying0,
 a0:=Tryz.isAgg0,
 z0:=Tryz.sizeOf0,
 v0:=Tryz.zeroValue0,
 t3:=Tryz.underlying3,
 a3:=Tryz.isAgg3,
 z3:=Tryz.sizeOf3,
 v3:=Tryz.zeroValue3,
 t4:=Tryz.underlying4,
 a4:=Tryz.isAgg4,
 z4:=Tryz.sizeOf4,
 v4:=Tryz.zeroValue4,
 t5:=Tryz.underlying5,
 a5:=Tryz.isAgg5,
 z5:=Tryz.sizeOf5,
 v5:=Tryz.zeroValue5,
 t9:=Tryz.underlying9,
 a9:=Tryz.isAgg9,
 z9:=Tryz.sizeOf9,
 v9:=Tryz.zeroValue9,
 t22:=Tryz.underlying22,
 a22:=Tryz.isAgg22,
 z22:=Tryz.sizeOf22,
 v22:=Tryz.zeroValue22,
 t25:=Tryz.underlying110,
 a25:=Tryz.isAgg110,
 z25:=Tryz.sizeOf110,
 v25:=Tryz.zeroValue110,
 t39:=Tryz.underlying85,
 a39:=Tryz.isAgg85,
 z39:=Tryz.sizeOf85,
 v39:=Tryz.zeroValue85,
 t45:=Tryz.underlying126,
 a45:=Tryz.isAgg126,
 z45:=Tryz.sizeOf126,
 v45:=Tryz.zeroValue126,
 t46:=Tryz.underlying127,
 a46:=Tryz.isAgg127,
 z46:=Tryz.sizeOf127,
 v46:=Tryz.zeroValue127,
 t50:=Tryz.underlying115,
 a50:=Tryz.isAgg115,
 z50:=Tryz.sizeOf115,
 v50:=Tryz.zeroValue115,
 t53:=Tryz.underlying84,
 a53:=Tryz.isAgg84,
 z53:=Tryz.sizeOf84,
 v53:=Tryz.zeroValue84,
 t55:=Tryz.underlying67,
 a55:=Tryz.isAgg67,
 z55:=Tryz.sizeOf67,
 v55:=Tryz.zeroValue67,
 t66:=Tryz.underlying146,
 a66:=Tryz.isAgg146,
 z66:=Tryz.sizeOf146,
 v66:=Tryz.zeroValue146,
 t70:=Tryz.underlying150,
 a70:=Tryz.isAgg150,
 z70:=Tryz.sizeOf150,
 v70:=Tryz.zeroValue150,
 t76:=Tryz.underlying168,
 a76:=Tryz.isAgg168,
 z76:=Tryz.sizeOf168,
 v76:=Tryz.zeroValue168,
 t77:=Tryz.underlying169,
 a77:=Tryz.isAgg169,
 z77:=Tryz.sizeOf169,
 v77:=Tryz.zeroValue169 }
theorem qcz:Go.Proofs.SlLaysF0.n15 Tryz.prog vaq:={ xbr with }
end Go.Proofs.YtcepajijiabkmaaGreat
