/- Layer 20: (*gather).add: the terms collected by their monomials. -/
import Derived.Test.YtklnlgnnlmdibaaGreatMq9
import Derived.Shelf.SlSortCmp.WholeK
set_option linter.unusedSimpArgs false
set_option linter.unusedVariables false
set_option maxRecDepth 100000
set_option maxHeartbeats 8000000
namespace Go.Proofs.YtklnlgnnlmdibaaGreat
open Lib (hid)
open Go.RowKit
def jac (c : Int) (m : Mo) : Sp -> Sp
 | []=>[(c,m)]
 | (d,n) :: r=>if m=n then (d+c,n) :: r else (d,n) :: jac c m r
theorem qcd (c:Int) (m:Mo) (l:Sp) (k:Mo):je (jac c m l) k=je l k+if m=k then c else 0:=by
 induction l with
 | nil=>simp [jac,je]
 | cons x r ih =>
   obtain ⟨d,n⟩:=x;unfold jac
   by_cases h:m=n
   · rw [if_pos h]; subst h; simp only [je]; split <;> omega
   · rw [if_neg h]; simp only [je,ih]; omega
theorem zcn (c:Int) (m:Mo) (l:Sp):qg (jac c m l)<=qg l+c.natAbs:=by
 induction l with
 | nil=>simp [jac,qg]
 | cons x r ih =>
   obtain ⟨d,n⟩:=x;unfold jac
   by_cases h:m=n
   · rw [if_pos h]; simp only [qg]; omega
   · rw [if_neg h]; simp only [qg]; omega
theorem ycn (c:Int) (m:Mo) (l:Sp):(jac c m l).length<=l.length+1:=by
 induction l with
 | nil=>simp [jac]
 | cons x r ih =>
   obtain ⟨d,n⟩:=x;unfold jac
   by_cases h:m=n
   · rw [if_pos h]; simp
   · rw [if_neg h]; simp; omega
theorem xbr {c:Int} {m:Mo} {l:Sp} {x:Int × Mo} (h:x ∈ jac c m l):x.2=m\/∃ y ∈ l,y.2=x.2:=by
 induction l with
 | nil=>left; rw [List.mem_singleton.1 h]
 | cons y r ih =>
   obtain ⟨d,n⟩:=y;unfold jac at h
   split at h
   · rcases List.mem_cons.1 h with rfl | h
     · exact .inr ⟨_,List.mem_cons_self,rfl⟩
     · exact .inr ⟨x,List.mem_cons_of_mem _ h,rfl⟩
   · rcases List.mem_cons.1 h with rfl | h
     · exact .inr ⟨_,List.mem_cons_self,rfl⟩
     · rcases ih h with h | ⟨y,hy,e⟩
       · exact .inl h
       · exact .inr ⟨y,List.mem_cons_of_mem _ hy,e⟩
def Apart (l:Sp):Prop:=l.Pairwise fun x y=>x.2 ≠ y.2
theorem zb5 (c:Int) (m:Mo) (l:Sp) (h:Apart l):Apart (jac c m l):=by
 induction l with
 | nil=>exact List.pairwise_singleton _ _
 | cons x r ih =>
   obtain ⟨d,n⟩:=x;unfold Apart at h ih ⊢;rw [List.pairwise_cons] at h;unfold jac
   by_cases hm:m=n
   · rw [if_pos hm,List.pairwise_cons]; exact h
   · rw [if_neg hm,List.pairwise_cons];refine ⟨fun y hy=>?_,ih h.2⟩;rcases xbr hy with e | ⟨z,hz,e⟩
     · rw [e]; exact fun e'=>hm e'.symm
     · rw [<- e]; exact h.1 z hz
def xad (i : Nat) : Sp -> List (Mo × Value)
 | []=>[]
 | (_,m) :: r=>(m,.int .i64 i) :: xad (i+1) r
theorem wb4 (c:Int) (m:Mo) (l:Sp):∀ i,(mog (xad i l) m=none/\jac c m l=l ++ [(c,m)]/\∀ z,mop (xad i l) m (.int .i64 (i+l.length:Nat))=xad i (l ++ [(z,m)])) \/
 ∃ k,∃ hk:k < l.length,mog (xad i l) m=some (.int .i64 (i+k:Nat))/\l[k].2=m/\jac c m l=l.set k (l[k].1+c,m)/\xad i (l.set k (l[k].1+c,m))=xad i l:=by
 induction l with
 | nil=>intro i; exact .inl ⟨rfl,rfl,fun z=>by simp [xad,mop]⟩
 | cons x r ih =>
   intro i;obtain ⟨d,n⟩:=x
   by_cases hm:m=n
   · subst hm;exact .inr ⟨0,by simp,by simp [xad,mog],rfl,by simp [jac],by simp [xad]⟩
   · rcases ih (i+1) with ⟨h1,h2,h3⟩ | ⟨k,hk,h1,h2,h3,h4⟩
     · refine .inl ⟨by simp [xad,mog,hm,h1],by simp [jac,hm,h2],fun z=>?_⟩;have:=h3 z;simp only [xad,mop,List.cons_append,List.length_cons,if_neg hm];rw [<- this,show i+1+r.length=i+(r.length+1) by omega]
     · refine .inr ⟨k+1,by simpa using hk,?_,by simpa using h2,by simp [jac,hm,h3],by simp [xad,h4]⟩;simp only [xad,mog,if_neg hm,h1];rw [show i+1+k=i+(k+1) by omega]
def GaV (base:Nat) (w:World) (G M:Nat) (v:Value) (l:Sp):Prop:=
 w.cell? ⟨G,0,none⟩=some (.map (some M))/\w.cell? ⟨G,1,none⟩=some v/\(∀ i,w.frozen? ⟨G,i,none⟩=false)/\qad w M (xad 0 l)/\TsV none base w v l/\(base<=G/\base<=M/\G ≠ M/\G < w.heap.size)/\∀ R,v.ownBlock=some R->R ≠ G/\R ≠ M
theorem GaV.ext {base:Nat} {w w':World} {G M:Nat} {v:Value} {l:Sp} (h:GaV base w G M v l) (hx:Ext w w'):GaV base w' G M v l:=by
 obtain ⟨h1,h2,h3,h4,h5,h6,h7⟩:=h;exact ⟨(hx.cell (p:=⟨G,0,none⟩) h6.2.2.2).trans h1,(hx.cell (p:=⟨G,1,none⟩) h6.2.2.2).trans h2,fun i=>(hx.frozen (p:=⟨G,i,none⟩) h6.2.2.2).trans (h3 i),h4.ext hx,h5.ext hx,⟨h6.1,h6.2.1,h6.2.2.1,Nat.lt_of_lt_of_le h6.2.2.2 hx.size⟩,h7⟩
def gb6 (G M:Nat) (v v':Value) (w w':World):Prop:=(∀ b,b < w.heap.size->b ≠ G->b ≠ M->v.ownBlock ≠ some b->w'.heap[b]?=w.heap[b]?)/\(v'.ownBlock=v.ownBlock\/∃ R,v'.ownBlock=some R/\w.heap.size<=R)
def kap (base:Nat) (G M:Nat) (v:Value) (l:Sp) (w:World) (e:Ending) (w':World):Prop:=e=.returned (.tuple #[])/\∃ v',GaV base w' G M v' l/\Below base w w'/\(∀ v ds,jd w v ds->jd w' v ds)/\gb6 G M v v' w w'
theorem vcn {base G M:Nat} {l':Sp} {w w4:World} {v0 v v':Value} (nG:gb6 G M v0 v' w w4) (xQ:Below base w w4) (hn:∀ x ds,jd w x ds->jd w4 x ds) (h0:w4.cell? ⟨G,0,none⟩=some (.map (some M))) (h1:w4.cell? ⟨G,1,none⟩=some v) (hd:jq v=false) (hf:∀ i,w4.frozen? ⟨G,i,none⟩=false) (hm:qad w4 M (xad 0 l')) (ht:TsV none base w4 v' l') (hb:base<=G/\base<=M/\G ≠ M/\G < w4.heap.size) (ho:∀ R,v'.ownBlock=some R->R ≠ G/\R ≠ M):kap base G M v0 l' w (.returned (.tuple #[])) (w4.setCell ⟨G,1,none⟩ v'):=by
 have nO:∀ x ds,jd w4 x ds->jd (w4.setCell ⟨G,1,none⟩ v') x ds:=fun x ds hx=>hx.box h1 hd _
 refine ⟨rfl,v',⟨?_,World.cell?_setCell_same _ _ _ h1,fun i=>?_,hm.block (Below.heap_setCell _ _ _ M (Ne.symm hb.2.2.1)),ht.turn (fun R hR=>Below.heap_setCell _ _ _ R (ho R hR).1) nO,⟨hb.1,hb.2.1,hb.2.2.1,by simpa [World.setCell] using hb.2.2.2⟩,ho⟩,Below.setCell xQ hb.1 _,fun x ds hx=>nO x ds (hn x ds hx),fun b h1 h2 h3 h4=>(Below.heap_setCell _ _ _ b h2).trans (nG.1 b h1 h2 h3 h4),nG.2⟩
 · rw [World.cell?_setCell_other _ _ _ _ (by simp)]; exact h0
 · rw [World.frozen?_setCell]; exact hf i
theorem ybq {w w':World} {M:Nat} {l:List (Mo × Value)} {v:Value} {ds:List Nat} (hv:jd w v ds) (hm:qad w M l) (ho:Only M w w'):jd w' v ds:=by
 obtain ⟨A,c,e,h1,h2,h3,h4⟩:=hv;refine ⟨A,c,e,h1,h2,h3,fun hd=>?_⟩;obtain ⟨ad,e4,af,hc⟩:=h4 hd;refine ⟨ad,e4,Nat.lt_of_lt_of_le af ho.size,fun j hj=>?_⟩;have ak:ad.block ≠ M:=fun e=>by
  obtain ⟨es,clock,hb,-⟩:=hm;have h0:=hc 0 hd;rw [World.cell?,ja,e,hb] at h0;cases h0
 exact (ho.cell (p:=ad.add j) (by rw [ja]; exact af) (by rw [ja]; exact ak)).trans (hc j hj)
theorem jcn {base G M:Nat} {v:Value} {l:Sp} {w:World} (h:GaV base w G M v l) (m:Mo) (x:Value) (k:Option Nat) (z:Int) (hc:Cf w k x z) (hm:¬ m.nonneg) (hb:base<=w.heap.size):Calls Tryz.prog 74 #[.pointer (some ⟨G,0,none⟩),moV m,x] w (kap base G M v l w):=by
 obtain ⟨b,B,n,c,rfl⟩:=hc.unpack;have HQ:Hid (decide (¬ m.nonneg)=true):=by
  have:decide (¬ m.nonneg)=true:=decide_eq_true hm;exact this
 have H:=hid h;obtain ⟨W,hW⟩:=n_m ((w.alloc (.cells #[.int .i64 m.a,.int .i64 m.b,.int .i64 m.c,.int .i64 m.d] 75)).alloc (.cells #[.bool b,.slice B n c] 33));have ai:Ext w W:=by rw [<- hW]; exact ((Ext.refl w).alloc _).alloc _
 obtain ⟨d0,d1,d2,d3⟩:vw W w.heap.size m:=by rw [<- hW]; exact (vw.new w m _).ext ((Ext.refl _).alloc _) (by simp)
 have aF:=hid ai;clear h hc ai;unfold moV;go_enter Tryz.func74,Tryz.ntmps74;go_wp2_with fail;refine (kas m W).mono ?_;rintro e w1 ⟨rfl,x1⟩;rw [HQ.out];have X1:=hid (aF.out.trans x1);clear x1;go_wp2_with fail;exact bodyPost_ret (results_none rfl _ _ _) rfl ⟨rfl,v,H.out.ext X1.out,Below.mono X1.out (by omega),fun v ds hv=>hv.ext X1.out,fun b hb _ _ _=>X1.out.below.block b hb,.inl rfl⟩
theorem qcn {base G M:Nat} {v:Value} {l:Sp} {w:World} (h:GaV base w G M v l) (m:Mo) (x:Value) (L:Nat) (z:Int) (hc:um w x z L) (hL:L<=35184372088832) (hm:m.nonneg) (hb:base<=w.heap.size) (hlen:l.length < 1099511627776) (hn:mog (xad 0 l) m=none) (hp:∀ z,mop (xad 0 l) m (.int .i64 (0+l.length:Nat))=xad 0 (l ++ [(z,m)])):Calls Tryz.prog 74 #[.pointer (some ⟨G,0,none⟩),moV m,x] w (kap base G M v (l ++ [(z,m)]) w):=by
 have HC:=hid hc;obtain ⟨b,B,n,c,rfl⟩:=hc.unpack;have HQ:Hid (decide (¬ m.nonneg)=false):=by
  have:decide (¬ m.nonneg)=false:=decide_eq_false (fun h=>h hm);exact this
 have H:=hid h;obtain ⟨W,hW⟩:=n_m ((w.alloc (.cells #[.int .i64 m.a,.int .i64 m.b,.int .i64 m.c,.int .i64 m.d] 75)).alloc (.cells #[.bool b,.slice B n c] 33));have ai:Ext w W:=by rw [<- hW]; exact ((Ext.refl w).alloc _).alloc _
 have dE:W.heap.size=w.heap.size+1+1:=by rw [<- hW]; simp
 have iI:vw W w.heap.size m:=by rw [<- hW]; exact (vw.new w m _).ext ((Ext.refl _).alloc _) (by simp)
 have pJ:W.cell? ⟨w.heap.size+1,0,none⟩=some (.bool b):=by rw [<- hW]; simp [go_sem]
 have dh:W.cell? ⟨w.heap.size+1,1,none⟩=some (.slice B n c):=by rw [<- hW]; simp [go_sem]
 obtain ⟨d0,d1,d2,d3⟩:=id iI;have Ap:=hid iI;have Hl:=hid pJ;have Hg:=hid dh;have aF:=hid ai;have HN:=hid hn;have HP:=hid hp;clear h hc ai iI hn hp pJ dh;unfold moV;go_enter Tryz.func74,Tryz.ntmps74;go_wp2_with fail;refine (kas m W).mono ?_;rintro e w1 ⟨rfl,x1⟩;rw [HQ.out];have h1:=H.out.ext (aF.out.trans x1);have uX:=x1.size;obtain ⟨d0,d1,d2,d3⟩:=Ap.out.ext x1 (by omega);have c0:=(x1.cell (p:=⟨w.heap.size+1,0,none⟩) (by show w.heap.size+1 < _; omega)).trans Hl.out;have c1:=(x1.cell (p:=⟨w.heap.size+1,1,none⟩) (by show w.heap.size+1 < _; omega)).trans Hg.out;have X1:=hid (aF.out.trans x1);obtain ⟨g0,g1,gf,gm,gt,⟨gb1,gb2,PD,BC⟩,zZ⟩:=h1;have nX:=qad.look (w:=w1.drew) gm m true;rw [HN.out] at nX;simp only [Option.getD_none,Option.isSome_none,if_true,moV] at nX;obtain ⟨At,ct,rfl,-,-⟩:=gt.len;have GM:=hid gm;have GT:=hid gt;have uC:=hid zZ;clear gm gt zZ x1 hW;go_upto_region 2 with fail
 go_region
 all_goals
  clear nX;have ak5:=H.out.2.2.2.1.lt;have alc:=H.out.2.2.2.2.2.1.2.2.2;obtain ⟨W5,jA,gm5,CU⟩:=qad.put (w:=w1.drew.drew) GM.out m (.int .i64 (0+l.length:Nat));rw [HP.out z] at gm5;simp only [moV,Nat.zero_add] at jA;have XK:w1.heap.size<=W5.heap.size:=CU.size;have hb5:∀ b,b < w1.heap.size->b ≠ M->W5.heap[b]?=w1.heap[b]?:=fun b hb ak=>CU.block hb ak
  have k5:∀ b i,b < w1.heap.size->b ≠ M->W5.cell? ⟨b,i,none⟩=w1.cell? ⟨b,i,none⟩:=fun b i hb ak=>World.cell?_of_block (a:=⟨b,i,none⟩) (hb5 b hb ak)
  have G0:=(k5 G 0 BC PD).trans g0;have G1:=(k5 G 1 BC PD).trans g1;have D0:=(k5 w.heap.size 0 (by omega) (by omega)).trans d0;have D1:=(k5 w.heap.size 1 (by omega) (by omega)).trans d1;have D2:=(k5 w.heap.size 2 (by omega) (by omega)).trans d2;have D3:=(k5 w.heap.size 3 (by omega) (by omega)).trans d3;have C0:=(k5 (w.heap.size+1) 0 (by omega) (by omega)).trans c0;have C1:=(k5 (w.heap.size+1) 1 (by omega) (by omega)).trans c1;have Qb:=hid k5;have ZR:=hid hb5;have HO5:=hid CU;have GM5:=hid gm5;clear k5 hb5 CU gm5;go_upto_region 5 with fail
  go_region
  all_goals
   clear jA d0 d1 d2 d3 c0 c1 g0 g1;have FC:Only M w1 W5:=by
    obtain ⟨q1,q2,q3,q4,q5⟩:=HO5.out.g;exact ⟨q1,q2,q3,q4,q5⟩
   have x05:Below base w W5:=Below.grown (Below.mono X1.out hb) FC (by have:=X1.out.size; omega) (fun k e=>by injection e with e; omega);have n05:∀ v ds,jd w v ds->jd W5 v ds:=fun v ds hv=>ybq (hv.ext X1.out) GM.out FC
   have gt5:TsV none base W5 (.slice At l.length ct) l:=GT.out.turn (fun R hR=>ZR.out R (GT.out.own hR).2 (uC.out R hR).2) (fun v ds hv=>ybq hv GM.out FC);have GT5:=hid gt5;have N05:=hid n05;have X05:=hid x05;clear gt5 n05 x05 FC;go_upto_region 6 with fail;have dI:Hid (∀ (w3:World) (A3:Option Addr) (c3:Nat),jd w3 (.slice A3 (dg z.natAbs).length c3) (dg z.natAbs)->Ext W5.drew w3->∃ w4 A4 c4,(Builtin.append_ #[41,41] 41 #[.slice At l.length ct,.slice (some ⟨w3.heap.size,0,none⟩) 1 1]).run Tryz.prog (w3.alloc (.cells #[.bool (decide (z < 0)),.slice A3 (dg z.natAbs).length c3,.int .i64 m.a,.int .i64 m.b,.int .i64 m.c,.int .i64 m.d] 93))=.ok (.slice A4 (l.length+1) c4) w4/\(w3.cell? ⟨w.heap.size,0,none⟩=some (.int .i64 m.a)/\w3.cell? ⟨w.heap.size,1,none⟩=some (.int .i64 m.b)/\w3.cell? ⟨w.heap.size,2,none⟩=some (.int .i64 m.c)/\w3.cell? ⟨w.heap.size,3,none⟩=some (.int .i64 m.d))/\(w3.cell? ⟨G,0,none⟩=some (.map (some M))/\w3.cell? ⟨G,1,none⟩=some (.slice At l.length ct))/\(G < w3.heap.size/\w.heap.size < w3.heap.size/\w.heap.size+1 < w3.heap.size)/\w4.cell? ⟨G,1,none⟩=some (.slice At l.length ct)/\(∀ i,w4.frozen? ⟨G,i,none⟩=false)/\kap base G M (.slice At l.length ct) (l ++ [(z,m)]) w (.returned (.tuple #[])) (w4.setCell ⟨G,1,none⟩ (.slice A4 (l.length+1) c4))):=by
    intro w3 A3 c3 n3 x3;have y3:Ext W5 w3:=Ext.trans ((Ext.refl W5).drew) x3;obtain ⟨v4,w4,aH,t4,PG,nn4,Xu⟩:=(GT5.out.ext y3).push (by have:=y3.size; omega) (k:=none) (z:=z) (b:=decide (z < 0)) (s:=.slice A3 (dg z.natAbs).length c3) ⟨_,rfl,n3⟩ m hlen 41;obtain ⟨A4,c4,e4,-,-⟩:=t4.len;rw [show (l ++ [(z,m)]).length=l.length+1 by simp] at e4;subst e4;have e3:∀ b i,b < w1.heap.size->w3.cell? ⟨b,i,none⟩=W5.cell? ⟨b,i,none⟩:=fun b i hb=>y3.cell (p:=⟨b,i,none⟩) (by show b < _; omega)
    have E0:=(e3 w.heap.size 0 (by omega)).trans D0;have E1:=(e3 w.heap.size 1 (by omega)).trans D1;have E2:=(e3 w.heap.size 2 (by omega)).trans D2;have E3:=(e3 w.heap.size 3 (by omega)).trans D3;have F0:=(e3 G 0 BC).trans G0;have F1:=(e3 G 1 BC).trans G1;have y3s:=y3.size;have hG3:G < w3.heap.size:=by omega
    have hB3:w.heap.size < w3.heap.size:=by omega
    have hC3:w.heap.size+1 < w3.heap.size:=by omega
    have MO:∀ b,b < w1.heap.size->(Value.slice At l.length ct).ownBlock ≠ some b->w4.heap[b]?=w3.heap[b]?:=fun b hb ak=>World.grownBy.block PG b (by omega) (fun e=>ak e.symm)
    have gG:=MO G BC (fun e=>(uC.out G e).1 rfl);have H1:w4.cell? ⟨G,1,none⟩=some (.slice At l.length ct):=(World.cell?_of_block (a:=⟨G,1,none⟩) gG).trans F1;have HF:∀ i,w4.frozen? ⟨G,i,none⟩=false:=fun i=>(World.frozen?_of_block (a:=⟨G,i,none⟩) gG).trans ((y3.frozen (p:=⟨G,i,none⟩) (by show G < _; omega)).trans ((World.frozen?_of_block (a:=⟨G,i,none⟩) (ZR.out G BC PD)).trans (gf i)))
    have xA:∀ R,(Value.slice A4 (l.length+1) c4).ownBlock=some R->R ≠ G/\R ≠ M:=fun R hR=>by
     rcases Xu with o | o
     · exact uC.out R (o.symm.trans hR)
     · rw [o] at hR; injection hR with hR; omega
    have bV:Hid (kap base G M (.slice At l.length ct) (l ++ [(z,m)]) w (.returned (.tuple #[])) (w4.setCell ⟨G,1,none⟩ (.slice A4 (l.length+1) c4))):=by
     have alu:=PG.size;have hX1:=X1.out;have akM:=hX1.size;have nG:gb6 G M (.slice At l.length ct) (.slice A4 (l.length+1) c4) w w4:=⟨fun b h1 h2 h3 h4=>(MO b (by omega) h4).trans ((y3.below.block b (by omega)).trans ((ZR.out b (by omega) h3).trans (hX1.below.block b h1))),Xu.imp id (fun h=>⟨_,h,by omega⟩)⟩;exact vcn (v:=.slice At l.length ct) nG (Below.grown (Below.trans X05.out (Below.mono y3 (by omega))) PG (by omega) (fun b hb=>(GT5.out.own hb).1)) (fun x ds hx=>nn4 x ds ((N05.out x ds hx).ext y3)) ((World.cell?_of_block (a:=⟨G,0,none⟩) gG).trans F0) H1 rfl HF (GM5.out.block ((MO M (by omega) (fun e=>(uC.out M e).2 rfl)).trans (y3.below.block M (by omega)))) t4 ⟨gb1,gb2,PD,by omega⟩ xA
    exact ⟨w4,A4,c4,aH,⟨E0,E1,E2,E3⟩,⟨F0,F1⟩,⟨hG3,hB3,hC3⟩,H1,HF,bV.out⟩
   have ru:=hid (Cf.turn (k:=some L) (w:=w) HC.out (fun v ds hv=>(N05.out v ds hv).ext ((Ext.refl W5).drew)));clear GT5 N05 X05 GM5 ZR HO5 Qb uC HC GM GT H HP HN aF X1 Ap Hl Hg
   go_region_law (first
    | (go_simp
       go_at_call 57
       refine (xam _ z L _ ru.out hL).mono ?_;rintro e w3 ⟨v3,rfl,⟨s3,rfl,n3⟩,x3⟩;obtain ⟨A3,c3,rfl,-⟩:=id n3;obtain ⟨w4,A4,c4,aH,⟨E0,E1,E2,E3⟩,⟨F0,F1⟩,⟨hG3,hB3,hC3⟩,H1,HF,aS⟩:=dI.out _ _ _ n3 x3;have bV:=hid aS
       clear n3 x3 aS)
    | (refine vah rfl (.tmp 51) (.tmp 56) _ _ rfl _ _ _ _ (by simp [Act.eval,Act.put]) (by simp [Act.eval,Act.put]) aH ?_))
   all_goals
    clear aH E0 E1 E2 E3 F0 F1 H1 HF
    go_end0
    exact bV.out
theorem jr.set_ {T k base:Nat} {W:World} {g c n:Nat} {xs:List Value} (h:jr T k base W (.slice (some ⟨g,0,none⟩) n c) n xs) (j:Nat) (hj:j < n * k) (u:Value) (hu:jq u=false) :
 jr T k base (W.setCell ⟨g,j,none⟩ u) (.slice (some ⟨g,0,none⟩) n c) n (xs.set j u):=by
 obtain ⟨⟨h1,h2⟩,h3⟩:=h;rcases h2 with ⟨h2,-⟩ | ⟨g',cap,cur,e,hb,hg,hc,hm,hs,ht⟩
 · cases h2
 injection e with e1 e2 e3
 injection e1 with e1
 injection e1 with e1
 subst e1 e3;have IG:(W.setCell ⟨g,j,none⟩ u).heap[g]?=some (.cells (cur.setIfInBounds j u) T (0,0)):=by
  simp [World.setCell,Array.getElem?_modify,hg]
 refine ⟨⟨by rw [List.length_set]; exact h1,.inr ⟨g,c,cur.setIfInBounds j u,rfl,hb,IG,hc,hm,by simpa using hs,?_⟩⟩,?_⟩
 · rw [Array.toList_setIfInBounds,List.take_set,ht]
 · intro R cur' T' fr e dL u' XD;have hR:g=R:=by simpa [Value.ownBlock] using e
   rw [<- hR,IG] at dL;injection dL with dL
   injection dL with dL
   rw [<- dL,Array.toList_setIfInBounds] at XD;rcases List.mem_or_eq_of_mem_set XD with XD | rfl
   · exact h3 g cur T (0,0) rfl hg u' XD
   · exact hu
theorem kcd (rs:List (Bool × Value × Int × Mo)):∀ (k:Nat) (hk:k < rs.length) (b:Bool) (s:Value) (z:Int),jam (rs.set k (b,s,z,rs[k].2.2.2))=((jam rs).set (k * 6) (.bool b)).set (k * 6+1) s:=by
 induction rs with
 | nil=>intro k hk; simp at hk
 | cons r rs ih =>
   intro k hk b s z;have hl:(tmC r.1 r.2.1 r.2.2.2).length=6:=rfl;cases k with
   | zero=>simp [jam,tmC]
   | succ k =>
     have:=ih k (by simpa using hk) b s z;simp only [List.set_cons_succ,List.getElem_cons_succ,jam,List.flatMap_cons] at this ⊢;rw [this,List.set_append_right _ _ (by rw [hl]; omega),List.set_append_right _ _ (by rw [hl]; omega),hl]
     congr 3 <;> omega
theorem TsV.set_ {base:Nat} {W:World} {g c:Nat} {l:Sp} (h:TsV none base W (.slice (some ⟨g,0,none⟩) l.length c) l) (k:Nat) (hk:k < l.length) {b:Bool} {A:Option Addr} {n d:Nat} {z:Int} (hc:Cf W none (.agg #[.bool b,.slice A n d]) z) :
 TsV none base ((W.setCell ⟨g,k * 6,none⟩ (.bool b)).setCell ⟨g,k * 6+1,none⟩ (.slice A n d)) (.slice (some ⟨g,0,none⟩) l.length c) (l.set k (z,l[k].2))/\(∀ v ds,jd W v ds->jd ((W.setCell ⟨g,k * 6,none⟩ (.bool b)).setCell ⟨g,k * 6+1,none⟩ (.slice A n d)) v ds):=by
 obtain ⟨rs,rfl,h2,h3⟩:=h;rw [List.length_map] at hk;simp only [List.length_map] at h2 ⊢;have q0:=h2.cell (k * 6) (by omega);have q1:=h2.cell (k * 6+1) (by omega);have f0:=gau rs k hk 0 (by omega);have f1:=gau rs k hk 1 (by omega);rw [Nat.add_zero] at f0;rw [f0] at q0;rw [f1] at q1;obtain ⟨b',B',n',c',e'⟩:=(h3 rs[k] (List.getElem_mem hk)).unpack;simp only [Value.agg.injEq,Array.mk.injEq,List.cons.injEq,and_true] at e';have q1':W.cell? ⟨g,k * 6+1,none⟩=some (.slice B' n' c'):=by rw [q1,<- e'.2]; rfl
 have au:∀ v ds,jd W v ds->jd ((W.setCell ⟨g,k * 6,none⟩ (.bool b)).setCell ⟨g,k * 6+1,none⟩ (.slice A n d)) v ds:=fun v ds hv =>
  (hv.box q0 rfl _).box (u:=.slice B' n' c') (by rw [World.cell?_setCell_other _ _ _ _ (by simp)]; exact q1') rfl _
 refine ⟨⟨rs.set k (b,.slice A n d,z,rs[k].2.2.2),?_,?_,fun r hr=>?_⟩,au⟩
 · rw [List.map_set]; simp
 · rw [List.length_set,kcd rs k hk];exact (h2.set_ (k * 6) (by omega) _ rfl).set_ (k * 6+1) (by omega) _ rfl
 · rcases List.mem_or_eq_of_mem_set hr with hr | rfl
   · exact (h3 r hr).turn au
   · exact hc.turn au
theorem xcn {base G M:Nat} {v:Value} {l:Sp} {w:World} (h:GaV base w G M v l) (m:Mo) (x:Value) (L:Nat) (z:Int) (hc:um w x z L) (hm:m.nonneg) (hb:base<=w.heap.size) (k:Nat) (hk:k < l.length) (hL:L+(dg l[k].1.natAbs).length<=35184372088000) (hlen:l.length < 1099511627776) (hn:mog (xad 0 l) m=some (.int .i64 (0+k:Nat))) (zB:l[k].2=m) (oN:xad 0 (l.set k (l[k].1+z,m))=xad 0 l):Calls Tryz.prog 74 #[.pointer (some ⟨G,0,none⟩),moV m,x] w (kap base G M v (l.set k (l[k].1+z,m)) w):=by
 have HC:=hid hc;obtain ⟨b,B,n,c,rfl⟩:=hc.unpack;have HQ:Hid (decide (¬ m.nonneg)=false):=by
  have:decide (¬ m.nonneg)=false:=decide_eq_false (fun h=>h hm);exact this
 have H:=hid h;obtain ⟨W,hW⟩:=n_m ((w.alloc (.cells #[.int .i64 m.a,.int .i64 m.b,.int .i64 m.c,.int .i64 m.d] 75)).alloc (.cells #[.bool b,.slice B n c] 33));have ai:Ext w W:=by rw [<- hW]; exact ((Ext.refl w).alloc _).alloc _
 have dE:W.heap.size=w.heap.size+1+1:=by rw [<- hW]; simp
 have iI:vw W w.heap.size m:=by rw [<- hW]; exact (vw.new w m _).ext ((Ext.refl _).alloc _) (by simp)
 have pJ:W.cell? ⟨w.heap.size+1,0,none⟩=some (.bool b):=by rw [<- hW]; simp [go_sem]
 have dh:W.cell? ⟨w.heap.size+1,1,none⟩=some (.slice B n c):=by rw [<- hW]; simp [go_sem]
 obtain ⟨d0,d1,d2,d3⟩:=id iI;have Ap:=hid iI;have Hl:=hid pJ;have Hg:=hid dh;have aF:=hid ai;have HN:=hid hn;have WE:=hid zB;have oI:=hid oN;clear h hc ai iI hn pJ dh zB oN;unfold moV;go_enter Tryz.func74,Tryz.ntmps74;go_wp2_with fail;refine (kas m W).mono ?_;rintro e w1 ⟨rfl,x1⟩;rw [HQ.out];have h1:=H.out.ext (aF.out.trans x1);have uX:=x1.size;obtain ⟨d0,d1,d2,d3⟩:=Ap.out.ext x1 (by omega);have c0:=(x1.cell (p:=⟨w.heap.size+1,0,none⟩) (by show w.heap.size+1 < _; omega)).trans Hl.out;have c1:=(x1.cell (p:=⟨w.heap.size+1,1,none⟩) (by show w.heap.size+1 < _; omega)).trans Hg.out;have X1:=hid (aF.out.trans x1);obtain ⟨g0,g1,gf,gm,gt,⟨gb1,gb2,PD,BC⟩,zZ⟩:=h1;have nX:=qad.look (w:=w1.drew) gm m true;rw [HN.out] at nX;simp only [Option.getD_some,Option.isSome_some,if_true,moV,Nat.zero_add] at nX;obtain ⟨At,ct,rfl,-,-⟩:=gt.len;have rC:=gt.sp;obtain ⟨A',c',e',-,-,aO⟩:=rC;injection e' with e1 e2 e3
 subst e1 e3;obtain ⟨ad,b1,B1,n1,c2,rfl,ah,lQ,dZ⟩:=aO k hk;obtain ⟨rs,Ko,jL,Eo⟩:=id gt;have vJ:rs.length=l.length:=by rw [<- Ko,List.length_map]
 rw [vJ] at jL;obtain ⟨R,cR,eR,-,-,UL,yZ,abE⟩:=jL.pos (by omega);injection eR with eR1 eR2 eR3
 injection eR1 with eR1
 subst eR1;have zW:=zZ R rfl;rw [kw,Nat.zero_add] at lQ;obtain ⟨t0,t1,-⟩:=lQ;simp only at t0 t1;have GM:=hid gm;have GT:=hid gt;have uC:=hid zZ;have nK:=hid dZ;clear gm gt zZ x1 hW jL Eo Ko dZ aO;go_upto_region 2 with fail
 go_region
 all_goals
  clear nX d0 d1 d2 d3;have dI:Hid (∀ (w3:World) (x3:Value),zo w3 x3 (l[k].1+z)->Ext w1.drew.drew w3->∃ A3 n3 c3,x3=.agg #[.bool (decide (l[k].1+z < 0)),.slice A3 n3 c3]/\(w3.cell? ⟨G,0,none⟩=some (.map (some M))/\w3.cell? ⟨G,1,none⟩=some (.slice (some ⟨R,0,none⟩) l.length ct))/\(w3.cell? ⟨R,k * 6,none⟩=some (.bool b1)/\w3.cell? ⟨R,k * 6+1,none⟩=some (.slice B1 n1 c2)/\(∀ i,w3.frozen? ⟨R,i,none⟩=false))/\kap base G M (.slice (some ⟨R,0,none⟩) l.length ct) (l.set k (l[k].1+z,m)) w (.returned (.tuple #[])) ((w3.setCell ⟨R,k * 6,none⟩ (.bool (decide (l[k].1+z < 0)))).setCell ⟨R,k * 6+1,none⟩ (.slice A3 n3 c3))):=by
   intro w3 x3 n3 y3;obtain ⟨s3,rfl,nv⟩:=id n3;obtain ⟨A3,c3,rfl,-⟩:=id nv;have EQ:Ext w1 w3:=Ext.trans (((Ext.refl w1).drew).drew) y3;have En:=EQ.size;have ev:∀ bb i,bb < w1.heap.size->w3.cell? ⟨bb,i,none⟩=w1.cell? ⟨bb,i,none⟩:=fun bb i h=>EQ.cell (p:=⟨bb,i,none⟩) h
   refine ⟨A3,_,c3,rfl,⟨(ev G 0 BC).trans g0,(ev G 1 BC).trans g1⟩,⟨(ev R _ yZ).trans t0,(ev R _ yZ).trans t1,fun i=>(EQ.frozen (p:=⟨R,i,none⟩) yZ).trans (abE i)⟩,?_⟩;obtain ⟨ts,tn⟩:=(GT.out.ext EQ).set_ k hk (b:=decide (l[k].1+z < 0)) (A:=A3) (d:=c3) n3;rw [WE.out] at ts;refine ⟨rfl,.slice (some ⟨R,0,none⟩) l.length ct,⟨?_,?_,fun i=>?_,?_,?_,⟨gb1,gb2,PD,?_⟩,uC.out⟩,?_,fun x ds hx=>tn x ds ((hx.ext X1.out).ext EQ),fun b h1 h2 h3 h4=>?_,.inl rfl⟩
   · rw [World.cell?_setCell_other _ _ _ _ (by intro e; injection e with e; exact zW.1 e),World.cell?_setCell_other _ _ _ _ (by intro e; injection e with e; exact zW.1 e)]; exact (ev G 0 BC).trans g0
   · rw [World.cell?_setCell_other _ _ _ _ (by intro e; injection e with e; exact zW.1 e),World.cell?_setCell_other _ _ _ _ (by intro e; injection e with e; exact zW.1 e)]; exact (ev G 1 BC).trans g1
   · rw [World.frozen?_setCell,World.frozen?_setCell]; exact (EQ.frozen (p:=⟨G,i,none⟩) BC).trans (gf i)
   · rw [oI.out];exact (GM.out.ext EQ).block ((Below.heap_setCell _ _ _ M (fun e=>zW.2 e.symm)).trans (Below.heap_setCell _ _ _ M (fun e=>zW.2 e.symm)))
   · have:(l.set k (l[k].1+z,m)).length=l.length:=List.length_set;exact ts
   · simp only [World.setCell,Array.size_modify]; omega
   · exact Below.setCell (Below.setCell (Below.mono (X1.out.trans EQ) hb) UL _) UL _
   · have UK:b ≠ R:=fun e=>h4 (by rw [e]; rfl)
     exact ((Below.heap_setCell _ _ _ b UK).trans (Below.heap_setCell _ _ _ b UK)).trans ((X1.out.trans EQ).below.block b h1)
  have RY:∀ w3 x3,zo w3 x3 (l[k].1+z)->Ext w1.drew.drew w3->True:=fun _ _ _ _=>trivial
  have Xk:=hid (nK.out.ext (((Ext.refl w1).drew).drew));have Xj:=hid (HC.out.ext (X1.out.trans (((Ext.refl w1).drew).drew)));have hq:(⟨R,0,none⟩:Addr).add (k * 6)=⟨R,k * 6,none⟩:=by rw [kw,Nat.zero_add]
  clear GM GT uC nK HC oI WE HN aF X1 Ap Hl Hg H;go_upto_region 4 with fail
  go_region_law (first
   | (go_simp
      go_at_call 101
      refine (yb0 _ _ (l[k].1) z _ L _ (zo.raw Xk.out) Xj.out (by omega)).mono ?_;rintro e w3 ⟨x3,rfl,n3,y3⟩;obtain ⟨A3,Qz,c3,rfl,⟨G0,G1⟩,⟨T0,T1,TF⟩,aS⟩:=dI.out _ _ n3 y3;have bV:=hid aS
      clear n3 y3 aS))
  all_goals
   clear G0 G1 T0 T1 TF;go_wp2_with fail;exact bodyPost_ret (results_none rfl _ _ _) rfl bV.out
theorem kcn {base G M:Nat} {v:Value} {l:Sp} {w:World} (h:GaV base w G M v l) (m:Mo) (x:Value) (L:Nat) (z:Int) (hc:um w x z L) (hb:base<=w.heap.size) (hL:L+(dg (qg l)).length<=35184372088000) (hlen:l.length < 1099511627776):Calls Tryz.prog 74 #[.pointer (some ⟨G,0,none⟩),moV m,x] w (kap base G M v (if m.nonneg then jac z m l else l) w):=by
 by_cases hm:m.nonneg
 · rw [if_pos hm];rcases wb4 z m l 0 with ⟨h1,h2,h3⟩ | ⟨k,hk,h1,h2,h3,h4⟩
   · rw [h2]; exact qcn h m x L z hc (by omega) hm hb hlen h1 h3
   · rw [h3];have hd:=yu (va9 (List.getElem_mem hk));exact xcn h m x L z hc hm hb k hk (by omega) hlen h1 h2 h4
 · rw [if_neg hm]; exact jcn h m x (some L) z hc hm hb
def xaq:Go.Shelf.Ren:=⟨fun | 14=>129 | 20=>145 | 21=>146 | 22=>147 | 23=>148 | 24=>149 | 25=>150 | 26=>151 | 27=>152 | 46=>165 | 47=>134 | 48=>135 | 49=>166 | 50=>167 | 15=>91 | 57=>173 | 28=>119 | 29=>120 | n=>n,fun | 24=>93 | 22=>40 | 3=>3 | 25=>120 | 4=>4 | 0=>0 | 46=>136 | 45=>135 | 50=>127 | 66=>155 | 39=>110 | 55=>78 | 70=>159 | 76=>176 | 77=>177 | 53=>90 | 5=>5 | 9=>9 | n=>n,fun | n=>n⟩
theorem kbn : Go.Proofs.SlLaysF0.n14 Tryz.prog xaq := {
 mixed:=by kernel_rfl,
 f14:=⟨Tryz.f129.name,by decide,Tryz.func129.trans (congrArg some (by kernel_rfl))⟩,
 f15:=Tryz.func91.trans (congrArg some (by kernel_rfl)),
 f20:=⟨Tryz.f145.name,by decide,Tryz.func145.trans (congrArg some (by kernel_rfl))⟩,
 f21:=⟨Tryz.f146.name,by decide,Tryz.func146.trans (congrArg some (by kernel_rfl))⟩,
 f22:=⟨Tryz.f147.name,by decide,Tryz.func147.trans (congrArg some (by kernel_rfl))⟩,
 f23:=⟨Tryz.f148.name,by decide,Tryz.func148.trans (congrArg some (by kernel_rfl))⟩,
 f24:=⟨Tryz.f149.name,by decide,Tryz.func149.trans (congrArg some (by kernel_rfl))⟩,
 f25:=⟨Tryz.f150.name,by decide,Tryz.func150.trans (congrArg some (by kernel_rfl))⟩,
 f26:=⟨Tryz.f151.name,by decide,Tryz.func151.trans (congrArg some (by kernel_rfl))⟩,
 f27:=⟨Tryz.f152.name,by decide,Tryz.func152.trans (congrArg some (by kernel_rfl))⟩,
 f28:=Tryz.func119.trans (congrArg some (by kernel_rfl)),
 f29:=Tryz.func120.trans (congrArg some (by kernel_rfl)),
 f46:=⟨Tryz.f165.name,by decide,Tryz.func165.trans (congrArg some (by kernel_rfl))⟩,
 f47:=Tryz.func134.trans (congrArg some (by kernel_rfl)),
 f48:=Tryz.func135.trans (congrArg some (by kernel_rfl)),
 f49:=⟨Tryz.f166.name,by decide,Tryz.func166.trans (congrArg some (by kernel_rfl))⟩,
 f50:=⟨Tryz.f167.name,by decide,Tryz.func167.trans (congrArg some (by kernel_rfl))⟩,
 f57:=⟨Tryz.f173.name,by decide,Tryz.func173.trans (congrArg some (by kernel_rfl))⟩,
 t0:=Tryz.underlying0,
 a0:=Tryz.isAgg0,
 z0:=Tryz.sizeOf0,
 v0:=Tryz.zeroValue0,
 t3:=Tryz.underlying3,
 a3:=Tryz.isAgg3,
 z3:=Tryz.sizeOf3,
 v3:=Tryz.zeroValue3,
 t4:=Tryz.underlying4,
 a4:=Tryz.isAgg4,
 z4:=Tryz.sizeOf4,
 v4:=Tryz.zeroValue4,
 t5:=Tryz.underlying5,
 a5:=Tryz.isAgg5,
 z5:=Tryz.sizeOf5,
 v5:=Tryz.zeroValue5,
 t9:=Tryz.underlying9,
 a9:=Tryz.isAgg9,
 z9:=Tryz.sizeOf9,
 v9:=Tryz.zeroValue9,
 t22:=Tryz.underlying40,
 a22:=Tryz.isAgg40,
 z22:=Tryz.sizeOf40,
 v22:=Tryz.zeroValue40,
 t25:=Tryz.underlying120,
 a25:=Tryz.isAgg120,
 z25:=Tryz.sizeOf120,
 v25:=Tryz.zeroValue120,
 t39:=Tryz.underlying110,
 a39:=Tryz.isAgg110,
 z39:=Tryz.sizeOf110,
 v39:=Tryz.zeroValue110,
 t45:=Tryz.underlying135,
 a45:=Tryz.isAgg135,
 z45:=Tryz.sizeOf135,
 v45:=Tryz.zeroValue135,
 t46:=Tryz.underlying136,
 a46:=Tryz.isAgg136,
 z46:=Tryz.sizeOf136,
 v46:=Tryz.zeroValue136,
 t50:=Tryz.underlying127,
 a50:=Tryz.isAgg127,
 z50:=Tryz.sizeOf127,
 v50:=Tryz.zeroValue127,
 t53:=Tryz.underlying90,
 a53:=Tryz.isAgg90,
 z53:=Tryz.sizeOf90,
 v53:=Tryz.zeroValue90,
 t55:=Tryz.underlying78,
 a55:=Tryz.isAgg78,
 z55:=Tryz.sizeOf78,
 v55:=Tryz.zeroValue78,
 t66:=Tryz.underlying155,
 a66:=Tryz.isAgg155,
 z66:=Tryz.sizeOf155,
 v66:=Tryz.zeroValue155,
 t70:=Tryz.underlying159,
 a70:=Tryz.isAgg159,
 z70:=Tryz.sizeOf159,
 v70:=Tryz.zeroValue159,
 t76:=Tryz.underlying176,
 a76:=Tryz.isAgg176,
 z76:=Tryz.sizeOf176,
 v76:=Tryz.zeroValue176,
 t77:=Tryz.underlying177,
 a77:=Tryz.isAgg177,
 z77:=Tryz.sizeOf177,
 v77:=Tryz.zeroValue177 }
theorem wcr:Go.Proofs.SlLaysF0.n15 Tryz.prog xaq:={ kbn with }
end Go.Proofs.YtklnlgnnlmdibaaGreat
