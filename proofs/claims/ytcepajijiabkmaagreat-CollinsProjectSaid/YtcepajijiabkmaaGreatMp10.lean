/- Layer 20: (*gather).add: the terms collected by their monomials. -/
import Derived.Test.YtcepajijiabkmaaGreatMp9
import Derived.Shelf.SlSortCmp.WholeK
set_option linter.unusedSimpArgs false
set_option linter.unusedVariables false
set_option maxRecDepth 100000
set_option maxHeartbeats 8000000
namespace Go.Proofs.YtcepajijiabkmaaGreat
open Lib (hid)
open Go.RowKit
def vac (c : Int) (m : Mo) : Sp -> Sp
 | []=>[(c,m)]
 | (d,n) :: r=>if m=n then (d+c,n) :: r else (d,n) :: vac c m r
theorem jco (c:Int) (m:Mo) (l:Sp) (k:Mo):je (vac c m l) k=je l k+if m=k then c else 0:=by
 induction l with
 | nil=>simp [vac,je]
 | cons x r ih =>
   obtain ⟨d,n⟩:=x;unfold vac
   by_cases h:m=n
   · rw [if_pos h]; subst h; simp only [je]; split <;> omega
   · rw [if_neg h]; simp only [je,ih]; omega
theorem ycy (c:Int) (m:Mo) (l:Sp):zg (vac c m l)<=zg l+c.natAbs:=by
 induction l with
 | nil=>simp [vac,zg]
 | cons x r ih =>
   obtain ⟨d,n⟩:=x;unfold vac
   by_cases h:m=n
   · rw [if_pos h]; simp only [zg]; omega
   · rw [if_neg h]; simp only [zg]; omega
theorem xcy (c:Int) (m:Mo) (l:Sp):(vac c m l).length<=l.length+1:=by
 induction l with
 | nil=>simp [vac]
 | cons x r ih =>
   obtain ⟨d,n⟩:=x;unfold vac
   by_cases h:m=n
   · rw [if_pos h]; simp
   · rw [if_neg h]; simp; omega
theorem gby {c:Int} {m:Mo} {l:Sp} {x:Int × Mo} (h:x ∈ vac c m l):x.2=m\/∃ y ∈ l,y.2=x.2:=by
 induction l with
 | nil=>left; rw [pD.1 h]
 | cons y r ih =>
   obtain ⟨d,n⟩:=y;unfold vac at h
   split at h
   · rcases pQ.1 h with rfl | h
     · exact .inr ⟨_,r5,rfl⟩
     · exact .inr ⟨x,rz _ h,rfl⟩
   · rcases pQ.1 h with rfl | h
     · exact .inr ⟨_,r5,rfl⟩
     · rcases ih h with h | ⟨y,hy,e⟩
       · exact .inl h
       · exact .inr ⟨y,rz _ hy,e⟩
def Apart (l:Sp):Prop:=l.Pairwise fun x y=>x.2 ≠ y.2
theorem kcf (c:Int) (m:Mo) (l:Sp) (h:Apart l):Apart (vac c m l):=by
 induction l with
 | nil=>exact List.pairwise_singleton _ _
 | cons x r ih =>
   obtain ⟨d,n⟩:=x;unfold Apart at h ih ⊢;rw [tE] at h;unfold vac
   by_cases hm:m=n
   · rw [if_pos hm,tE]; exact h
   · rw [if_neg hm,tE];refine ⟨fun y hy=>?_,ih h.2⟩;rcases gby hy with e | ⟨z,hz,e⟩
     · rw [e]; exact fun e'=>hm e'.symm
     · rw [<- e]; exact h.1 z hz
def vad (i : Nat) : Sp -> List (Mo × Value)
 | []=>[]
 | (_,m) :: r=>(m,.int .i64 i) :: vad (i+1) r
theorem jcf (c:Int) (m:Mo) (l:Sp):∀ i,(mog (vad i l) m=none/\vac c m l=l ++ [(c,m)]/\∀ z,mop (vad i l) m (.int .i64 (i+l.length:Nat))=vad i (l ++ [(z,m)])) \/
 ∃ k,∃ hk:k < l.length,mog (vad i l) m=some (.int .i64 (i+k:Nat))/\l[k].2=m/\vac c m l=l.set k (l[k].1+c,m)/\vad i (l.set k (l[k].1+c,m))=vad i l:=by
 induction l with
 | nil=>intro i; exact .inl ⟨rfl,rfl,fun z=>by simp [vad,mop]⟩
 | cons x r ih =>
   intro i;obtain ⟨d,n⟩:=x
   by_cases hm:m=n
   · subst hm;exact .inr ⟨0,by simp,by simp [vad,mog],rfl,by simp [vac],by simp [vad]⟩
   · rcases ih (i+1) with ⟨h1,h2,h3⟩ | ⟨k,hk,h1,h2,h3,h4⟩
     · refine .inl ⟨by simp [vad,mog,hm,h1],by simp [vac,hm,h2],fun z=>?_⟩;have:=h3 z;simp only [vad,mop,rI,pL,if_neg hm];rw [<- this,show i+1+r.length=i+(r.length+1) by omega]
     · refine .inr ⟨k+1,by simpa using hk,?_,by simpa using h2,by simp [vac,hm,h3],by simp [vad,h4]⟩;simp only [vad,mog,if_neg hm,h1];rw [show i+1+k=i+(k+1) by omega]
def GaV (base:Nat) (w:World) (G M:Nat) (v:Value) (l:Sp):Prop:=
 w.cell? ⟨G,0,none⟩=some (.map (some M))/\w.cell? ⟨G,1,none⟩=some v/\(∀ i,w.frozen? ⟨G,i,none⟩=false)/\gad w M (vad 0 l)/\TsV none base w v l/\(base<=G/\base<=M/\G ≠ M/\G < w.heap.size)/\∀ R,v.ownBlock=some R->R ≠ G/\R ≠ M
theorem GaV.ext {base:Nat} {w w':World} {G M:Nat} {v:Value} {l:Sp} (h:GaV base w G M v l) (hx:Ext w w'):GaV base w' G M v l:=by
 obtain ⟨h1,h2,h3,h4,h5,h6,h7⟩:=h;exact ⟨(hx.cell (p:=⟨G,0,none⟩) h6.2.2.2).trans h1,(hx.cell (p:=⟨G,1,none⟩) h6.2.2.2).trans h2,fun i=>(hx.frozen (p:=⟨G,i,none⟩) h6.2.2.2).trans (h3 i),h4.ext hx,h5.ext hx,⟨h6.1,h6.2.1,h6.2.2.1,pw h6.2.2.2 hx.size⟩,h7⟩
def yci (G M:Nat) (v v':Value) (w w':World):Prop:=(∀ b,b < w.heap.size->b ≠ G->b ≠ M->v.ownBlock ≠ some b->w'.heap[b]?=w.heap[b]?)/\(v'.ownBlock=v.ownBlock\/∃ R,v'.ownBlock=some R/\w.heap.size<=R)
def zas (base:Nat) (G M:Nat) (v:Value) (l:Sp) (w:World) (e:Ending) (w':World):Prop:=e=.returned (.tuple #[])/\∃ v',GaV base w' G M v' l/\Below base w w'/\(∀ v ds,jc w v ds->jc w' v ds)/\yci G M v v' w w'
theorem ucy {base G M:Nat} {l':Sp} {w w4:World} {v0 v v':Value} (mV:yci G M v0 v' w w4) (xA:Below base w w4) (hn:∀ x ds,jc w x ds->jc w4 x ds) (h0:w4.cell? ⟨G,0,none⟩=some (.map (some M))) (h1:w4.cell? ⟨G,1,none⟩=some v) (hd:jo v=false) (hf:∀ i,w4.frozen? ⟨G,i,none⟩=false) (hm:gad w4 M (vad 0 l')) (ht:TsV none base w4 v' l') (hb:base<=G/\base<=M/\G ≠ M/\G < w4.heap.size) (ho:∀ R,v'.ownBlock=some R->R ≠ G/\R ≠ M):zas base G M v0 l' w (.returned (.tuple #[])) (w4.setCell ⟨G,1,none⟩ v'):=by
 have nD:∀ x ds,jc w4 x ds->jc (w4.setCell ⟨G,1,none⟩ v') x ds:=fun x ds hx=>hx.box h1 hd _
 refine ⟨rfl,v',⟨?_,pN _ _ _ h1,fun i=>?_,hm.block (Below.heap_setCell _ _ _ M (Ne.symm hb.2.2.1)),ht.xl (fun R hR=>Below.heap_setCell _ _ _ R (ho R hR).1) nD,⟨hb.1,hb.2.1,hb.2.2.1,by simpa [World.setCell] using hb.2.2.2⟩,ho⟩,Below.setCell xA hb.1 _,fun x ds hx=>nD x ds (hn x ds hx),fun b h1 h2 h3 h4=>(Below.heap_setCell _ _ _ b h2).trans (mV.1 b h1 h2 h3 h4),mV.2⟩
 · rw [ph _ _ _ _ (by simp)]; exact h0
 · rw [rm]; exact hf i
theorem ybx {w w':World} {M:Nat} {l:List (Mo × Value)} {v:Value} {ds:List Nat} (hv:jc w v ds) (hm:gad w M l) (ho:Only M w w'):jc w' v ds:=by
 obtain ⟨A,c,e,h1,h2,h3,h4⟩:=hv;refine ⟨A,c,e,h1,h2,h3,fun hd=>?_⟩;obtain ⟨ad,e4,af,hc⟩:=h4 hd;refine ⟨ad,e4,pw af ho.size,fun j hj=>?_⟩;have ax:ad.block ≠ M:=fun e=>by
  obtain ⟨es,clock,hb,-⟩:=hm;have h0:=hc 0 hd;rw [World.cell?,ja,e,hb] at h0;cases h0
 exact (ho.cell (p:=ad.add j) (by rw [ja]; exact af) (by rw [ja]; exact ax)).trans (hc j hj)
theorem kcy {base G M:Nat} {v:Value} {l:Sp} {w:World} (h:GaV base w G M v l) (m:Mo) (x:Value) (k:Option Nat) (z:Int) (hc:Cf w k x z) (hm:¬ m.qe) (hb:base<=w.heap.size):Calls Tryz.prog 54 #[.pointer (some ⟨G,0,none⟩),moV m,x] w (zas base G M v l w):=by
 obtain ⟨b,B,n,c,rfl⟩:=hc.unpack;have HQ:Hid (decide (¬ m.qe)=true):=by
  have:decide (¬ m.qe)=true:=decide_eq_true hm;exact this
 have H:=hid h;obtain ⟨W,hW⟩:=n_m ((w.alloc (.cells #[.int .i64 m.a,.int .i64 m.b,.int .i64 m.c,.int .i64 m.d] 61)).alloc (.cells #[.bool b,.slice B n c] 30));have ai:Ext w W:=by rw [<- hW]; exact ((Ext.refl w).alloc _).alloc _
 obtain ⟨d0,d1,d2,d3⟩:vw W w.heap.size m:=by rw [<- hW]; exact (vw.new w m _).ext ((Ext.refl _).alloc _) (by simp)
 have aG:=hid ai;clear h hc ai;unfold moV;go_enter Tryz.func54,Tryz.ntmps54;go_wp2_with fail;refine (xav m W).mono ?_;rintro e w1 ⟨rfl,x1⟩;rw [HQ.out];have X1:=hid (aG.out.trans x1);clear x1;go_wp2_with fail;exact bodyPost_ret (results_none rfl _ _ _) rfl ⟨rfl,v,H.out.ext X1.out,Below.mono X1.out (by omega),fun v ds hv=>hv.ext X1.out,fun b hb _ _ _=>X1.out.below.block b hb,.inl rfl⟩
theorem jcy {base G M:Nat} {v:Value} {l:Sp} {w:World} (h:GaV base w G M v l) (m:Mo) (x:Value) (L:Nat) (z:Int) (hc:jm w x z L) (hL:L<=35184372088832) (hm:m.qe) (hb:base<=w.heap.size) (hlen:l.length < 1099511627776) (hn:mog (vad 0 l) m=none) (hp:∀ z,mop (vad 0 l) m (.int .i64 (0+l.length:Nat))=vad 0 (l ++ [(z,m)])):Calls Tryz.prog 54 #[.pointer (some ⟨G,0,none⟩),moV m,x] w (zas base G M v (l ++ [(z,m)]) w):=by
 have HC:=hid hc;obtain ⟨b,B,n,c,rfl⟩:=hc.unpack;have HQ:Hid (decide (¬ m.qe)=false):=by
  have:decide (¬ m.qe)=false:=decide_eq_false (fun h=>h hm);exact this
 have H:=hid h;obtain ⟨W,hW⟩:=n_m ((w.alloc (.cells #[.int .i64 m.a,.int .i64 m.b,.int .i64 m.c,.int .i64 m.d] 61)).alloc (.cells #[.bool b,.slice B n c] 30));have ai:Ext w W:=by rw [<- hW]; exact ((Ext.refl w).alloc _).alloc _
 have dG:W.heap.size=w.heap.size+1+1:=by rw [<- hW]; simp
 have iK:vw W w.heap.size m:=by rw [<- hW]; exact (vw.new w m _).ext ((Ext.refl _).alloc _) (by simp)
 have pF:W.cell? ⟨w.heap.size+1,0,none⟩=some (.bool b):=by rw [<- hW]; simp [go_sem]
 have bZ:W.cell? ⟨w.heap.size+1,1,none⟩=some (.slice B n c):=by rw [<- hW]; simp [go_sem]
 obtain ⟨d0,d1,d2,d3⟩:=id iK;have Af:=hid iK;have Gs:=hid pF;have Gq:=hid bZ;have aG:=hid ai;have HN:=hid hn;have HP:=hid hp;clear h hc ai iK hn hp pF bZ;unfold moV;go_enter Tryz.func54,Tryz.ntmps54;go_wp2_with fail;refine (xav m W).mono ?_;rintro e w1 ⟨rfl,x1⟩;rw [HQ.out];have h1:=H.out.ext (aG.out.trans x1);have uN:=x1.size;obtain ⟨d0,d1,d2,d3⟩:=Af.out.ext x1 (by omega);have c0:=(x1.cell (p:=⟨w.heap.size+1,0,none⟩) (by show w.heap.size+1 < _; omega)).trans Gs.out;have c1:=(x1.cell (p:=⟨w.heap.size+1,1,none⟩) (by show w.heap.size+1 < _; omega)).trans Gq.out;have X1:=hid (aG.out.trans x1);obtain ⟨g0,g1,gf,gm,gt,⟨gb1,gb2,O1,Bc⟩,zT⟩:=h1;have nS:=gad.look (w:=w1.drew) gm m true;rw [HN.out] at nS;simp only [Option.getD_none,Option.isSome_none,if_true,moV] at nS;obtain ⟨At,ct,rfl,-,-⟩:=gt.len;have GM:=hid gm;have GT:=hid gt;have tY:=hid zT;clear gm gt zT x1 hW;go_upto_region 2 with fail
 go_region
 all_goals
  clear nS;have ajZ:=H.out.2.2.2.1.lt;have aj8:=H.out.2.2.2.2.2.1.2.2.2;obtain ⟨W5,o9,gm5,yQ⟩:=gad.put (w:=w1.drew.drew) GM.out m (.int .i64 (0+l.length:Nat));rw [HP.out z] at gm5;simp only [moV,rh] at o9;have Xa:w1.heap.size<=W5.heap.size:=yQ.size;have hb5:∀ b,b < w1.heap.size->b ≠ M->W5.heap[b]?=w1.heap[b]?:=fun b hb ax=>yQ.block hb ax
  have k5:∀ b i,b < w1.heap.size->b ≠ M->W5.cell? ⟨b,i,none⟩=w1.cell? ⟨b,i,none⟩:=fun b i hb ax=>pB (a:=⟨b,i,none⟩) (hb5 b hb ax)
  have G0:=(k5 G 0 Bc O1).trans g0;have G1:=(k5 G 1 Bc O1).trans g1;have D0:=(k5 w.heap.size 0 (by omega) (by omega)).trans d0;have D1:=(k5 w.heap.size 1 (by omega) (by omega)).trans d1;have D2:=(k5 w.heap.size 2 (by omega) (by omega)).trans d2;have D3:=(k5 w.heap.size 3 (by omega) (by omega)).trans d3;have C0:=(k5 (w.heap.size+1) 0 (by omega) (by omega)).trans c0;have C1:=(k5 (w.heap.size+1) 1 (by omega) (by omega)).trans c1;have HK5:=hid k5;have YU:=hid hb5;have HO5:=hid yQ;have GM5:=hid gm5;clear k5 hb5 yQ gm5;go_upto_region 5 with fail
  go_region
  all_goals
   clear o9 d0 d1 d2 d3 c0 c1 g0 g1;have EZ:Only M w1 W5:=by
    obtain ⟨q1,q2,q3,q4,q5⟩:=HO5.out.g;exact ⟨q1,q2,q3,q4,q5⟩
   have x05:Below base w W5:=Below.grown (Below.mono X1.out hb) EZ (by have:=X1.out.size; omega) (fun k e=>by injection e with e; omega);have n05:∀ v ds,jc w v ds->jc W5 v ds:=fun v ds hv=>ybx (hv.ext X1.out) GM.out EZ
   have gt5:TsV none base W5 (.slice At l.length ct) l:=GT.out.xl (fun R hR=>YU.out R (GT.out.own hR).2 (tY.out R hR).2) (fun v ds hv=>ybx hv GM.out EZ);have GT5:=hid gt5;have N05:=hid n05;have X05:=hid x05;clear gt5 n05 x05 EZ;go_upto_region 6 with fail;have bY:Hid (∀ (w3:World) (A3:Option Addr) (c3:Nat),jc w3 (.slice A3 (dg z.natAbs).length c3) (dg z.natAbs)->Ext W5.drew w3->∃ w4 A4 c4,(Builtin.append_ #[23,23] 23 #[.slice At l.length ct,.slice (some ⟨w3.heap.size,0,none⟩) 1 1]).run Tryz.prog (w3.alloc (.cells #[.bool (decide (z < 0)),.slice A3 (dg z.natAbs).length c3,.int .i64 m.a,.int .i64 m.b,.int .i64 m.c,.int .i64 m.d] 76))=.ok (.slice A4 (l.length+1) c4) w4/\(w3.cell? ⟨w.heap.size,0,none⟩=some (.int .i64 m.a)/\w3.cell? ⟨w.heap.size,1,none⟩=some (.int .i64 m.b)/\w3.cell? ⟨w.heap.size,2,none⟩=some (.int .i64 m.c)/\w3.cell? ⟨w.heap.size,3,none⟩=some (.int .i64 m.d))/\(w3.cell? ⟨G,0,none⟩=some (.map (some M))/\w3.cell? ⟨G,1,none⟩=some (.slice At l.length ct))/\(G < w3.heap.size/\w.heap.size < w3.heap.size/\w.heap.size+1 < w3.heap.size)/\w4.cell? ⟨G,1,none⟩=some (.slice At l.length ct)/\(∀ i,w4.frozen? ⟨G,i,none⟩=false)/\zas base G M (.slice At l.length ct) (l ++ [(z,m)]) w (.returned (.tuple #[])) (w4.setCell ⟨G,1,none⟩ (.slice A4 (l.length+1) c4))):=by
    intro w3 A3 c3 n3 x3;have y3:Ext W5 w3:=Ext.trans ((Ext.refl W5).drew) x3;obtain ⟨v4,w4,ak,t4,O5,Zl,WQ⟩:=(GT5.out.ext y3).push (by have:=y3.size; omega) (k:=none) (z:=z) (b:=decide (z < 0)) (s:=.slice A3 (dg z.natAbs).length c3) ⟨_,rfl,n3⟩ m hlen 23;obtain ⟨A4,c4,e4,-,-⟩:=t4.len;rw [show (l ++ [(z,m)]).length=l.length+1 by simp] at e4;subst e4;have e3:∀ b i,b < w1.heap.size->w3.cell? ⟨b,i,none⟩=W5.cell? ⟨b,i,none⟩:=fun b i hb=>y3.cell (p:=⟨b,i,none⟩) (by show b < _; omega)
    have E0:=(e3 w.heap.size 0 (by omega)).trans D0;have E1:=(e3 w.heap.size 1 (by omega)).trans D1;have E2:=(e3 w.heap.size 2 (by omega)).trans D2;have E3:=(e3 w.heap.size 3 (by omega)).trans D3;have F0:=(e3 G 0 Bc).trans G0;have F1:=(e3 G 1 Bc).trans G1;have y3s:=y3.size;have hG3:G < w3.heap.size:=by omega
    have hB3:w.heap.size < w3.heap.size:=by omega
    have hC3:w.heap.size+1 < w3.heap.size:=by omega
    have Me:∀ b,b < w1.heap.size->(Value.slice At l.length ct).ownBlock ≠ some b->w4.heap[b]?=w3.heap[b]?:=fun b hb ax=>rr O5 b (by omega) (fun e=>ax e.symm)
    have gG:=Me G Bc (fun e=>(tY.out G e).1 rfl);have H1:w4.cell? ⟨G,1,none⟩=some (.slice At l.length ct):=(pB (a:=⟨G,1,none⟩) gG).trans F1;have HF:∀ i,w4.frozen? ⟨G,i,none⟩=false:=fun i=>(sL (a:=⟨G,i,none⟩) gG).trans ((y3.frozen (p:=⟨G,i,none⟩) (by show G < _; omega)).trans ((sL (a:=⟨G,i,none⟩) (YU.out G Bc O1)).trans (gf i)))
    have wS:∀ R,(Value.slice A4 (l.length+1) c4).ownBlock=some R->R ≠ G/\R ≠ M:=fun R hR=>by
     rcases WQ with o | o
     · exact tY.out R (o.symm.trans hR)
     · rw [o] at hR; injection hR with hR; omega
    have bT:Hid (zas base G M (.slice At l.length ct) (l ++ [(z,m)]) w (.returned (.tuple #[])) (w4.setCell ⟨G,1,none⟩ (.slice A4 (l.length+1) c4))):=by
     have akk:=O5.size;have hX1:=X1.out;have ajH:=hX1.size;have mV:yci G M (.slice At l.length ct) (.slice A4 (l.length+1) c4) w w4:=⟨fun b h1 h2 h3 h4=>(Me b (by omega) h4).trans ((y3.below.block b (by omega)).trans ((YU.out b (by omega) h3).trans (hX1.below.block b h1))),WQ.imp id (fun h=>⟨_,h,by omega⟩)⟩;exact ucy (v:=.slice At l.length ct) mV (Below.grown (Below.trans X05.out (Below.mono y3 (by omega))) O5 (by omega) (fun b hb=>(GT5.out.own hb).1)) (fun x ds hx=>Zl x ds ((N05.out x ds hx).ext y3)) ((pB (a:=⟨G,0,none⟩) gG).trans F0) H1 rfl HF (GM5.out.block ((Me M (by omega) (fun e=>(tY.out M e).2 rfl)).trans (y3.below.block M (by omega)))) t4 ⟨gb1,gb2,O1,by omega⟩ wS
    exact ⟨w4,A4,c4,ak,⟨E0,E1,E2,E3⟩,⟨F0,F1⟩,⟨hG3,hB3,hC3⟩,H1,HF,bT.out⟩
   have ru:=hid (Cf.xl (k:=some L) (w:=w) HC.out (fun v ds hv=>(N05.out v ds hv).ext ((Ext.refl W5).drew)));clear GT5 N05 X05 GM5 YU HO5 HK5 tY HC GM GT H HP HN aG X1 Af Gs Gq
   go_region_law (first
    | (go_simp
       go_at_call 32
       refine (gan _ z L _ ru.out hL).mono ?_;rintro e w3 ⟨v3,rfl,⟨s3,rfl,n3⟩,x3⟩;obtain ⟨A3,c3,rfl,-⟩:=id n3;obtain ⟨w4,A4,c4,ak,⟨E0,E1,E2,E3⟩,⟨F0,F1⟩,⟨hG3,hB3,hC3⟩,H1,HF,aS⟩:=bY.out _ _ _ n3 x3;have bT:=hid aS
       clear n3 x3 aS)
    | (refine qai rfl (.tmp 51) (.tmp 56) _ _ rfl _ _ _ _ (by simp [Act.eval,Act.put]) (by simp [Act.eval,Act.put]) ak ?_))
   all_goals
    clear ak E0 E1 E2 E3 F0 F1 H1 HF
    go_end0
    exact bT.out
theorem yl.xD {T k base:Nat} {W:World} {g c n:Nat} {xs:List Value} (h:yl T k base W (.slice (some ⟨g,0,none⟩) n c) n xs) (j:Nat) (hj:j < n * k) (u:Value) (hu:jo u=false) :
 yl T k base (W.setCell ⟨g,j,none⟩ u) (.slice (some ⟨g,0,none⟩) n c) n (xs.set j u):=by
 obtain ⟨⟨h1,h2⟩,h3⟩:=h;rcases h2 with ⟨h2,-⟩ | ⟨g',cap,cur,e,hb,hg,hc,hm,hs,ht⟩
 · cases h2
 injection e with e1 e2 e3
 injection e1 with e1
 injection e1 with e1
 subst e1 e3;have H8:(W.setCell ⟨g,j,none⟩ u).heap[g]?=some (.cells (cur.setIfInBounds j u) T (0,0)):=by
  simp [World.setCell,RE,hg]
 refine ⟨⟨by rw [pH]; exact h1,.inr ⟨g,c,cur.setIfInBounds j u,rfl,hb,H8,hc,hm,by simpa using hs,?_⟩⟩,?_⟩
 · rw [Array.toList_setIfInBounds,List.take_set,ht]
 · intro R cur' T' fr e eP u' WX;have hR:g=R:=by simpa [Value.ownBlock] using e
   rw [<- hR,H8] at eP;injection eP with eP
   injection eP with eP
   rw [<- eP,Array.toList_setIfInBounds] at WX;rcases R9 WX with WX | rfl
   · exact h3 g cur T (0,0) rfl hg u' WX
   · exact hu
theorem vco (rs:List (Bool × Value × Int × Mo)):∀ (k:Nat) (hk:k < rs.length) (b:Bool) (s:Value) (z:Int),yao (rs.set k (b,s,z,rs[k].2.2.2))=((yao rs).set (k * 6) (.bool b)).set (k * 6+1) s:=by
 induction rs with
 | nil=>intro k hk; simp at hk
 | cons r rs ih =>
   intro k hk b s z;have hl:(tmC r.1 r.2.1 r.2.2.2).length=6:=rfl;cases k with
   | zero=>simp [yao,tmC]
   | succ k =>
     have:=ih k (by simpa using hk) b s z;simp only [Rr,Rm,yao,th] at this ⊢;rw [this,ti _ _ (by rw [hl]; omega),ti _ _ (by rw [hl]; omega),hl]
     congr 3 <;> omega
theorem TsV.xD {base:Nat} {W:World} {g c:Nat} {l:Sp} (h:TsV none base W (.slice (some ⟨g,0,none⟩) l.length c) l) (k:Nat) (hk:k < l.length) {b:Bool} {A:Option Addr} {n d:Nat} {z:Int} (hc:Cf W none (.agg #[.bool b,.slice A n d]) z) :
 TsV none base ((W.setCell ⟨g,k * 6,none⟩ (.bool b)).setCell ⟨g,k * 6+1,none⟩ (.slice A n d)) (.slice (some ⟨g,0,none⟩) l.length c) (l.set k (z,l[k].2))/\(∀ v ds,jc W v ds->jc ((W.setCell ⟨g,k * 6,none⟩ (.bool b)).setCell ⟨g,k * 6+1,none⟩ (.slice A n d)) v ds):=by
 obtain ⟨rs,rfl,h2,h3⟩:=h;rw [px] at hk;simp only [px] at h2 ⊢;have q0:=h2.cell (k * 6) (by omega);have q1:=h2.cell (k * 6+1) (by omega);have f0:=uax rs k hk 0 (by omega);have f1:=uax rs k hk 1 (by omega);rw [s8] at f0;rw [f0] at q0;rw [f1] at q1;obtain ⟨b',B',n',c',e'⟩:=(h3 rs[k] (pt hk)).unpack;simp only [tm,tD,so,and_true] at e';have q1':W.cell? ⟨g,k * 6+1,none⟩=some (.slice B' n' c'):=by rw [q1,<- e'.2]; rfl
 have au:∀ v ds,jc W v ds->jc ((W.setCell ⟨g,k * 6,none⟩ (.bool b)).setCell ⟨g,k * 6+1,none⟩ (.slice A n d)) v ds:=fun v ds hv =>
  (hv.box q0 rfl _).box (u:=.slice B' n' c') (by rw [ph _ _ _ _ (by simp)]; exact q1') rfl _
 refine ⟨⟨rs.set k (b,.slice A n d,z,rs[k].2.2.2),?_,?_,fun r hr=>?_⟩,au⟩
 · rw [List.map_set]; simp
 · rw [pH,vco rs k hk];exact (h2.xD (k * 6) (by omega) _ rfl).xD (k * 6+1) (by omega) _ rfl
 · rcases R9 hr with hr | rfl
   · exact (h3 r hr).xl au
   · exact hc.xl au
theorem qcy {base G M:Nat} {v:Value} {l:Sp} {w:World} (h:GaV base w G M v l) (m:Mo) (x:Value) (L:Nat) (z:Int) (hc:jm w x z L) (hm:m.qe) (hb:base<=w.heap.size) (k:Nat) (hk:k < l.length) (hL:L+(dg l[k].1.natAbs).length<=35184372088000) (hlen:l.length < 1099511627776) (hn:mog (vad 0 l) m=some (.int .i64 (0+k:Nat))) (Cm:l[k].2=m) (oJ:vad 0 (l.set k (l[k].1+z,m))=vad 0 l):Calls Tryz.prog 54 #[.pointer (some ⟨G,0,none⟩),moV m,x] w (zas base G M v (l.set k (l[k].1+z,m)) w):=by
 have HC:=hid hc;obtain ⟨b,B,n,c,rfl⟩:=hc.unpack;have HQ:Hid (decide (¬ m.qe)=false):=by
  have:decide (¬ m.qe)=false:=decide_eq_false (fun h=>h hm);exact this
 have H:=hid h;obtain ⟨W,hW⟩:=n_m ((w.alloc (.cells #[.int .i64 m.a,.int .i64 m.b,.int .i64 m.c,.int .i64 m.d] 61)).alloc (.cells #[.bool b,.slice B n c] 30));have ai:Ext w W:=by rw [<- hW]; exact ((Ext.refl w).alloc _).alloc _
 have dG:W.heap.size=w.heap.size+1+1:=by rw [<- hW]; simp
 have iK:vw W w.heap.size m:=by rw [<- hW]; exact (vw.new w m _).ext ((Ext.refl _).alloc _) (by simp)
 have pF:W.cell? ⟨w.heap.size+1,0,none⟩=some (.bool b):=by rw [<- hW]; simp [go_sem]
 have bZ:W.cell? ⟨w.heap.size+1,1,none⟩=some (.slice B n c):=by rw [<- hW]; simp [go_sem]
 obtain ⟨d0,d1,d2,d3⟩:=id iK;have Af:=hid iK;have Gs:=hid pF;have Gq:=hid bZ;have aG:=hid ai;have HN:=hid hn;have VQ:=hid Cm;have oh:=hid oJ;clear h hc ai iK hn pF bZ Cm oJ;unfold moV;go_enter Tryz.func54,Tryz.ntmps54;go_wp2_with fail;refine (xav m W).mono ?_;rintro e w1 ⟨rfl,x1⟩;rw [HQ.out];have h1:=H.out.ext (aG.out.trans x1);have uN:=x1.size;obtain ⟨d0,d1,d2,d3⟩:=Af.out.ext x1 (by omega);have c0:=(x1.cell (p:=⟨w.heap.size+1,0,none⟩) (by show w.heap.size+1 < _; omega)).trans Gs.out;have c1:=(x1.cell (p:=⟨w.heap.size+1,1,none⟩) (by show w.heap.size+1 < _; omega)).trans Gq.out;have X1:=hid (aG.out.trans x1);obtain ⟨g0,g1,gf,gm,gt,⟨gb1,gb2,O1,Bc⟩,zT⟩:=h1;have nS:=gad.look (w:=w1.drew) gm m true;rw [HN.out] at nS;simp only [Pf,Option.isSome_some,if_true,moV,rh] at nS;obtain ⟨At,ct,rfl,-,-⟩:=gt.len;have oZ:=gt.sp;obtain ⟨A',c',e',-,-,aK⟩:=oZ;injection e' with e1 e2 e3
 subst e1 e3;obtain ⟨ad,b1,B1,n1,c2,rfl,ah,kN,eF⟩:=aK k hk;obtain ⟨rs,JQ,jS,DZ⟩:=id gt;have wP:rs.length=l.length:=by rw [<- JQ,px]
 rw [wP] at jS;obtain ⟨R,cR,eR,-,-,Uj,yT,aaO⟩:=jS.pos (by omega);injection eR with eR1 eR2 eR3
 injection eR1 with eR1
 subst eR1;have zO:=zT R rfl;rw [zu,rh] at kN;obtain ⟨t0,t1,-⟩:=kN;simp only at t0 t1;have GM:=hid gm;have GT:=hid gt;have tY:=hid zT;have ou:=hid eF;clear gm gt zT x1 hW jS DZ JQ eF aK;go_upto_region 2 with fail
 go_region
 all_goals
  clear nS d0 d1 d2 d3;have bY:Hid (∀ (w3:World) (x3:Value),ul w3 x3 (l[k].1+z)->Ext w1.drew.drew w3->∃ A3 n3 c3,x3=.agg #[.bool (decide (l[k].1+z < 0)),.slice A3 n3 c3]/\(w3.cell? ⟨G,0,none⟩=some (.map (some M))/\w3.cell? ⟨G,1,none⟩=some (.slice (some ⟨R,0,none⟩) l.length ct))/\(w3.cell? ⟨R,k * 6,none⟩=some (.bool b1)/\w3.cell? ⟨R,k * 6+1,none⟩=some (.slice B1 n1 c2)/\(∀ i,w3.frozen? ⟨R,i,none⟩=false))/\zas base G M (.slice (some ⟨R,0,none⟩) l.length ct) (l.set k (l[k].1+z,m)) w (.returned (.tuple #[])) ((w3.setCell ⟨R,k * 6,none⟩ (.bool (decide (l[k].1+z < 0)))).setCell ⟨R,k * 6+1,none⟩ (.slice A3 n3 c3))):=by
   intro w3 x3 n3 y3;obtain ⟨s3,rfl,nv⟩:=id n3;obtain ⟨A3,c3,rfl,-⟩:=id nv;have ED:Ext w1 w3:=Ext.trans (((Ext.refl w1).drew).drew) y3;have DY:=ED.size;have ev:∀ bb i,bb < w1.heap.size->w3.cell? ⟨bb,i,none⟩=w1.cell? ⟨bb,i,none⟩:=fun bb i h=>ED.cell (p:=⟨bb,i,none⟩) h
   refine ⟨A3,_,c3,rfl,⟨(ev G 0 Bc).trans g0,(ev G 1 Bc).trans g1⟩,⟨(ev R _ yT).trans t0,(ev R _ yT).trans t1,fun i=>(ED.frozen (p:=⟨R,i,none⟩) yT).trans (aaO i)⟩,?_⟩;obtain ⟨ts,tn⟩:=(GT.out.ext ED).xD k hk (b:=decide (l[k].1+z < 0)) (A:=A3) (d:=c3) n3;rw [VQ.out] at ts;refine ⟨rfl,.slice (some ⟨R,0,none⟩) l.length ct,⟨?_,?_,fun i=>?_,?_,?_,⟨gb1,gb2,O1,?_⟩,tY.out⟩,?_,fun x ds hx=>tn x ds ((hx.ext X1.out).ext ED),fun b h1 h2 h3 h4=>?_,.inl rfl⟩
   · rw [ph _ _ _ _ (by intro e; injection e with e; exact zO.1 e),ph _ _ _ _ (by intro e; injection e with e; exact zO.1 e)]; exact (ev G 0 Bc).trans g0
   · rw [ph _ _ _ _ (by intro e; injection e with e; exact zO.1 e),ph _ _ _ _ (by intro e; injection e with e; exact zO.1 e)]; exact (ev G 1 Bc).trans g1
   · rw [rm,rm]; exact (ED.frozen (p:=⟨G,i,none⟩) Bc).trans (gf i)
   · rw [oh.out];exact (GM.out.ext ED).block ((Below.heap_setCell _ _ _ M (fun e=>zO.2 e.symm)).trans (Below.heap_setCell _ _ _ M (fun e=>zO.2 e.symm)))
   · have:(l.set k (l[k].1+z,m)).length=l.length:=pH;exact ts
   · simp only [World.setCell,Array.size_modify]; omega
   · exact Below.setCell (Below.setCell (Below.mono (X1.out.trans ED) hb) Uj _) Uj _
   · have Ui:b ≠ R:=fun e=>h4 (by rw [e]; rfl)
     exact ((Below.heap_setCell _ _ _ b Ui).trans (Below.heap_setCell _ _ _ b Ui)).trans ((X1.out.trans ED).below.block b h1)
  have Ro:∀ w3 x3,ul w3 x3 (l[k].1+z)->Ext w1.drew.drew w3->True:=fun _ _ _ _=>trivial
  have WG:=hid (ou.out.ext (((Ext.refl w1).drew).drew));have WF:=hid (HC.out.ext (X1.out.trans (((Ext.refl w1).drew).drew)));have hq:(⟨R,0,none⟩:Addr).add (k * 6)=⟨R,k * 6,none⟩:=by rw [zu,rh]
  clear GM GT tY ou HC oh VQ HN aG X1 Af Gs Gq H;go_upto_region 4 with fail
  go_region_law (first
   | (go_simp
      go_at_call 80
      refine (qcb _ _ (l[k].1) z _ L _ (ul.raw WG.out) WF.out (by omega)).mono ?_;rintro e w3 ⟨x3,rfl,n3,y3⟩;obtain ⟨A3,Qg,c3,rfl,⟨G0,G1⟩,⟨T0,T1,TF⟩,aS⟩:=bY.out _ _ n3 y3;have bT:=hid aS
      clear n3 y3 aS))
  all_goals
   clear G0 G1 T0 T1 TF;go_wp2_with fail;exact bodyPost_ret (results_none rfl _ _ _) rfl bT.out
theorem vcy {base G M:Nat} {v:Value} {l:Sp} {w:World} (h:GaV base w G M v l) (m:Mo) (x:Value) (L:Nat) (z:Int) (hc:jm w x z L) (hb:base<=w.heap.size) (hL:L+(dg (zg l)).length<=35184372088000) (hlen:l.length < 1099511627776):Calls Tryz.prog 54 #[.pointer (some ⟨G,0,none⟩),moV m,x] w (zas base G M v (if m.qe then vac z m l else l) w):=by
 by_cases hm:m.qe
 · rw [if_pos hm];rcases jcf z m l 0 with ⟨h1,h2,h3⟩ | ⟨k,hk,h1,h2,h3,h4⟩
   · rw [h2]; exact jcy h m x L z hc (by omega) hm hb hlen h1 h3
   · rw [h3];have hd:=yu (ybd (pt hk));exact qcy h m x L z hc hm hb k hk (by omega) hlen h1 h2 h4
 · rw [if_neg hm]; exact kcy h m x (some L) z hc hm hb
def zat:Go.Shelf.Ren:=⟨fun | 14=>108 | 20=>128 | 21=>129 | 22=>130 | 23=>131 | 24=>132 | 25=>133 | 26=>134 | 27=>135 | 46=>149 | 47=>119 | 48=>120 | 49=>150 | 50=>151 | 15=>74 | 57=>156 | 28=>102 | 29=>103 | n=>n,fun | 24=>76 | 22=>22 | 3=>3 | 25=>110 | 4=>4 | 0=>0 | 46=>127 | 45=>126 | 50=>115 | 66=>146 | 39=>85 | 55=>67 | 70=>150 | 76=>168 | 77=>169 | 53=>84 | 5=>5 | 9=>9 | n=>n,fun | n=>n⟩
theorem wbt : Go.Proofs.SlLaysF0.n14 Tryz.prog zat := {
 mixed:=by kernel_rfl,
 f14:=⟨Tryz.f108.name,by decide,Tryz.func108.trans (congrArg some (by kernel_rfl))⟩,
 f15:=Tryz.func74.trans (congrArg some (by kernel_rfl)),
 f20:=⟨Tryz.f128.name,by decide,Tryz.func128.trans (congrArg some (by kernel_rfl))⟩,
 f21:=⟨Tryz.f129.name,by decide,Tryz.func129.trans (congrArg some (by kernel_rfl))⟩,
 f22:=⟨Tryz.f130.name,by decide,Tryz.func130.trans (congrArg some (by kernel_rfl))⟩,
 f23:=⟨Tryz.f131.name,by decide,Tryz.func131.trans (congrArg some (by kernel_rfl))⟩,
 f24:=⟨Tryz.f132.name,by decide,Tryz.func132.trans (congrArg some (by kernel_rfl))⟩,
 f25:=⟨Tryz.f133.name,by decide,Tryz.func133.trans (congrArg some (by kernel_rfl))⟩,
 f26:=⟨Tryz.f134.name,by decide,Tryz.func134.trans (congrArg some (by kernel_rfl))⟩,
 f27:=⟨Tryz.f135.name,by decide,Tryz.func135.trans (congrArg some (by kernel_rfl))⟩,
 f28:=Tryz.func102.trans (congrArg some (by kernel_rfl)),
 f29:=Tryz.func103.trans (congrArg some (by kernel_rfl)),
 f46:=⟨Tryz.f149.name,by decide,Tryz.func149.trans (congrArg some (by kernel_rfl))⟩,
 f47:=Tryz.func119.trans (congrArg some (by kernel_rfl)),
 f48:=Tryz.func120.trans (congrArg some (by kernel_rfl)),
 f49:=⟨Tryz.f150.name,by decide,Tryz.func150.trans (congrArg some (by kernel_rfl))⟩,
 f50:=⟨Tryz.f151.name,by decide,Tryz.func151.trans (congrArg some (by kernel_rfl))⟩,
 f57:=⟨Tryz.f156.name,by decide,Tryz.func156.trans (congrArg some (by kernel_rfl))⟩,
 t0:=Tryz.underlying0,
 a0:=Tryz.isAgg0,
 z0:=Tryz.sizeOf0,
 v0:=Tryz.zeroValue0,
 t3:=u5,
 a3:=Tryz.isAgg3,
 z3:=Tryz.sizeOf3,
 v3:=Tryz.zeroValue3,
 t4:=SR,
 a4:=Tryz.isAgg4,
 z4:=Tryz.sizeOf4,
 v4:=Tryz.zeroValue4,
 t5:=Tryz.underlying5,
 a5:=Tryz.isAgg5,
 z5:=Tryz.sizeOf5,
 v5:=Tryz.zeroValue5,
 t9:=Tryz.underlying9,
 a9:=Tryz.isAgg9,
 z9:=Tryz.sizeOf9,
 v9:=Tryz.zeroValue9,
 t22:=Tryz.underlying22,
 a22:=Tryz.isAgg22,
 z22:=Tryz.sizeOf22,
 v22:=Tryz.zeroValue22,
 t25:=Tryz.underlying110,
 a25:=Tryz.isAgg110,
 z25:=Tryz.sizeOf110,
 v25:=Tryz.zeroValue110,
 t39:=Tryz.underlying85,
 a39:=Tryz.isAgg85,
 z39:=Tryz.sizeOf85,
 v39:=Tryz.zeroValue85,
 t45:=Tryz.underlying126,
 a45:=Tryz.isAgg126,
 z45:=Tryz.sizeOf126,
 v45:=Tryz.zeroValue126,
 t46:=Tryz.underlying127,
 a46:=Tryz.isAgg127,
 z46:=Tryz.sizeOf127,
 v46:=Tryz.zeroValue127,
 t50:=Tryz.underlying115,
 a50:=Tryz.isAgg115,
 z50:=Tryz.sizeOf115,
 v50:=Tryz.zeroValue115,
 t53:=Tryz.underlying84,
 a53:=Tryz.isAgg84,
 z53:=Tryz.sizeOf84,
 v53:=Tryz.zeroValue84,
 t55:=Tryz.underlying67,
 a55:=Tryz.isAgg67,
 z55:=Tryz.sizeOf67,
 v55:=Tryz.zeroValue67,
 t66:=Tryz.underlying146,
 a66:=Tryz.isAgg146,
 z66:=Tryz.sizeOf146,
 v66:=Tryz.zeroValue146,
 t70:=Tryz.underlying150,
 a70:=Tryz.isAgg150,
 z70:=Tryz.sizeOf150,
 v70:=Tryz.zeroValue150,
 t76:=Tryz.underlying168,
 a76:=Tryz.isAgg168,
 z76:=Tryz.sizeOf168,
 v76:=Tryz.zeroValue168,
 t77:=Tryz.underlying169,
 a77:=Tryz.isAgg169,
 z77:=Tryz.sizeOf169,
 v77:=Tryz.zeroValue169 }
theorem yc5:Go.Proofs.SlLaysF0.n15 Tryz.prog zat:={ wbt with }
end Go.Proofs.YtcepajijiabkmaaGreat
