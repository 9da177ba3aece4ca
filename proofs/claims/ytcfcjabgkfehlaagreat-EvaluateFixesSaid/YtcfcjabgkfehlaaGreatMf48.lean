/- Layer 4: integer.Sum; rows of integers. -/
import Derived.Test.YtcfcjabgkfehlaaGreatInt3
import Derived.Test.YtcfcjabgkfehlaaGreatMf30
import Derived.Test.YtcfcjabgkfehlaaGreatMf34
import Derived.Test.YtcfcjabgkfehlaaGreatMf39
import Derived.Lib.MinMax
import Derived.OrdersHeld
import Derived.Deep.RegionHeld3
set_option linter.unusedSimpArgs false
set_option linter.unusedVariables false

set_option maxRecDepth 100000
set_option maxHeartbeats 8000000
namespace Go.Proofs.YtcfcjabgkfehlaaGreat
open Go.RowKit
def yz : List Int -> Int
 | []=>0
 | z :: r=>z+yz r
def inr : List Int -> Nat
 | []=>0
 | z :: r=>z.natAbs+inr r
theorem zbr (a b:List Int):yz (a ++ b)=yz a+yz b:=by
 induction a with
 | nil=>simp [yz]
 | cons x a ih=>rw [List.cons_append,yz,yz,ih]; omega
theorem zb7 (l:List Int) (k:Nat) (h:k < l.length):yz (l.take (k+1))=yz (l.take k)+l[k]:=by
 rw [List.take_succ_eq_append_getElem h,zbr]; simp [yz]
theorem zcg (l:List Int) (k:Nat):(yz (l.take k)).natAbs<=inr l:=by
 induction l generalizing k with
 | nil=>simp [yz,inr]
 | cons x l ih =>
   cases k with
   | zero=>simp [yz]
   | succ k =>
     rw [List.take_succ_cons,yz,inr];have:=ih k;omega
theorem ucp {l:List Int} {z:Int} (h:z ∈ l):z.natAbs<=inr l:=by
 induction l with
 | nil=>cases h
 | cons x l ih =>
   rw [inr];rcases List.mem_cons.1 h with rfl | h
   · omega
   · have:=ih h; omega
def IsV (w:World) (v:Value) (zs:List Int):Prop:=
 ∃ A c,v=.slice A zs.length c/\zs.length<=c/\c<=9223372036854775807/\∀ k (h:k < zs.length),∃ ad B n d,A=some ad/\ad.block < w.heap.size/\w.cell? (ad.add (k * 2))=some (.bool (decide (zs[k] < 0)))/\w.cell? ⟨(ad.add (k * 2)).block,(ad.add (k * 2)).off+1,none⟩=some (.slice B n d)/\jb w (.slice B n d) (dg zs[k].natAbs)
theorem IsV.ext {w w':World} {v:Value} {l:List Int} (h:IsV w v l) (hx:Ext w w'):IsV w' v l:=by
 obtain ⟨A,c,rfl,h1,h2,h3⟩:=h;refine ⟨A,c,rfl,h1,h2,fun k hk=>?_⟩;obtain ⟨ad,B,n,d,rfl,h4,h5,h6,h7⟩:=h3 k hk;have hb:(ad.add (k * 2)).block < w.heap.size:=by rw [ja]; exact h4
 exact ⟨ad,B,n,d,rfl,Nat.lt_of_lt_of_le h4 hx.size,(hx.cell hb).trans h5,(hx.cell (p:=⟨(ad.add (k * 2)).block,(ad.add (k * 2)).off+1,none⟩) hb).trans h6,h7.ext hx⟩
def qar (w:World) (g:Nat) (z:Int):Prop:=(∃ A n c,w.cell? ⟨g,0,none⟩=some (.bool (decide (z < 0)))/\w.cell? ⟨g,1,none⟩=some (.slice A n c)/\jb w (.slice A n c) (dg z.natAbs))/\∀ i,w.frozen? ⟨g,i,none⟩=false
theorem qar.ext {w w':World} {g:Nat} {z:Int} (h:qar w g z) (hx:Ext w w') (hg:g < w.heap.size):qar w' g z:=by
 obtain ⟨⟨A,n,c,h1,h2,h3⟩,h4⟩:=h;exact ⟨⟨A,n,c,(hx.cell (p:=⟨g,0,none⟩) hg).trans h1,(hx.cell (p:=⟨g,1,none⟩) hg).trans h2,h3.ext hx⟩,fun i=>(hx.frozen (p:=⟨g,i,none⟩) hg).trans (h4 i)⟩
theorem qar.set {w:World} {g:Nat} {z y:Int} {A:Option Addr} {n c:Nat} (h:qar w g z) (hy:jb w (.slice A n c) (dg y.natAbs)):qar ((w.setCell ⟨g,0,none⟩ (.bool (decide (y < 0)))).setCell ⟨g,1,none⟩ (.slice A n c)) g y:=by
 obtain ⟨⟨B,m,d,h1,h2,-⟩,h4⟩:=h;have e1:(w.setCell ⟨g,0,none⟩ (.bool (decide (y < 0)))).cell? ⟨g,1,none⟩=some (.slice B m d):=by rw [World.cell?_setCell_other _ _ _ _ (by simp)]; exact h2
 refine ⟨⟨A,n,c,?_,World.cell?_setCell_same _ _ _ e1,(hy.box h1 rfl _).box e1 rfl _⟩,fun i=>?_⟩
 · rw [World.cell?_setCell_other _ _ _ _ (by simp)]; exact World.cell?_setCell_same _ _ _ h1
 · rw [World.frozen?_setCell,World.frozen?_setCell]; exact h4 i
theorem qcl {w:World} {v:Value} {zs:List Int} {D:Nat} (h:IsV w v zs) (hn:inr zs < B32 ^ D) (hD:D<=17592186044000):Calls Tryz.prog 109 #[v] w (xag (yz zs) w):=by
 have HH:=Lib.hid h;obtain ⟨A,c,rfl,h1,h2,-⟩:=h;have HL:Hid (∀ k,(dg (yz (zs.take k)).natAbs).length<=D):=Lib.hid (fun k=>qg (Nat.lt_of_le_of_lt (zcg zs k) hn));have HZ:Hid (∀ k (hk:k < zs.length),(dg zs[k].natAbs).length<=D):=Lib.hid (fun k hk=>qg (Nat.lt_of_le_of_lt (ucp (List.getElem_mem hk)) hn));clear hn;obtain ⟨W,hW⟩:∃ W,(w.alloc (.cells #[.bool false,.slice none 0 0] 33)).alloc (.cells #[.bool false,.slice none 0 0] 33)=W:=⟨_,rfl⟩;have hWx:Ext w W:=by rw [<- hW]; exact ((Ext.refl w).alloc _).alloc _
 have hWs:W.heap.size=w.heap.size+1+1:=by rw [<- hW]; simp
 have hb1:qar W w.heap.size 0:=by
  rw [<- hW];refine ⟨⟨none,0,0,by simp [go_sem],by simp [go_sem],by rw [Int.natAbs_zero,jk]; exact jb.nil _⟩,fun i=>by simp [go_sem]⟩
 have hb2:qar W (w.heap.size+1) 0:=by
  rw [<- hW];refine ⟨⟨none,0,0,by simp [go_sem],by simp [go_sem],by rw [Int.natAbs_zero,jk]; exact jb.nil _⟩,fun i=>by simp [go_sem]⟩
 have HWX:=Lib.hid hWx;have HB1:=Lib.hid hb1;have HB2:=Lib.hid hb2;have HW:=Lib.hid hW;clear hWx hb1 hb2 hW;go_enter Tryz.func109,Tryz.ntmps109;go_wp2_with fail;rw [HW.out];clear HW
 go_loopw [9] (fun iv wr=>∃ k:Nat,k<=zs.length/\iv=.int .i64 k/\Hid (Ext w wr/\W.heap.size<=wr.heap.size/\qar wr w.heap.size 0/\qar wr (w.heap.size+1) (yz (zs.take k)))) (fun iv _=>zs.length - (intOf iv).toNat)
 case atStart=>exact ⟨0,Nat.zero_le _,rfl,⟨HWX.out,Nat.le_refl _,HB1.out,HB2.out⟩⟩
 case round =>
  obtain ⟨k,hk,rfl,⟨hx,hws,hi1,hi2⟩⟩:=hrel;have HX:=Lib.hid hx;have HI1:=Lib.hid hi1;have HI2:=Lib.hid hi2;clear hx hi1
  by_cases hlt:k < zs.length
  · obtain ⟨A',c',e',-,-,h3⟩:=HH.out.ext HX.out;injection e' with e1 e2 e3
    obtain ⟨ad,B,n,d,e4,hb,c0,c1,hnz⟩:=h3 k hlt;obtain rfl:A=some ad:=e1.trans e4;obtain ⟨⟨SA,sn,sc,s0,s1,hs⟩,sf⟩:=hi2;obtain ⟨U,hU⟩:∃ U,wr.alloc (.cells #[.bool (decide (zs[k] < 0)),.slice B n d] 33)=U:=⟨_,rfl⟩;have hUx:Ext wr U:=by rw [<- hU]; exact (Ext.refl _).alloc _
    have hUs:U.heap.size=wr.heap.size+1:=by rw [<- hU]; simp
    have u0:U.cell? ⟨wr.heap.size,0,none⟩=some (.bool (decide (zs[k] < 0))):=by rw [<- hU]; simp [go_sem]
    have u1:U.cell? ⟨wr.heap.size,1,none⟩=some (.slice B n d):=by rw [<- hU]; simp [go_sem]
    have s0':=(hUx.cell (p:=⟨w.heap.size+1,0,none⟩) (by show w.heap.size+1 < _; omega)).trans s0;have s1':=(hUx.cell (p:=⟨w.heap.size+1,1,none⟩) (by show w.heap.size+1 < _; omega)).trans s1;have HADD:=Lib.hid (ja2 _ _ (yz (zs.take k)) zs[k] D D U ⟨_,_,_,rfl,hs.ext hUx,by rw [je,vai],HL.out k⟩ ⟨_,_,_,rfl,hnz.ext hUx,by rw [je,vai],HZ.out k hlt⟩ (by omega));have HST:=Lib.hid (zb7 zs k hlt);have HUX:=Lib.hid hUx;clear h3 e1 e3 e4 hnz hs hUx;generalize yz (zs.take k)=S at *;generalize zs[k]=z at *;go_wp2_with fail;clear hU u0 u1 s0 s1 s0' s1' c0 c1;refine HADD.out.mono ?_;rintro e w2 ⟨z2,rfl,⟨y2,rfl,m2⟩,x2⟩;obtain ⟨C2,k2,rfl,-⟩:=id m2;have hs2:=x2.size;have hib:=HI2.out.ext (HUX.out.trans x2) (by omega);have HIB:=Lib.hid (hib.set m2);have HIB1:Hid (qar ((w2.setCell ⟨w.heap.size+1,0,none⟩ (.bool (decide (S+z < 0)))).setCell ⟨w.heap.size+1,1,none⟩ (.slice C2 (dg (S+z).natAbs).length k2)) w.heap.size 0):=by
     obtain ⟨⟨F,m,f,f0,f1,f2⟩,ff⟩:=HI1.out.ext (HUX.out.trans x2) (by omega);obtain ⟨⟨G,gm,gf,g0,g1,-⟩,-⟩:=hib;have e1:(w2.setCell ⟨w.heap.size+1,0,none⟩ (.bool (decide (S+z < 0)))).cell? ⟨w.heap.size+1,1,none⟩=some (.slice G gm gf):=by rw [World.cell?_setCell_other _ _ _ _ (by simp)]; exact g1
     exact ⟨⟨F,m,f,by rw [World.cell?_setCell_other _ _ _ _ (by simp),World.cell?_setCell_other _ _ _ _ (by simp)]; exact f0,by rw [World.cell?_setCell_other _ _ _ _ (by simp),World.cell?_setCell_other _ _ _ _ (by simp)]; exact f1,(f2.box g0 rfl _).box e1 rfl _⟩,fun i=>by rw [World.frozen?_setCell,World.frozen?_setCell]; exact ff i⟩
    have HXN:Hid (Ext w ((w2.setCell ⟨w.heap.size+1,0,none⟩ (.bool (decide (S+z < 0)))).setCell ⟨w.heap.size+1,1,none⟩ (.slice C2 (dg (S+z).natAbs).length k2))):=Lib.hid (((HX.out.trans (HUX.out.trans x2)).setCell (by show w.heap.size<=w.heap.size+1; omega) _).setCell (by show w.heap.size<=w.heap.size+1; omega) _);obtain ⟨⟨G,gm,gf,g0,g1,-⟩,gff⟩:=hib;clear x2 m2 HADD HI1 HI2 sf;go_wp2_with fail
    go_roundw
    case rel=>exact ⟨k+1,by omega,by go_num,⟨HXN.out,by simp [World.setCell]; omega,HIB1.out,by rw [HST.out]; exact HIB.out⟩⟩
    case measure=>simp [intOf]; omega
  · have hke:k=zs.length:=by omega
    obtain ⟨⟨SA,sn,sc,s0,s1,hs⟩,sf⟩:=HI2.out;obtain ⟨⟨F,m,f,f0,f1,f2⟩,ff⟩:=HI1.out;rw [hke,List.take_length] at s0 hs;have HF:=Lib.hid (jy (g:=w.heap.size) (z:=yz zs) HX.out (Nat.le_refl _) f0 f1 rfl rfl ⟨_,rfl,hs⟩);clear hke hs hi2 HI1 HI2;generalize yz zs=S at *;go_wp2_with fail;exact bodyPost_ret (v:=.agg #[.bool (decide (S < 0)),.slice SA sn sc]) (by simp [results,Tryz.results109,go_sem,f0,f1]) rfl HF.out
end Go.Proofs.YtcfcjabgkfehlaaGreat

/- Sums of lists of polynomials, plain: level by level, as recpoly.add goes. No program in sight. -/
namespace Go.Proofs.YtcfcjabgkfehlaaGreat
def yag (l:List Pl):Pl:=Pl.ofS (l.flatMap fun p=>p.terms Mo.one)
def qab (ρ : Int -> Rat) : List Pl -> Rat
 | []=>0
 | p :: r=>p.val ρ+qab ρ r
def lnr : List Pl -> Nat
 | []=>0
 | p :: r=>p.nr+lnr r
theorem uax (l:List Pl):(yag l).Can:=Pl.ofS_can _
theorem ubo (ρ:Int->Rat) (a b:List Pl):qab ρ (a ++ b)=qab ρ a+qab ρ b:=by
 induction a with
 | nil=>simp [qab]; grind
 | cons x a ih=>rw [List.cons_append,qab,qab,ih]; grind
theorem vax (ρ:Int->Rat) (l:List Pl):(yag l).val ρ=qab ρ l:=by
 unfold yag;rw [Pl.ofS_val ρ (fun x hx=>by
  obtain ⟨p,-,hp⟩:=List.mem_flatMap.1 hx
  exact p.terms_one_nonneg x hp)]
 induction l with
 | nil=>rfl
 | cons p l ih=>rw [List.flatMap_cons,vah,Pl.terms_sval,qab,ih]
theorem xby (a b:List Pl):lnr (a ++ b)=lnr a+lnr b:=by
 induction a with
 | nil=>simp [lnr]
 | cons x a ih=>rw [List.cons_append,lnr,lnr,ih]; omega
theorem qcs {l:List Pl} {n:Int} (hc:∀ p ∈ l,p.Can/\p.lv<=n) (h0:0<=n) (hn:n<=4):(yag l).lv<=n:=by
 obtain ⟨k,rfl⟩:∃ k:Nat,n=k:=⟨n.toNat,by omega⟩;refine Pl.ofS_lv (by omega) (fun x hx=>?_) fun x hx i hi hi4=>?_
 · obtain ⟨p,-,hp⟩:=List.mem_flatMap.1 hx;exact p.terms_one_nonneg x hp
 · obtain ⟨p,hpl,hp⟩:=List.mem_flatMap.1 hx;exact Pl.exp_above (hc p hpl).1 (hc p hpl).2 x hp i hi hi4
theorem ucj (p q:Pl):yag [p,q]=p.add q:=Pl.val_uniq (uax _) (Pl.add_can _ _) fun ρ=>by rw [vax,Pl.add_val,qab,qab,qab]; grind
def stp (a:Int × Nat) (p:Pl):Int × Nat:=
 if p.lv=(if a.1 < p.lv then (p.lv,0) else a).1 then ((if a.1 < p.lv then (p.lv,0) else a).1,max (if a.1 < p.lv then (p.lv,0) else a).2 p.cs.length) else (if a.1 < p.lv then (p.lv,0) else a)
theorem vbh {a:Int × Nat} {p:Pl} (h:a.1 < p.lv):stp a p=(p.lv,p.cs.length):=by
 unfold stp; rw [if_pos h,if_pos rfl]; simp
theorem ubh {a:Int × Nat} {p:Pl} (h:p.lv=a.1):stp a p=(a.1,max a.2 p.cs.length):=by
 unfold stp; rw [if_neg (show ¬ a.1 < p.lv by omega),if_pos h]
theorem kbh {a:Int × Nat} {p:Pl} (h:p.lv < a.1):stp a p=a:=by
 unfold stp; rw [if_neg (show ¬ a.1 < p.lv by omega),if_neg (by omega)]
def vaf (l:List Pl):Int × Nat:=l.foldl stp (0,0)
theorem jb2 (l:List Pl) (k:Nat) (h:k < l.length):vaf (l.take (k+1))=stp (vaf (l.take k)) l[k]:=by
 unfold vaf;rw [List.take_succ_eq_append_getElem h,List.foldl_append]
 rfl
theorem vb2 (l:List Pl) (M:Nat) (hl:∀ p ∈ l,0<=p.lv/\p.lv<=4/\p.cs.length<=M/\(0 < p.lv->2<=p.cs.length)) :
 (0<=(vaf l).1/\(vaf l).1<=4/\(vaf l).2<=M/\(0 < (vaf l).1->2<=(vaf l).2))/\∀ p ∈ l,p.lv<=(vaf l).1/\(p.lv=(vaf l).1->p.cs.length<=(vaf l).2):=by
 have key:∀ (l:List Pl) (a:Int × Nat),(0<=a.1/\a.1<=4/\a.2<=M/\(0 < a.1->2<=a.2))->(∀ p ∈ l,0<=p.lv/\p.lv<=4/\p.cs.length<=M/\(0 < p.lv->2<=p.cs.length)) ->
  (0<=(l.foldl stp a).1/\(l.foldl stp a).1<=4/\(l.foldl stp a).2<=M/\(0 < (l.foldl stp a).1->2<=(l.foldl stp a).2))/\(a.1 < (l.foldl stp a).1\/(a.1=(l.foldl stp a).1/\a.2<=(l.foldl stp a).2))/\∀ p ∈ l,p.lv<=(l.foldl stp a).1/\(p.lv=(l.foldl stp a).1->p.cs.length<=(l.foldl stp a).2):=by
  intro l
  induction l with
  | nil=>intro a ha _; exact ⟨ha,.inr ⟨rfl,Nat.le_refl _⟩,by simp⟩
  | cons p l ih =>
    intro a ha hp;have h1:=hp p (by simp);have hs:(0<=(stp a p).1/\(stp a p).1<=4/\(stp a p).2<=M/\(0 < (stp a p).1->2<=(stp a p).2))/\(a.1 < (stp a p).1\/(a.1=(stp a p).1/\a.2<=(stp a p).2))/\(p.lv < (stp a p).1\/(p.lv=(stp a p).1/\p.cs.length<=(stp a p).2)):=by
     rcases Int.lt_trichotomy a.1 p.lv with h | h | h
     · rw [vbh h]; exact ⟨⟨h1.1,h1.2.1,h1.2.2.1,h1.2.2.2⟩,.inl h,.inr ⟨rfl,Nat.le_refl _⟩⟩
     · rw [ubh h.symm]; refine ⟨⟨ha.1,ha.2.1,by simp only; omega,fun h0=>?_⟩,.inr ⟨rfl,by simp only; omega⟩,.inr ⟨h.symm,by simp only; omega⟩⟩;have:=ha.2.2.2 h0;simp only;omega
     · rw [kbh h]; exact ⟨ha,.inr ⟨rfl,Nat.le_refl _⟩,.inl h⟩
    obtain ⟨g1,g2,g3⟩:=ih (stp a p) hs.1 (fun q hq=>hp q (by simp [hq]));rw [List.foldl_cons];generalize l.foldl stp (stp a p)=r at *;generalize stp a p=s at *;refine ⟨g1,by omega,fun q hq=>?_⟩;rcases List.mem_cons.1 hq with rfl | hq
    · omega
    · exact g3 q hq
 obtain ⟨h1,-,h3⟩:=key l (0,0) ⟨by simp,by simp,by simp,by simp⟩ hl;exact ⟨h1,h3⟩
theorem xcl (l:List Pl) (h:0 < (vaf l).1):∃ p ∈ l,p.lv=(vaf l).1:=by
 have key:∀ (l:List Pl) (a:Int × Nat),(l.foldl stp a).1=a.1\/∃ p ∈ l,p.lv=(l.foldl stp a).1:=by
  intro l
  induction l with
  | nil=>intro a; exact .inl rfl
  | cons p l ih =>
    intro a;rw [List.foldl_cons];rcases ih (stp a p) with h1 | ⟨q,hq,h1⟩
    · rcases Int.lt_trichotomy a.1 p.lv with h | h | h
      · exact .inr ⟨p,by simp,by rw [h1,vbh h]⟩
      · exact .inr ⟨p,by simp,by rw [h1,ubh h.symm,h]⟩
      · exact .inl (by rw [h1,kbh h])
    · exact .inr ⟨q,by simp [hq],h1⟩
 rcases key l (0,0) with h1 | h1
 · have:(vaf l).1=0:=h1;omega
 · exact h1
def partsOf (lv:Int) (i:Nat) (p:Pl):List Pl:=if p.lv=lv then (p.cs[i]?).toList else if p.lv < lv/\i=0 then [p] else []
def jm (lv:Int) (i:Nat) (l:List Pl):List Pl:=l.flatMap (partsOf lv i)
theorem kbq (lv:Int) (i:Nat) (l:List Pl) (k:Nat) (h:k < l.length):jm lv i (l.take (k+1))=jm lv i (l.take k) ++ partsOf lv i l[k]:=by
 unfold jm;rw [List.take_succ_eq_append_getElem h,List.flatMap_append];simp
theorem xa4 (lv:Int) (i:Nat) (p:Pl):(partsOf lv i p).length<=1:=by
 unfold partsOf
 split
 · cases p.cs[i]? <;> simp
 · split <;> simp
theorem wa7 (lv:Int) (i:Nat) (l:List Pl):(jm lv i l).length<=l.length:=by
 induction l with
 | nil=>simp [jm]
 | cons p l ih =>
   unfold jm at ih ⊢;rw [List.flatMap_cons,List.length_append,List.length_cons];have:=xa4 lv i p;omega
theorem ya4 {lv:Int} {i:Nat} {p c:Pl} (hp:p.Can) (h0:0 < lv) {E:Nat} (hE:p.ex E) (h:c ∈ partsOf lv i p):c.Can/\c.lv < lv/\c.ex E/\c.nr<=p.nr:=by
 unfold partsOf at h
 split at h
 · rename_i hl;obtain ⟨l,n,d,cs⟩:=p
   change l=lv at hl
   subst hl;have hc:c ∈ cs:=by
    simp only [Pl.cs,Option.mem_toList] at h;exact List.mem_of_getElem? h
   have hk:=(hp.kids h0).2.2.2.1.mem c hc;rw [Pl.ex] at hE;exact ⟨hk.2,hk.1,xat (hE.resolve_left (by omega)).2 c hc,by rw [Pl.nr,if_neg (by omega)]; exact wbj hc⟩
 · split at h
   · rename_i hl;obtain rfl:=List.mem_singleton.1 h;exact ⟨hp,hl.1,hE,Nat.le_refl _⟩
   · cases h
theorem wan {lv:Int} {i:Nat} {l:List Pl} {c:Pl} (h0:0 < lv) {E:Nat} (hl:∀ p ∈ l,p.Can/\p.ex E) (h:c ∈ jm lv i l):c.Can/\c.lv < lv/\c.ex E:=by
 obtain ⟨p,hp,hc⟩:=List.mem_flatMap.1 h;have:=ya4 (hl p hp).1 h0 (hl p hp).2 hc;exact ⟨this.1,this.2.1,this.2.2.1⟩
theorem wb5 {lv:Int} {i:Nat} {l:List Pl} (h0:0 < lv) {E:Nat} (hl:∀ p ∈ l,p.Can/\p.ex E):lnr (jm lv i l)<=lnr l:=by
 induction l with
 | nil=>simp [jm,lnr]
 | cons p l ih =>
   have h1:=ih fun q hq=>hl q (by simp [hq])
   unfold jm at h1 ⊢;rw [List.flatMap_cons,xby,lnr];have h2:lnr (partsOf lv i p)<=p.nr:=by
    have hm:=fun c hc=>ya4 (c:=c) (hl p (by simp)).1 h0 (hl p (by simp)).2 (i:=i) hc
    have hlen:=xa4 lv i p;generalize partsOf lv i p=q at *
    match q,hlen with
    | [],_=>simp [lnr]
    | [c],_=>have:=(hm c (by simp)).2.2.2; simpa [lnr] using this
   omega
def hsm (x : Rat) : (Nat -> Rat) -> Nat -> Rat
 | _,0=>0
 | f,n+1=>f 0+x * hsm x (fun i=>f (i+1)) n
theorem wcp (x:Rat) (n:Nat):∀ f g:Nat->Rat,hsm x (fun i=>f i+g i) n=hsm x f n+hsm x g n:=by
 induction n with
 | zero=>intro f g; simp [hsm]; grind
 | succ n ih=>intro f g; simp only [hsm]; rw [ih (fun i=>f (i+1)) (fun i=>g (i+1))]; grind
theorem va6 (x:Rat) (n:Nat):hsm x (fun _=>0) n=0:=by
 induction n with
 | zero=>rfl
 | succ n ih=>simp only [hsm,ih]; grind
theorem wb4 (ρ:Int->Rat) (l:Int):∀ (n:Nat) (g:Nat->Pl),ug ρ l ((List.range n).map g)=hsm (ρ l) (fun i=>(g i).val ρ) n:=by
 intro n
 induction n with
 | zero=>intro g; simp [ug,hsm]
 | succ n ih =>
   intro g;rw [List.range_succ_eq_map,List.map_cons,List.map_map,ug,hsm,<- ih (fun i=>g (i+1))]
   rfl
theorem ucg (ρ:Int->Rat) (l:Int):∀ (cs:List Pl) (n:Nat),cs.length<=n->hsm (ρ l) (fun i=>qab ρ (cs[i]?).toList) n=ug ρ l cs:=by
 intro cs
 induction cs with
 | nil =>
   intro n _;rw [ug,<- va6 (ρ l) n]
   congr 1
 | cons c cs ih =>
   intro n hn;obtain ⟨m,rfl⟩:∃ m,n=m+1:=⟨n - 1,by simp at hn; omega⟩;rw [hsm,ug,<- ih m (by simpa using hn)];simp [qab]
   grind
theorem gb0 {l:List Pl} {lv:Int} {n E:Nat} (h0:0 < lv) (h4:lv<=4) (hn:1<=n) (hl:∀ p ∈ l,p.Can/\p.ex E) (hlv:∀ p ∈ l,p.lv<=lv/\(p.lv=lv->p.cs.length<=n)) :
 yag l=vac lv ((List.range n).map fun i=>yag (jm lv i l)):=by
 have hk:ut lv ((List.range n).map fun i=>yag (jm lv i l)):=xam fun c hc=>by
  obtain ⟨i,-,rfl⟩:=List.mem_map.1 hc;have h1:=qcs (l:=jm lv i l) (n:=lv - 1) (fun p hp=>⟨(wan h0 hl hp).1,by have:=(wan h0 hl hp).2.1; omega⟩) (by omega) (by omega);exact ⟨by omega,uax _⟩
 obtain ⟨g1,g2,g3⟩:=uay h0 h4 hk;refine Pl.val_uniq (uax _) g1 fun ρ=>?_
 rw [g3,wb4,vax];simp only [vax];clear g1 g2 g3 hk
 induction l with
 | nil =>
   rw [qab,<- va6 (ρ lv) n]
   congr 1
 | cons p l ih =>
   rw [qab,ih (fun q hq=>hl q (by simp [hq])) (fun q hq=>hlv q (by simp [hq]))];have e1:(fun i=>qab ρ (jm lv i (p :: l)))=fun i=>qab ρ (partsOf lv i p)+qab ρ (jm lv i l):=by
    funext i
    unfold jm;rw [List.flatMap_cons,ubo]
   rw [e1,wcp]
   congr 1
   obtain ⟨h1,h2⟩:=hlv p (by simp)
   by_cases he:p.lv=lv
   · have e2:(fun i=>qab ρ (partsOf lv i p))=fun i=>qab ρ (p.cs[i]?).toList:=by
      funext i
      unfold partsOf;rw [if_pos he]
     rw [e2,ucg ρ lv p.cs n (h2 he)];obtain ⟨l',ng,d,cs⟩:=p
     change l'=lv at he
     subst he;exact Pl.mk_val ρ _ _ _ h0 h4
   · obtain ⟨m,rfl⟩:∃ m,n=m+1:=⟨n - 1,by omega⟩;have e2:(fun i=>qab ρ (partsOf lv i p))=fun i=>if i=0 then p.val ρ else 0:=by
      funext i
      unfold partsOf;rw [if_neg he]
      by_cases hi:i=0
      · rw [if_pos ⟨by omega,hi⟩,if_pos hi,qab,qab]; grind
      · rw [if_neg (by omega),if_neg hi,qab]
     rw [e2,hsm];have e3:(fun i=>if i+1=0 then p.val ρ else 0)=fun _:Nat=>(0:Rat):=by
      funext i
      rw [if_neg (by omega)]
     rw [if_pos rfl,e3,va6]
     grind
theorem vb9 {l:List Pl} (hl:∀ p ∈ l,p.Can/\p.lv=0):yag l=Pl.const (yz (l.map Pl.z)):=Pl.val_uniq (uax _) (uae _) fun ρ=>by
 rw [vax,Pl.const_val]
 induction l with
 | nil=>simp [qab,yz]
 | cons p l ih =>
   have h1:=hl p (by simp);rw [qab,ih fun q hq=>hl q (by simp [hq]),List.map_cons,yz];have h2:p.val ρ=(Pl.const p.z).val ρ:=congrArg (fun p=>p.val ρ) (xav h1.1 h1.2);rw [h2,Pl.const_val]
   push_cast
   rfl
theorem jcy {l:List Pl} (hl:∀ p ∈ l,p.Can/\p.lv=0):inr (l.map Pl.z)=lnr l:=by
 induction l with
 | nil=>rfl
 | cons p l ih =>
   have h1:=hl p (by simp);rw [List.map_cons,inr,lnr,ih fun q hq=>hl q (by simp [hq])];have h2:=congrArg Pl.nr (xav h1.1 h1.2);rw [Pl.const_nr] at h2;rw [h2]
end Go.Proofs.YtcfcjabgkfehlaaGreat

/- Rows of integers that a call makes and fills. -/
namespace Go.Proofs.YtcfcjabgkfehlaaGreat
open Go.RowKit
def vao (W:World) (R:Nat) (l:List Int):Prop:=
 R < W.heap.size/\(∀ i,W.frozen? ⟨R,i,none⟩=false)/\∀ i (h:i < l.length),∃ A n c,W.cell? ⟨R,i * 2,none⟩=some (.bool (decide (l[i] < 0)))/\W.cell? ⟨R,i * 2+1,none⟩=some (.slice A n c)/\jb W (.slice A n c) (dg l[i].natAbs)
section
variable {W W':World} {R:Nat} {l:List Int}
theorem vao.ext (h:vao W R l) (hx:Ext W W'):vao W' R l:=by
 obtain ⟨h1,h2,h3⟩:=h;refine ⟨Nat.lt_of_lt_of_le h1 hx.size,fun i=>(hx.frozen (p:=⟨R,i,none⟩) h1).trans (h2 i),fun i hi=>?_⟩;obtain ⟨A,n,c,h4,h5,h6⟩:=h3 i hi;exact ⟨A,n,c,(hx.cell (p:=⟨R,i * 2,none⟩) h1).trans h4,(hx.cell (p:=⟨R,i * 2+1,none⟩) h1).trans h5,h6.ext hx⟩
theorem vao.fin (h:vao W R l) (c:Nat) (h1:l.length<=c) (h2:c<=9223372036854775807):IsV W (.slice (some ⟨R,0,none⟩) l.length c) l:=by
 obtain ⟨h3,-,h4⟩:=h;refine ⟨_,c,rfl,h1,h2,fun k hk=>?_⟩;obtain ⟨A,n,d,h5,h6,h7⟩:=h4 k hk;refine ⟨⟨R,0,none⟩,A,n,d,rfl,h3,?_,?_,h7⟩
 · rw [jq,Nat.zero_add]; exact h5
 · rw [jq,Nat.zero_add]; exact h6
theorem vao.set_ (h:vao W R l) (k:Nat) (hk:k < l.length) (z:Int) {A:Option Addr} {n c:Nat} (hz:jb W (.slice A n c) (dg z.natAbs)) :
 vao ((W.setCell ⟨R,k * 2,none⟩ (.bool (decide (z < 0)))).setCell ⟨R,k * 2+1,none⟩ (.slice A n c)) R (l.set k z):=by
 obtain ⟨h1,h2,h3⟩:=h;obtain ⟨B,m,d,g0,g1,-⟩:=h3 k hk;have q1:(W.setCell ⟨R,k * 2,none⟩ (.bool (decide (z < 0)))).cell? ⟨R,k * 2+1,none⟩=some (.slice B m d):=by rw [World.cell?_setCell_other _ _ _ _ (by intro e; injection e; omega)]; exact g1
 have hnat:∀ v ds,jb W v ds->jb ((W.setCell ⟨R,k * 2,none⟩ (.bool (decide (z < 0)))).setCell ⟨R,k * 2+1,none⟩ (.slice A n c)) v ds:=fun v ds hv=>(hv.box g0 rfl _).box q1 rfl _
 refine ⟨by simpa [World.setCell] using h1,fun i=>by rw [World.frozen?_setCell,World.frozen?_setCell]; exact h2 i,fun i hi=>?_⟩;rw [List.length_set] at hi
 by_cases hik:i=k
 · subst hik;rw [List.getElem_set_self];refine ⟨A,n,c,?_,World.cell?_setCell_same _ _ _ q1,hnat _ _ hz⟩;rw [World.cell?_setCell_other _ _ _ _ (by intro e; injection e; omega)];exact World.cell?_setCell_same _ _ _ g0
 · rw [List.getElem_set_ne (Ne.symm hik)];obtain ⟨C,j,f,h4,h5,h6⟩:=h3 i hi;refine ⟨C,j,f,?_,?_,hnat _ _ h6⟩
   · rw [World.cell?_setCell_other _ _ _ _ (by intro e; injection e; omega),World.cell?_setCell_other _ _ _ _ (by intro e; injection e; omega)]; exact h4
   · rw [World.cell?_setCell_other _ _ _ _ (by intro e; injection e; omega),World.cell?_setCell_other _ _ _ _ (by intro e; injection e; omega)]; exact h5
end
theorem xb7:(Tryz.prog.info? 33).map (fun i=>(i.zero,i.size,i.bytes))=some (some (.agg #[.bool false,.slice none 0 0]),2,32):=by kernel_rfl
theorem yaz (n:Int) (h0:0<=n) (h1:n<=1099511627776) (w:World) :
 ∃ w',(Instr.makeSlice 125 (.int .i64 n) (.int .i64 n)).run Tryz.prog w=.ok (.slice (some ⟨w.heap.size,0,none⟩) n.toNat n.toNat) w'/\Ext w w'/\w'.heap.size=w.heap.size+1/\vao w' w.heap.size (List.replicate n.toNat 0):=by
 obtain ⟨i0,hi,hz0,hz1,hz2⟩:=info_parts xb7;refine ⟨_,run_make w 125 33 i0 _ Tryz.underlying125 hi hz0 .i64 .i64 n n h0 (by omega) (by rw [hz2]; omega) (by omega),(Ext.refl w).alloc _,by simp,⟨by simp,fun i=>by simp [go_sem],fun i hi2=>?_⟩⟩;rw [List.length_replicate] at hi2;have hc:∀ j,j < 2->(w.alloc (.cells (madeCells (Value.agg #[.bool false,.slice none 0 0]).cells (n.toNat * i0.size)) 33)).cell? ⟨w.heap.size,i * 2+j,none⟩=#[Value.bool false,.slice none 0 0][j]?:=by
  intro j hj;have hlt:i * 2+j < n.toNat * 2:=by omega
  have hmod:(i * 2+j) % 2=j:=by omega
  rw [cell_of_row _ _ (i * 2+j) _ _ (0,0) (heap_alloc_new w _)];rw [hz1];unfold madeCells;rw [Array.getElem?_map,Array.getElem?_range,if_pos hlt];show some ((#[Value.bool false,.slice none 0 0]:Array Value)[(i * 2+j) % 2]!)=_;rw [hmod];rcases (show j=0\/j=1 by omega) with rfl | rfl <;> rfl
 rw [List.getElem_replicate];exact ⟨none,0,0,hc 0 (by omega),hc 1 (by omega),by rw [Int.natAbs_zero,jk]; exact jb.nil _⟩
end Go.Proofs.YtcfcjabgkfehlaaGreat

/- Layer 22: recpoly.trim. -/
set_option maxRecDepth 100000
set_option maxHeartbeats 8000000
namespace Go.Proofs.YtcfcjabgkfehlaaGreat
open Go.RowKit
theorem jd.take {w:World} {q:Nat->Prop} {l:List Pl} {A:Option Addr} (h:jd w q l A 0) (n:Nat):jd w q (l.take n) A 0:=by
 refine jd.of _ _ _ fun i hi=>?_
 rw [List.length_take] at hi;obtain ⟨ad,s,K,e,h1,h2,h3,h4⟩:=h.get_ l A 0 i (by omega);refine ⟨ad,s,K,e,h1,h2,?_,?_⟩
 · rw [List.getElem_take]; exact h3
 · rw [List.getElem_take]; exact h4
theorem vbd {w:World} {q:Nat->Prop} (l:Int) (cs:List Pl) (A:Option Addr) (c:Nat) (h:jd w q cs A 0) (hl1:cs.length<=c) (hl2:c<=9223372036854775807) :
 Calls Tryz.prog 105 #[.int .i64 l,.slice A cs.length c] w (qi q (vac l cs) w):=by
 have hh:jd w (fun b=>q b/\b < w.heap.size) cs A 0:=jd.turn (Nat.le_refl _) (fun _ _ h=>h) (fun b hb hq=>⟨⟨hq,hb⟩,rfl⟩) cs A 0 h;have HH:=Lib.hid hh;obtain ⟨W,hW⟩:∃ W,w.alloc (.cells #[.int .i64 0,.bool false,.slice none 0 0,.slice none 0 0] 35)=W:=⟨_,rfl⟩;have hWx:Ext w W:=by rw [<- hW]; exact (Ext.refl w).alloc _
 have hWs:W.heap.size=w.heap.size+1:=by rw [<- hW]; simp
 have hz:ql W w.heap.size:=by rw [<- hW]; exact ql.new w _
 have HWX:=Lib.hid hWx;have HZ:=Lib.hid hz;clear h hh hWx hz;go_enter Tryz.func105,Tryz.ntmps105;go_wp2_with fail;clear hW
 go_loopw [5] (fun nv wr=>∃ n:Nat,n<=cs.length/\nv=.int .i64 n/\Hid (qp cs=qp (cs.take n)/\Ext W wr)) (fun nv _=>(intOf nv).toNat)
 case atStart=>exact ⟨cs.length,Nat.le_refl _,rfl,⟨by rw [List.take_length],Ext.refl W⟩⟩
 case round =>
  obtain ⟨n,hn,rfl,⟨hst,hx⟩⟩:=hrel;have HST:=Lib.hid hst;have HX:=Lib.hid hx;have hws:=hx.size;clear hst hx;cases n with
  | zero =>
    have HT:Hid (vac l cs=Pl.zero):=Lib.hid (by
     rw [ka5 (Nat.zero_le _) (by rw [HST.out]; rfl),if_pos rfl])
    have hzn:=HZ.out.ext HX.out (by omega);have HF:Hid (qi q (vac l cs) w (.returned (plV Pl.zero (.slice none 0 0) (.slice none 0 0))) ((((wr.setCell ⟨w.heap.size,0,none⟩ (.int .i64 0)).setCell ⟨w.heap.size,1,none⟩ (.bool false)).setCell ⟨w.heap.size,2,none⟩ (.slice none 0 0)).setCell ⟨w.heap.size,3,none⟩ (.slice none 0 0))):=by
     rw [HT.out];exact vk (p:=Pl.zero) (q:=fun _=>False) (HWX.out.trans HX.out) (Nat.le_refl _) hzn (Pl.zero_v _ _ none 0 (by omega)) (fun b _ h=>h.elim)
    obtain ⟨⟨z0,z1,z2,z3⟩,zf⟩:=hzn;clear hn;go_wp2_with fail;exact bodyPost_ret (v:=plV Pl.zero (.slice none 0 0) (.slice none 0 0)) (by simp [results,Tryz.results105,go_sem,z0,z1,z2,z3,plV,Pl.zero,Pl.lv,Pl.neg]) rfl HF.out
  | succ n =>
    have hlt:n < cs.length:=by omega
    obtain ⟨ad,C0,j0,g0,C1,j1,g1,rfl,hadb,hnd,hkt⟩:=jd.kid HH.out n hlt;have hxx:=HWX.out.trans HX.out;obtain ⟨a0,a1,a2,a3⟩:=hnd.ext hxx (by rw [ja]; exact hadb);have HIZ:=Lib.hid (zao _ _ (hkt.ext hxx));have hwn:IntKind.i64.wrap (((n+1:Nat):Int) - 1)=(n:Int):=by rw [IntKind.wrap_i64]; omega
    have HTK:Hid (cs.take (n+1)=cs.take n ++ [cs[n]]):=Lib.hid (List.take_succ_eq_append_getElem hlt);have HIZ2:Hid (cs[n].isZ=false->qp cs=cs.take (n+1)):=Lib.hid (fun hz=>by rw [HST.out,HTK.out,yb3 hz]);have HIZ3:Hid (cs[n].isZ=true->qp cs=qp (cs.take n)):=Lib.hid (fun hz=>by rw [HST.out,HTK.out,gbo hz]);have hpos:(0:Int) < ((n+1:Nat):Int):=by omega
    unfold plV at HIZ;generalize cs[n].isZ=bz at *;generalize cs[n]=cn at *;clear hnd hkt hadb;go_wp2_with fail;clear a0 a1 a2 a3;refine HIZ.out.mono ?_;rintro e w2 ⟨rfl,x2⟩;have X2:=Lib.hid (HX.out.trans x2);clear x2 HIZ;cases bz
    · have HS:=Lib.hid (HIZ2.out rfl);have hzn:=HZ.out.ext X2.out (by omega);cases n with
      | zero =>
        have HT:Hid (vac l cs=cs[0]):=Lib.hid (by
         rw [ka5 (show 0+1<=cs.length by omega) HS.out,if_neg (by omega),dif_pos ⟨rfl,hlt⟩])
        obtain ⟨ad',D0,i0,h0,D1,i1,h1,e4,hadb,hnd,hkt⟩:=jd.kid HH.out 0 hlt;injection e4 with e4
        subst e4;have hxx2:=HWX.out.trans X2.out;obtain ⟨a0,a1,a2,a3⟩:=hnd.ext hxx2 (by rw [ja]; exact hadb);have HF:Hid (qi q (vac l cs) w (.returned (plV cs[0] (.slice D0 i0 h0) (.slice D1 i1 h1))) ((((w2.setCell ⟨w.heap.size,0,none⟩ (.int .i64 cs[0].lv)).setCell ⟨w.heap.size,1,none⟩ (.bool cs[0].neg)).setCell ⟨w.heap.size,2,none⟩ (.slice D0 i0 h0)).setCell ⟨w.heap.size,3,none⟩ (.slice D1 i1 h1))):=by
         rw [HT.out];exact vk hxx2 (Nat.le_refl _) hzn (hkt.ext hxx2) (fun b _ hb=>⟨by omega,hb.1⟩)
        rw [show ad.add (0 * 4)=ad by simp [Addr.add]] at a0 a1 a2 a3;have hb1:=hadb;obtain ⟨⟨z0,z1,z2,z3⟩,zf⟩:=hzn;clear hnd hkt hn hwn;generalize cs[0]=c0' at *;go_wp2_with fail;exact bodyPost_ret (v:=plV c0' (.slice D0 i0 h0) (.slice D1 i1 h1)) (by simp [results,Tryz.results105,go_sem,z0,z1,z2,z3,plV]) rfl HF.out
      | succ n =>
        have HT:Hid (vac l cs=.mk l false [] (cs.take (n+2))):=Lib.hid (by
         rw [ka5 (show n+2<=cs.length by omega) HS.out,if_neg (by omega),dif_neg (by omega)])
        have hln:(cs.take (n+2)).length=n+2:=by rw [List.length_take]; omega
        have HF:Hid (qi q (vac l cs) w (.returned (plV (.mk l false [] (cs.take (n+2))) (.slice none 0 0) (.slice (some ad) (n+2) (n+2)))) ((((w2.setCell ⟨w.heap.size,0,none⟩ (.int .i64 l)).setCell ⟨w.heap.size,1,none⟩ (.bool false)).setCell ⟨w.heap.size,2,none⟩ (.slice none 0 0)).setCell ⟨w.heap.size,3,none⟩ (.slice (some ad) (n+2) (n+2)))):=by
         rw [HT.out];have h1:=PlV.mk (t:=.mk l false [] (cs.take (n+2))) (c:=n+2) (jb.nil w2) (by simp only [Pl.cs]; omega) (by omega) ((HH.out.take (n+2)).ext (HWX.out.trans X2.out));rw [show (Pl.mk l false [] (cs.take (n+2))).cs.length=n+2 from hln] at h1;exact vk (p:=.mk l false [] (cs.take (n+2))) (HWX.out.trans X2.out) (Nat.le_refl _) hzn h1 (fun b _ hb=>⟨by omega,hb.1⟩)
        obtain ⟨⟨z0,z1,z2,z3⟩,zf⟩:=hzn;have hn1:((((n+1+1:Nat):Int)) == 0)=false:=by simp; omega
        have hn2:((((n+1+1:Nat):Int)) == 1)=false:=by simp; omega
        clear hwn;go_wp2_with fail;exact bodyPost_ret (v:=plV (.mk l false [] (cs.take (n+2))) (.slice none 0 0) (.slice (some ad) (n+2) (n+2))) (by simp [results,Tryz.results105,go_sem,z0,z1,z2,z3,plV,Pl.lv,Pl.neg]) rfl HF.out
    · have HS:=Lib.hid (HIZ3.out rfl);go_wp2_with fail
      go_roundw
      case rel=>exact ⟨n,by omega,by go_num,⟨HS.out,X2.out⟩⟩
      case measure=>simp [intOf]
end Go.Proofs.YtcfcjabgkfehlaaGreat

/- Layer 22: recpoly.add. -/
set_option maxRecDepth 100000
set_option maxHeartbeats 8000000
namespace Go.Proofs.YtcfcjabgkfehlaaGreat
open Go.RowKit
def wb1 (E D:Nat) (n:Int):Prop:=∀ (l:List Pl) (A:Option Addr) (c:Nat) (w:World),(∀ p ∈ l,p.Can/\p.ex E)->(∀ p ∈ l,p.lv < n)->lnr l < B32 ^ D->l.length<=1000000->l.length<=c->c<=9223372036854775807->jd w (fun _=>True) l A 0 ->
 Calls Tryz.prog 65 #[.slice A l.length c] w (qi (fun b=>w.heap.size<=b) (yag l) w)
theorem vb8 {V W w4:World} {ov:Value} (hx:Ext V W) (hg:W.grownBy w4 ov.ownBlock) (ho:∀ R,ov.ownBlock=some R->V.heap.size<=R):Ext V w4:=
 Below.grown hx hg hx.size ho
theorem wbn {E D:Nat} (hE:E<=1000000) (hD:D<=17592186044000) (n:Int) (ih:∀ m,0 < m->m < n->wb1 E D m):wb1 E D n:=by
 intro l A c w hl hlv hnr hlen hc1 hc2 hat;have hcl:∀ p ∈ l,0<=p.lv/\p.lv<=4/\p.cs.length<=E+1/\(0 < p.lv->2<=p.cs.length):=fun p hp=>by
  obtain ⟨h1,h2⟩:=hl p hp;refine ⟨h1.lv_nonneg.1,h1.lv_nonneg.2,?_,fun h0=>?_⟩
  · obtain ⟨lv,ng,ds,cs⟩:=p;rw [Pl.ex] at h2;rcases h2 with h2 | h2
    · unfold Pl.Can at h1;rcases h1 with h | h
      · simp [Pl.cs,h.2.1]
      · omega
    · exact h2.1
  · obtain ⟨lv,ng,ds,cs⟩:=p;exact (h1.kids h0).2.2.1
 obtain ⟨hts,htp⟩:=vb2 l (E+1) hcl;have HAT:=Lib.hid hat;have HL:=Lib.hid hl;have HLV:=Lib.hid hlv;have HNR:=Lib.hid hnr;have IH:=Lib.hid ih;have HTS:=Lib.hid hts;have HTP:=Lib.hid htp;have HTA:=Lib.hid (xcl l);obtain ⟨W,hW⟩:∃ W,w.alloc (.cells #[.int .i64 0,.bool false,.slice none 0 0,.slice none 0 0] 35)=W:=⟨_,rfl⟩;have hWx:Ext w W:=by rw [<- hW]; exact (Ext.refl w).alloc _
 have hWs:W.heap.size=w.heap.size+1:=by rw [<- hW]; simp
 have hz:ql W w.heap.size:=by rw [<- hW]; exact ql.new w _
 have HWX:=Lib.hid hWx;have HZ:=Lib.hid hz;clear hat hl hlv hnr ih hts htp hWx hz hcl;go_enter Tryz.func65,Tryz.ntmps65;go_wp2_with fail;clear hW
 go_loopw [3,4,17] (fun av bv iv wr=>∃ k:Nat,k<=l.length/\iv=.int .i64 k/\av=.int .i64 (vaf (l.take k)).1/\bv=.int .i64 (vaf (l.take k)).2/\Hid (Ext W wr)) (fun _ _ iv _=>l.length - (intOf iv).toNat)
 case atStart=>exact ⟨0,Nat.zero_le _,rfl,by simp [vaf],by simp [vaf],Ext.refl W⟩
 case round =>
  obtain ⟨k,hk,rfl,rfl,rfl,hx0⟩:=hrel;have hx:Ext W wr:=hx0.out;have HX:=Lib.hid hx;have hws:=hx.size;clear hx0 hx
  by_cases hlt:k < l.length
  · obtain ⟨ad,C0,j0,g0,C1,j1,g1,rfl,hadb,hnd,hkt⟩:=jd.kid HAT.out k hlt;obtain ⟨a0,a1,a2,a3⟩:=hnd.ext (HWX.out.trans HX.out) (by rw [ja]; exact hadb);have hj1:j1=l[k].cs.length:=by
     obtain ⟨A1,n1,c1',A2,c2,e,-⟩:=hkt.open_;unfold plV at e;simp only [Value.agg.injEq,Array.mk.injEq,List.cons.injEq,and_true,true_and,Value.slice.injEq] at e;exact e.2.2.1
    subst hj1;have HST:=Lib.hid (jb2 l k hlt);obtain ⟨U,hU⟩:∃ U,wr.alloc (.cells #[.int .i64 l[k].lv,.bool l[k].neg,.slice C0 j0 g0,.slice C1 l[k].cs.length g1] 35)=U:=⟨_,rfl⟩;have hUx:Ext wr U:=by rw [<- hU]; exact (Ext.refl _).alloc _
    obtain ⟨u0,u1,u2,u3⟩:uf U wr.heap.size l[k] (.slice C0 j0 g0) (.slice C1 l[k].cs.length g1):=by rw [<- hU]; exact uf.new wr l[k] _ _ _
    have XU:=Lib.hid (HX.out.trans hUx);clear hnd hkt hadb hUx;obtain ⟨ta,tb,ht⟩:∃ ta tb,vaf (l.take k)=(ta,tb):=⟨_,_,rfl⟩;rw [ht] at HST ⊢;clear ht;simp only at HST ⊢;generalize l[k]=p at *;rcases Int.lt_trichotomy ta p.lv with h | h | h
    · have HS2:=Lib.hid (HST.out.trans (vbh h));have hmx:max (0:Int) (p.cs.length:Int)=(p.cs.length:Int):=by omega
      go_wp2_with fail
      go_roundw
      case rel=>exact ⟨k+1,by omega,by go_num,by rw [HS2.out],by rw [HS2.out],XU⟩
      case measure=>simp [intOf]; omega
    · have HS2:=Lib.hid (HST.out.trans (ubh (a:=(ta,tb)) h.symm));have hnl:¬ ta < p.lv:=by omega
      have heq:(p.lv == ta)=true:=by simp [h]
      have HMX:Hid (max (tb:Int) (p.cs.length:Int)=((max tb p.cs.length:Nat):Int)):=Lib.hid (by omega);clear h;go_wp2_with fail
      go_roundw
      case rel=>exact ⟨k+1,by omega,by go_num,by rw [HS2.out],by rw [HS2.out]; simp only; rw [HMX.out],XU⟩
      case measure=>simp [intOf]; omega
    · have HS2:=Lib.hid (HST.out.trans (kbh (a:=(ta,tb)) h));have hnl:¬ ta < p.lv:=by omega
      have heq:(p.lv == ta)=false:=by simp; omega
      go_wp2_with fail
      go_roundw
      case rel=>exact ⟨k+1,by omega,by go_num,by rw [HS2.out],by rw [HS2.out],XU⟩
      case measure=>simp [intOf]; omega
  · have hke:k=l.length:=by omega
    rw [hke,List.take_length];obtain ⟨lv,sz,hts⟩:∃ lv sz,vaf l=(lv,sz):=⟨_,_,rfl⟩;rw [hts] at HTS HTP HTA ⊢;simp only at HTS HTP HTA ⊢;obtain ⟨t1,t2,t3,t4⟩:=HTS.out;have HX2:=Lib.hid (HWX.out.trans HX.out);have HZ2:=Lib.hid (HZ.out.ext HX.out (by omega));have hws2:w.heap.size < wr.heap.size:=by omega
    clear hke hts hlt hk HX HWX HZ hws hWs HTS;obtain ⟨w1,rfl⟩:∃ w1,w1=wr:=⟨wr,rfl⟩
    by_cases h0:lv=0
    · have HLZ:Hid (∀ p ∈ l,p.Can/\p.lv=0):=Lib.hid (fun p hp=>⟨(HL.out p hp).1,by have h1:=(HTP.out p hp).1; have h2:=(HL.out p hp).1.lv_nonneg.1; omega⟩);have hlz2:(lv == 0)=true:=by simp [h0]
      have HAL:=Lib.hid (vb9 HLZ.out);have hnr2:inr (l.map Pl.z) < B32 ^ D:=by rw [jcy HLZ.out]; exact HNR.out
      have HN2:=Lib.hid hnr2;obtain ⟨V,hmk,hVx,hVs,hrow⟩:=yaz (l.length:Int) (by omega) (by omega) w1;rw [Int.toNat_natCast] at hmk hrow;have HROW:=Lib.hid hrow;have HVX:=Lib.hid hVx;subst h0;clear hrow hVx hnr2;go_wp2_with fail;clear hmk
      go_loopw [44] (fun iv wx=>∃ k:Nat,k<=l.length/\iv=.int .i64 k/\Hid ((∃ L:List Int,L.length=l.length/\L.take k=(l.map Pl.z).take k/\vao wx w1.heap.size L)/\Ext w1 wx)) (fun iv _=>l.length - (intOf iv).toNat)
      case atStart=>exact ⟨0,Nat.zero_le _,rfl,⟨⟨_,List.length_replicate,by simp,HROW.out⟩,HVX.out⟩⟩
      case round =>
       obtain ⟨k,hk,rfl,⟨⟨L,hLl,hLt,hrow⟩,hx⟩⟩:=hrel;have HX:=Lib.hid hx;have HROWk:=Lib.hid hrow;have HLT:=Lib.hid hLt;have hRlt:w1.heap.size < wr.heap.size:=hrow.1;clear hx hrow hLt HVX HROW
       by_cases hlt:k < l.length
       · obtain ⟨ad,C0,j0,g0,C1,j1,g1,rfl,hadb,hnd,hkt⟩:=jd.kid HAT.out k hlt;obtain ⟨a0,a1,a2,a3⟩:=hnd.ext (HX2.out.trans HX.out) (by rw [ja]; exact hadb);have hcf:=HLZ.out l[k] (List.getElem_mem hlt);have hfl:=xav hcf.1 hcf.2;have hng:l[k].neg=decide (l[k].z < 0):=congrArg Pl.neg hfl;have hds:l[k].ds=dg l[k].z.natAbs:=congrArg Pl.ds hfl;have hnat:jb wr (.slice C0 j0 g0) (dg l[k].z.natAbs):=by
          obtain ⟨A1,n1,c1',A2,c2,e,hn,-⟩:=hkt.open_;unfold plV at e;simp only [Value.agg.injEq,Array.mk.injEq,List.cons.injEq,and_true,true_and] at e;rw [e.1,<- hds];exact hn.ext (HX2.out.trans HX.out)
         have HSET:Hid ((L.set k l[k].z).take (k+1)=(l.map Pl.z).take (k+1)):=by
          have h1:=kae L (l.map Pl.z) k HLT.out (by omega) (by rw [List.length_map]; exact hlt);rw [List.getElem_map] at h1;exact h1
         obtain ⟨U,hU⟩:∃ U,wr.alloc (.cells #[.int .i64 l[k].lv,.bool (decide (l[k].z < 0)),.slice C0 j0 g0,.slice C1 j1 g1] 35)=U:=⟨_,rfl⟩;have hUx:Ext wr U:=by rw [<- hU]; exact (Ext.refl _).alloc _
         have u1:U.cell? ⟨wr.heap.size,1,none⟩=some (.bool (decide (l[k].z < 0))):=by rw [<- hU]; simp [go_sem]
         have u2:U.cell? ⟨wr.heap.size,2,none⟩=some (.slice C0 j0 g0):=by rw [<- hU]; simp [go_sem]
         have hru:=HROWk.out.ext hUx;have HST:=Lib.hid (hru.set_ k (by omega) l[k].z (hnat.ext hUx));have XU:=Lib.hid (HX.out.trans hUx);obtain ⟨D0,n2,d2,r0,r1,-⟩:=hru.2.2 k (by omega);have hfr:=hru.2.1;rw [hng] at a1;clear hnd hkt hadb hcf hfl hng hds hnat hru hUx HLT HROWk;generalize l[k].z=z at *;generalize l[k]=p at *;go_wp2_with fail
         go_roundw
         case rel=>exact ⟨k+1,by omega,by go_num,⟨_,by rw [List.length_set]; exact hLl,HSET.out,HST.out⟩,(XU.out.setCell (Nat.le_refl _) _).setCell (Nat.le_refl _) _⟩
         case measure=>simp [intOf]; omega
       · have hke:k=l.length:=by omega
         have hLe:L=l.map Pl.z:=by
          have h:=HLT.out;rw [hke,show l.length=(l.map Pl.z).length by rw [List.length_map],List.take_length,List.length_map,<- hLl,List.take_length] at h;exact h
         have hfin:=HROWk.out.fin l.length (by omega) (by omega);rw [hLe,List.length_map] at hfin;have HSU:=Lib.hid (qcl hfin HN2.out hD);have HZ3:=Lib.hid (HZ2.out.ext HX.out hws2);clear hfin HROWk HLT hLe hke;go_wp2_with fail;refine HSU.out.mono ?_;rintro e w2 ⟨z2,rfl,⟨y2,rfl,m2⟩,x2⟩;obtain ⟨C2,k2,rfl,-⟩:=id m2;have hzn:=HZ3.out.ext x2 (by omega);have HF:Hid (qi (fun b=>w.heap.size<=b) (yag l) w (.returned (plV (Pl.const (yz (l.map Pl.z))) (.slice C2 (dg (yz (l.map Pl.z)).natAbs).length k2) (.slice none 0 0))) ((((w2.setCell ⟨w.heap.size,0,none⟩ (.int .i64 0)).setCell ⟨w.heap.size,1,none⟩ (.bool (decide (yz (l.map Pl.z) < 0)))).setCell ⟨w.heap.size,2,none⟩ (.slice C2 (dg (yz (l.map Pl.z)).natAbs).length k2)).setCell ⟨w.heap.size,3,none⟩ (.slice none 0 0))):=by
          rw [HAL.out];exact vk (p:=Pl.const (yz (l.map Pl.z))) (q:=fun _=>False) ((HX2.out.trans HX.out).trans x2) (Nat.le_refl _) hzn (PlV.mk (t:=Pl.const (yz (l.map Pl.z))) (A:=none) (c:=0) m2 (Nat.le_refl _) (by omega) (by unfold Pl.const Pl.cs jd; trivial)) (fun b _ h=>h.elim)
         obtain ⟨⟨z0,z1,z2',z3⟩,zf⟩:=hzn;clear x2 m2 HSU;generalize yz (l.map Pl.z)=S at *;go_wp2_with fail;exact bodyPost_ret (v:=plV (Pl.const S) (.slice C2 (dg S.natAbs).length k2) (.slice none 0 0)) (by simp [results,Tryz.results65,go_sem,z0,z1,z2',z3,plV,Pl.const,Pl.lv,Pl.neg]) rfl HF.out
    · have hlz2:(lv == 0)=false:=by simp [h0]
      have hpos:0 < lv:=by omega
      have hlvn:lv < n:=by
       obtain ⟨p,hp,e⟩:=HTA.out hpos;have:=HLV.out p hp;omega
      have hsz1:1<=sz:=by have:=t4 hpos; omega
      have HLE:=Lib.hid (gb0 hpos t2 hsz1 HL.out HTP.out);obtain ⟨V,hmk,hVx,hVs,hrow⟩:=jal (sz:Int) (by omega) (by omega) w1;rw [Int.toNat_natCast] at hmk hrow;have HROW:=Lib.hid (hrow (fun i=>w1.heap.size<=i));have HVX:=Lib.hid hVx;have HH:=Lib.hid h0;have HLN:=Lib.hid hlvn;have hatl:jd w (fun b=>b < w.heap.size) l A 0:=jd.turn (Nat.le_refl _) (fun _ _ h=>h) (fun b hb _=>⟨hb,rfl⟩) l A 0 HAT.out;have HATL:=Lib.hid hatl;clear hrow hVx h0 hlvn hatl;go_wp2_with fail;clear hmk
      go_loopw [62] (fun iv wx=>∃ i:Nat,i<=sz/\iv=.int .i64 i/\Hid ((∃ L:List Pl,L.length=sz/\L.take i=((List.range sz).map fun i=>yag (jm lv i l)).take i/\qal wx (fun b=>w1.heap.size<=b) w1.heap.size L)/\Ext w1 wx)) (fun iv _=>sz - (intOf iv).toNat)
      case atStart=>exact ⟨0,Nat.zero_le _,rfl,⟨⟨_,List.length_replicate,by simp,HROW.out⟩,HVX.out⟩⟩
      case round =>
       obtain ⟨i,hi,rfl,⟨⟨L,hLl,hLt,hrow⟩,hx⟩⟩:=hrel;have HX:=Lib.hid hx;have HROWk:=Lib.hid hrow;have HLT:=Lib.hid hLt;have hRlt:w1.heap.size < wr.heap.size:=hrow.1;clear hx hrow hLt HVX HROW;obtain ⟨w2,rfl⟩:∃ w2,w2=wr:=⟨wr,rfl⟩
       by_cases hlt:i < sz
       · have HX3:=Lib.hid (HX2.out.trans HX.out);have hws3:w.heap.size<=w2.heap.size:=HX3.out.size;go_wp2_with fail
         go_loopw [12,67] (fun pv kv wx=>∃ k:Nat,k<=l.length/\kv=.int .i64 k/\Hid (kz w2.heap.size (fun b=>b < w2.heap.size) wx pv (jm lv i (l.take k))/\Ext w2 wx)) (fun _ kv _=>l.length - (intOf kv).toNat)
         case atStart=>exact ⟨0,Nat.zero_le _,rfl,⟨by simpa [jm] using kz.nil _ _ _,Ext.refl _⟩⟩
         case round =>
          obtain ⟨k,hk,rfl,⟨hq,hx⟩⟩:=hrel;have HQ:=Lib.hid hq;have HXI:=Lib.hid hx;have hws4:=hx.size;obtain ⟨PA,pc,rfl,hp1,hp2⟩:=hq.len;have hpl:=wa7 lv i (l.take k);rw [List.length_take] at hpl;clear hx hq
          by_cases hltk:k < l.length
          · obtain ⟨ad,C0,j0,g0,C1,j1,g1,rfl,hadb,hnd,hkt⟩:=jd.kid HATL.out k hltk;have hxx:=HX3.out.trans HXI.out;obtain ⟨a0,a1,a2,a3⟩:=hnd.ext hxx (by rw [ja]; exact hadb);have hj1:j1=l[k].cs.length:=by
             obtain ⟨A1,n1,c1',A2,c2,e,-⟩:=hkt.open_;unfold plV at e;simp only [Value.agg.injEq,Array.mk.injEq,List.cons.injEq,and_true,true_and,Value.slice.injEq] at e;exact e.2.2.1
            subst hj1;have HTK:=Lib.hid (kbq lv i l k hltk);have hple:=(HTP.out l[k] (List.getElem_mem hltk)).1;obtain ⟨U,hU⟩:∃ U,wr.alloc (.cells #[.int .i64 l[k].lv,.bool l[k].neg,.slice C0 j0 g0,.slice C1 l[k].cs.length g1] 35)=U:=⟨_,rfl⟩;have hUx:Ext wr U:=by rw [<- hU]; exact (Ext.refl _).alloc _
            obtain ⟨u0,u1,u2,u3⟩:uf U wr.heap.size l[k] (.slice C0 j0 g0) (.slice C1 l[k].cs.length g1):=by rw [<- hU]; exact uf.new wr l[k] _ _ _
            have XU:=Lib.hid (HXI.out.trans hUx);have HKT:=Lib.hid (hkt.ext (hxx.trans hUx));have HQU:=Lib.hid (HQ.out.ext hUx);have hUs:=hUx.size;have HPUSH:Hid (∀ (x:Pl) (E0 E1:Option Addr) (q0 r0 q1 r1:Nat),PlV U (fun b=>b < w.heap.size) x (plV x (.slice E0 q0 r0) (.slice E1 q1 r1))->partsOf lv i l[k]=[x]->∃ v4 w4,(Builtin.append_ #[24,24] 24 #[.slice PA (jm lv i (l.take k)).length pc,.slice (some ⟨U.heap.size,0,none⟩) 1 1]).run Tryz.prog (U.alloc (.cells #[.int .i64 x.lv,.bool x.neg,.slice E0 q0 r0,.slice E1 q1 r1] 35))=.ok v4 w4/\kz w2.heap.size (fun b=>b < w2.heap.size) w4 v4 (jm lv i (l.take (k+1)))/\Ext w2 w4):=by
             refine Lib.hid ?_;intro x E0 E1 q0 r0 q1 r1 hxv hpo;obtain ⟨v4,w4,hrun,g4,n4,r4,o4⟩:=HQU.out.push (by have:=XU.out.size; omega) (hxv.mono fun b hb=>⟨fun e=>by have:=(HQU.out.own e).1; omega,by omega⟩) (by omega) 24;exact ⟨v4,w4,hrun,by rw [HTK.out,hpo]; exact r4,vb8 XU.out g4 (fun R hR=>(HQU.out.own hR).1)⟩
            clear hnd hUx HQ
            by_cases he:l[k].lv=lv
            · have heq:(l[k].lv == lv)=true:=by simp [he]
              by_cases hic:i < l[k].cs.length
              · have hpo:partsOf lv i l[k]=[l[k].cs[i]]:=by unfold partsOf; rw [if_pos he,List.getElem?_eq_getElem hic]; rfl
                obtain ⟨A1,n1,c1',A2,c2,e,-,-,-,hat2⟩:=HKT.out.open_;unfold plV at e;simp only [Value.agg.injEq,Array.mk.injEq,List.cons.injEq,and_true,true_and,Value.slice.injEq] at e;obtain ⟨-,rfl,rfl⟩:=e;obtain ⟨ad2,D0,i0,h0',D1,i1,h1',rfl,hadb2,hnd2,hkt2⟩:=jd.kid hat2 i hic;obtain ⟨v0,v1,v2,v3⟩:=hnd2;obtain ⟨v4,w4,hrun,r4,x4⟩:=HPUSH.out _ _ _ _ _ _ _ hkt2 hpo;obtain ⟨TB,Td,rfl,-,-⟩:=r4.len;have HN:=Lib.hid r4;have HX4:=Lib.hid x4;have HRUN:=Lib.hid hrun;clear hpo hat2 hkt2 r4 x4 HPUSH hkt he hrun;generalize l[k].cs[i]=pk at *;generalize l[k]=p at *;go_upto_region 27 with fail
                iterate 30 (first | at_builtin | go_values | go_skip | go_guarded | go_step | go_upon | go_back | go_simp)
                refine wpList_append_run rfl (.tmp 83) (.tmp 89) _ _ rfl _ _ _ _ rfl rfl HRUN.out ?_;clear HRUN HTK HQU HKT hU
                iterate 18 (first | go_values | go_skip | go_guarded | go_step | go_upon | go_back | go_simp)
                exact ⟨⟨k+1,by omega,by omega,⟨HN.out,HX4.out⟩⟩,by simp [intOf]; omega⟩
              · have hpo:partsOf lv i l[k]=[]:=by unfold partsOf; rw [if_pos he,List.getElem?_eq_none (by omega)]; rfl
                have HN:Hid (kz w2.heap.size (fun b=>b < w2.heap.size) U (.slice PA (jm lv i (l.take k)).length pc) (jm lv i (l.take (k+1)))):=Lib.hid (by rw [HTK.out,hpo,List.append_nil]; exact HQU.out);have hnl:¬ l[k].lv < lv:=by omega
                clear hpo HPUSH hkt he;generalize l[k]=p at *;go_wp2_with fail
                go_roundw
                case rel=>exact ⟨k+1,by omega,by go_num,⟨HN.out,XU.out⟩⟩
                case measure=>simp [intOf]; omega
            · have heq:(l[k].lv == lv)=false:=by simp [he]
              have hnl:l[k].lv < lv:=by omega
              by_cases hi0:i=0
              · have hpo:partsOf lv i l[k]=[l[k]]:=by unfold partsOf; rw [if_neg he,if_pos ⟨hnl,hi0⟩]
                obtain ⟨v4,w4,hrun,r4,x4⟩:=HPUSH.out _ _ _ _ _ _ _ HKT.out hpo;obtain ⟨TB,Td,rfl,-,-⟩:=r4.len;have HN:=Lib.hid r4;have HX4:=Lib.hid x4;have HRUN:=Lib.hid hrun;have hi02:((i:Int) == 0)=true:=by simp [hi0]
                clear hpo r4 x4 HPUSH hkt he hrun hi0;generalize l[k]=p at *;go_upto_region 29 with fail
                iterate 30 (first | at_builtin | go_values | go_skip | go_guarded | go_step | go_upon | go_back | go_simp)
                refine wpList_append_run rfl (.tmp 100) (.tmp 102) _ _ rfl _ _ _ _ rfl rfl HRUN.out ?_;clear HRUN HTK HQU HKT hU
                iterate 18 (first | go_values | go_skip | go_guarded | go_step | go_upon | go_back | go_simp)
                exact ⟨⟨k+1,by omega,by omega,⟨HN.out,HX4.out⟩⟩,by simp [intOf]; omega⟩
              · have hpo:partsOf lv i l[k]=[]:=by unfold partsOf; rw [if_neg he,if_neg (by omega)]
                have HN:Hid (kz w2.heap.size (fun b=>b < w2.heap.size) U (.slice PA (jm lv i (l.take k)).length pc) (jm lv i (l.take (k+1)))):=Lib.hid (by rw [HTK.out,hpo,List.append_nil]; exact HQU.out);have hi02:((i:Int) == 0)=false:=by simp [hi0]
                clear hpo HPUSH hkt he;generalize l[k]=p at *;go_wp2_with fail
                go_roundw
                case rel=>exact ⟨k+1,by omega,by go_num,⟨HN.out,XU.out⟩⟩
                case measure=>simp [intOf]; omega
          · have hke:k=l.length:=by omega
            have hq2:=HQ.out;rw [hke,List.take_length] at hq2 hp1;have hat3:jd wr (fun _=>True) (jm lv i l) PA 0:=jd.turn (Nat.le_refl _) (fun _ _ h=>h) (fun b _ _=>⟨trivial,rfl⟩) _ _ _ hq2.at_;have HC:=Lib.hid (IH.out lv hpos HLN.out (jm lv i l) PA pc wr (fun p hp=>⟨(wan hpos HL.out hp).1,(wan hpos HL.out hp).2.2⟩) (fun p hp=>(wan hpos HL.out hp).2.1) (Nat.lt_of_le_of_lt (wb5 hpos HL.out) HNR.out) (by have:=wa7 lv i l; omega) hp1 hp2 hat3);rw [hke,List.take_length];have HSET:Hid ((L.set i (yag (jm lv i l))).take (i+1)=((List.range sz).map fun i=>yag (jm lv i l)).take (i+1)):=by
             have h1:=kae L ((List.range sz).map fun i=>yag (jm lv i l)) i HLT.out (by omega) (by rw [List.length_map,List.length_range]; exact hlt);rw [List.getElem_map,List.getElem_range] at h1;exact h1
            have hltk2:¬ (l.length:Int) < (l.length:Int):=by omega
            have HRW:=Lib.hid (HROWk.out.ext HXI.out);clear hq2 hat3 hke hltk hp1 hpl HQ HROWk HLT hk;generalize (jm lv i l).length=pn at *;generalize yag (jm lv i l)=res at *;go_wp2_with fail;refine HC.out.mono ?_;rintro e w3 ⟨v3,rfl,p3,x3⟩;obtain ⟨C0,j0,f0,C1,f1,rfl,-⟩:=id p3.open_;have hr3:=HRW.out.ext x3;obtain ⟨D0,n2,g0,D1,n3,g1,⟨r0,r1,r2,r3⟩,-⟩:=hr3.2.2 i (by omega);have hfr:=hr3.2.1;have hst:=(hr3.set_ i (by omega) res (p3.mono fun b hb=>by
             have hb':wr.heap.size<=b:=hb
             exact ⟨by omega,by omega⟩)).1
            simp only at r0 r1 r2 r3;have HST:=Lib.hid hst;have X3:=Lib.hid ((HX.out.trans HXI.out).trans x3);unfold plV;clear hr3 hst p3 x3 HC HRW;go_wp2_with fail
            go_roundw
            case rel=>exact ⟨i+1,by omega,by go_num,⟨_,by rw [List.length_set]; exact hLl,HSET.out,HST.out⟩,(((X3.out.setCell (Nat.le_refl _) _).setCell (Nat.le_refl _) _).setCell (Nat.le_refl _) _).setCell (Nat.le_refl _) _⟩
            case measure=>simp [intOf]; omega
       · have hie:i=sz:=by omega
         have hLe:L=(List.range sz).map fun i=>yag (jm lv i l):=by
          have h:=HLT.out;rw [hie,List.take_of_length_le (by omega),List.take_of_length_le (by simp)] at h;exact h
         have hfin:=HROWk.out.fin (Nat.le_refl _);have htr:=vbd lv L _ sz hfin (by omega) (by omega);rw [hLl,hLe,<- HLE.out] at htr;have HTR:=Lib.hid htr;have hz4:=HZ2.out.ext HX.out hws2;have HZ4:=Lib.hid hz4;have hws5:=HX.out.size;clear hfin htr hie hLe HROWk HLT hz4;obtain ⟨res,hres⟩:∃ res,yag l=res:=⟨_,rfl⟩;rw [hres] at HTR;have HRS:=Lib.hid hres;clear hres;go_wp2_with fail;refine HTR.out.mono ?_;rintro e w3 ⟨v3,rfl,p3,x3⟩;obtain ⟨C0,j0,f0,C1,f1,rfl,-⟩:=id p3.open_;have hzn:=HZ4.out.ext x3 (by omega);have hcl:=vk (q':=fun b=>w.heap.size<=b) ((HX2.out.trans HX.out).trans x3) (Nat.le_refl _) hzn p3 (fun b _ hb=>⟨by omega,by omega⟩);have hcl2:=hcl;have HF:Hid (qi (fun b=>w.heap.size<=b) (yag l) w (.returned (plV res (.slice C0 j0 f0) (.slice C1 res.cs.length f1))) ((((w3.setCell ⟨w.heap.size,0,none⟩ (.int .i64 res.lv)).setCell ⟨w.heap.size,1,none⟩ (.bool res.neg)).setCell ⟨w.heap.size,2,none⟩ (.slice C0 j0 f0)).setCell ⟨w.heap.size,3,none⟩ (.slice C1 res.cs.length f1))):=by
          rw [HRS.out];exact hcl2
         clear hcl2;clear hcl;obtain ⟨⟨z0,z1,z2,z3⟩,zf⟩:=hzn;clear x3 p3 HTR;unfold plV;go_wp2_with fail;exact bodyPost_ret (v:=plV res (.slice C0 j0 f0) (.slice C1 res.cs.length f1)) (by simp [results,Tryz.results65,go_sem,z0,z1,z2,z3,plV]) rfl HF.out
theorem ucw {E D:Nat} (hE:E<=1000000) (hD:D<=17592186044000) (k:Nat):∀ n:Int,n<=k->wb1 E D n:=by
 induction k with
 | zero=>exact fun n hn=>wbn hE hD n fun m h0 hm=>by omega
 | succ k ih=>exact fun n hn=>wbn hE hD n fun m h0 hm=>ih m (by omega)
theorem xcs {w:World} {q:Nat->Prop} {E D:Nat} (l:List Pl) (A:Option Addr) (c:Nat) (hE:E<=1000000) (hD:D<=17592186044000) (hl:∀ p ∈ l,p.Can/\p.ex E) (hn:lnr l < B32 ^ D) (hlen:l.length<=1000000) (hc1:l.length<=c) (hc2:c<=9223372036854775807) (h:jd w q l A 0) :
 Calls Tryz.prog 65 #[.slice A l.length c] w (qi (fun b=>w.heap.size<=b) (yag l) w):=
 ucw hE hD 5 5 (by omega) l A c w hl (fun p hp=>by have:=(hl p hp).1.lv_nonneg.2; omega) hn hlen hc1 hc2 (jd.turn (Nat.le_refl _) (fun _ _ h=>h) (fun b _ _=>⟨trivial,rfl⟩) l A 0 h)
end Go.Proofs.YtcfcjabgkfehlaaGreat

/- Layer 22: recpoly.add of two. -/
namespace Go.Proofs.YtcfcjabgkfehlaaGreat
open Go.RowKit
theorem Fit.copy {p:Pl} {E D:Nat} (h:Fit p E D) (hE:E<=1000):p.sz<=1099511627776:=Nat.le_trans h.sz (Nat.le_trans (Nat.pow_le_pow_left (show E+2<=1002 by omega) 4) (by decide))
theorem vcm {w:World} {qa qb:Nat->Prop} {p q:Pl} {A0 A1 B0 B1:Option Addr} {n0 c0 c1 m0 d0 d1:Nat} (hp:PlV w qa p (plV p (.slice A0 n0 c0) (.slice A1 p.cs.length c1))) (hq:PlV w qb q (plV q (.slice B0 m0 d0) (.slice B1 q.cs.length d1))) (T:TypeId) :
 jd (w.alloc (.cells #[.int .i64 p.lv,.bool p.neg,.slice A0 n0 c0,.slice A1 p.cs.length c1,.int .i64 q.lv,.bool q.neg,.slice B0 m0 d0,.slice B1 q.cs.length d1] T)) (fun _=>True) [p,q] (some ⟨w.heap.size,0,none⟩) 0:=by
 refine ⟨⟨⟨w.heap.size,0,none⟩,_,_,rfl,by simp,trivial,?_,(hp.ext ((Ext.refl w).alloc _)).mono fun _ _=>trivial⟩,⟨⟨w.heap.size,0,none⟩,_,_,rfl,by simp,trivial,?_,(hq.ext ((Ext.refl w).alloc _)).mono fun _ _=>trivial⟩,trivial⟩
 · refine ⟨?_,?_,?_,?_⟩ <;> simp [go_sem,jq]
 · refine ⟨?_,?_,?_,?_⟩ <;> simp [go_sem,jq]
theorem zcs {w:World} {qa:Nat->Prop} {p q:Pl} {A:Option Addr} {c E D:Nat} (hp:Fit p E D) (hq:Fit q E D) (hE:E<=1000000) (hD:D+1<=17592186044000) (hc1:2<=c) (hc2:c<=9223372036854775807) (h:jd w qa [p,q] A 0) :
 Calls Tryz.prog 65 #[.slice A 2 c] w (qi (fun b=>w.heap.size<=b) (p.add q) w):=by
 have h1:=xcs (E:=E) (D:=D+1) [p,q] A c hE hD (fun x hx=>by
  simp only [List.mem_cons,List.not_mem_nil,or_false] at hx;rcases hx with rfl | rfl
  · exact ⟨hp.can,hp.ex⟩
  · exact ⟨hq.can,hq.ex⟩) (by
  have:=hp.nr; have:=hq.nr;rw [lnr,lnr,lnr,Nat.pow_succ];have:2<=B32:=by decide
  have:=Nat.mul_le_mul_left (B32 ^ D) this
  omega) (by simp) hc1 hc2 h
 rw [ucj] at h1;exact h1
end Go.Proofs.YtcfcjabgkfehlaaGreat

/- One operation of a region taken first: its side conditions by themselves. -/
namespace Go.Proofs.YtcfcjabgkfehlaaGreat
theorem tk {P : Program} {ops : Array Oper} {Q : Exit -> Act -> World -> Prop} {md : Region.Mode} {S : World -> Prop} {oi : Oper} {v : Value} {fuel : Nat} {listed l' : Array Bool} {a a' : Act} {w : World} (i : Nat) (h : wpAnyH P md ops Q S fuel l' a' w) (hi : ops[i]? = some oi := by rfl) (hs : Region.noSelect ops = true := by kernel_rfl) (hf : Region.free md ops listed i = true := by kernel_rfl) (hr : (Region.ready md ops listed).contains i = true := by kernel_rfl)
 (hy:YieldsIf P ops S oi v a:=by (first | exact Or.inl ⟨by rfl,by intro w' hSw; (try dsimp only at hSw); go_simp; (try (with_reducible rfl))⟩ | exact Or.inr ⟨by rfl,rfl⟩)) (hS:S w:=by assumption)
 (ha:a.put oi.dst v=a':=by ((try simp only [Act.put,List.getElem_toArray,List.getElem_cons_zero,List.getElem_cons_succ,List.setIfInBounds_toArray,List.set_cons_zero,List.set_cons_succ]) <;> rfl))
 (hl:listed.setIfInBounds i true=l':=by ((try simp only [List.setIfInBounds_toArray,List.set_cons_zero,List.set_cons_succ]) <;> rfl)) (hq:∀ c a w,Q (.panic c) (a.put oi.dst v) w->Q (.panic c) a w:=by exact fun _ _ _ h=>h):wpAnyH P md ops Q S (fuel+1) listed a w:=
 wpAnyH_take hi hs hf hr hq hy hS (by rw [ha,hl]; exact h)
end Go.Proofs.YtcfcjabgkfehlaaGreat
