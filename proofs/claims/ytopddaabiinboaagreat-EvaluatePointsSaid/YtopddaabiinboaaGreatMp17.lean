/- Layer 4: integer.Sum; rows of integers. -/
import Derived.Test.YtopddaabiinboaaGreatMp5
import Derived.Test.YtopddaabiinboaaGreatMp16
import Derived.Test.YtopddaabiinboaaGreatMp10
import Derived.Test.YtopddaabiinboaaGreatMp14
import Derived.Test.YtopddaabiinboaaGreatMp9
set_option linter.unusedSimpArgs false
set_option linter.unusedVariables false

set_option maxRecDepth 100000
set_option maxHeartbeats 8000000
namespace Go.Proofs.YtopddaabiinboaaGreat
open Go.RowKit
def qda : List Int -> Int
 | []=>0
 | z :: r=>z+qda r
def inr : List Int -> Nat
 | []=>0
 | z :: r=>z.natAbs+inr r
theorem zh3 (a b:List Int):qda (a ++ b)=qda a+qda b:=by
 induction a with
 | nil=>simp [qda]
 | cons x a ih=>rw [List.cons_append,qda,qda,ih]; omega
theorem xij (l:List Int) (k:Nat) (h:k < l.length):qda (l.take (k+1))=qda (l.take k)+l[k]:=by
 rw [List.take_succ_eq_append_getElem h,zh3]; simp [qda]
theorem zis (l:List Int) (k:Nat):(qda (l.take k)).natAbs<=inr l:=by
 induction l generalizing k with
 | nil=>simp [qda,inr]
 | cons x l ih =>
   cases k with
   | zero=>simp [qda]
   | succ k =>
     rw [List.take_succ_cons,qda,inr];have:=ih k;omega
theorem vi2 {l:List Int} {z:Int} (h:z ∈ l):z.natAbs<=inr l:=by
 induction l with
 | nil=>cases h
 | cons x l ih =>
   rw [inr];rcases List.mem_cons.1 h with rfl | h
   · omega
   · have:=ih h; omega
def IsV (w:World) (v:Value) (zs:List Int):Prop:=
 ∃ A c,v=.slice A zs.length c/\zs.length<=c/\c<=9223372036854775807/\∀ k (h:k < zs.length),∃ ad B n d,A=some ad/\ad.block < w.heap.size/\w.cell? (ad.add (k * 2))=some (.bool (decide (zs[k] < 0)))/\w.cell? ⟨(ad.add (k * 2)).block,(ad.add (k * 2)).off+1,none⟩=some (.slice B n d)/\vc2 w (.slice B n d) (dg zs[k].natAbs)
theorem IsV.ext {w w':World} {v:Value} {l:List Int} (h:IsV w v l) (hx:Ext w w'):IsV w' v l:=by
 obtain ⟨A,c,rfl,h1,h2,h3⟩:=h;refine ⟨A,c,rfl,h1,h2,fun k hk=>?_⟩;obtain ⟨ad,B,n,d,rfl,h4,h5,h6,h7⟩:=h3 k hk;have hb:(ad.add (k * 2)).block < w.heap.size:=by rw [uc2]; exact h4
 exact ⟨ad,B,n,d,rfl,Nat.lt_of_lt_of_le h4 hx.size,(hx.cell hb).trans h5,(hx.cell (p:=⟨(ad.add (k * 2)).block,(ad.add (k * 2)).off+1,none⟩) hb).trans h6,h7.ext hx⟩
def jg0 (w:World) (g:Nat) (z:Int):Prop:=(∃ A n c,w.cell? ⟨g,0,none⟩=some (.bool (decide (z < 0)))/\w.cell? ⟨g,1,none⟩=some (.slice A n c)/\vc2 w (.slice A n c) (dg z.natAbs))/\∀ i,w.frozen? ⟨g,i,none⟩=false
theorem jg0.ext {w w':World} {g:Nat} {z:Int} (h:jg0 w g z) (hx:Ext w w') (hg:g < w.heap.size):jg0 w' g z:=by
 obtain ⟨⟨A,n,c,h1,h2,h3⟩,h4⟩:=h;exact ⟨⟨A,n,c,(hx.cell (p:=⟨g,0,none⟩) hg).trans h1,(hx.cell (p:=⟨g,1,none⟩) hg).trans h2,h3.ext hx⟩,fun i=>(hx.frozen (p:=⟨g,i,none⟩) hg).trans (h4 i)⟩
theorem jg0.set {w:World} {g:Nat} {z y:Int} {A:Option Addr} {n c:Nat} (h:jg0 w g z) (hy:vc2 w (.slice A n c) (dg y.natAbs)):jg0 ((w.setCell ⟨g,0,none⟩ (.bool (decide (y < 0)))).setCell ⟨g,1,none⟩ (.slice A n c)) g y:=by
 obtain ⟨⟨B,m,d,h1,h2,-⟩,h4⟩:=h;have e1:(w.setCell ⟨g,0,none⟩ (.bool (decide (y < 0)))).cell? ⟨g,1,none⟩=some (.slice B m d):=by rw [World.cell?_setCell_other _ _ _ _ (by simp)]; exact h2
 refine ⟨⟨A,n,c,?_,World.cell?_setCell_same _ _ _ e1,(hy.box h1 rfl _).box e1 rfl _⟩,fun i=>?_⟩
 · rw [World.cell?_setCell_other _ _ _ _ (by simp)]; exact World.cell?_setCell_same _ _ _ h1
 · rw [World.frozen?_setCell,World.frozen?_setCell]; exact h4 i
theorem ziy {w:World} {v:Value} {zs:List Int} {D:Nat} (h:IsV w v zs) (hn:inr zs < B32 ^ D) (hD:D<=17592186044000):Calls Tryz.prog 50 #[v] w (vdh (qda zs) w):=by
 have HH:=Lib.hid h;obtain ⟨A,c,rfl,h1,h2,-⟩:=h;have HL:Hid (∀ k,(dg (qda (zs.take k)).natAbs).length<=D):=Lib.hid (fun k=>zc4 (Nat.lt_of_le_of_lt (zis zs k) hn));have HZ:Hid (∀ k (hk:k < zs.length),(dg zs[k].natAbs).length<=D):=Lib.hid (fun k hk=>zc4 (Nat.lt_of_le_of_lt (vi2 (List.getElem_mem hk)) hn));clear hn;obtain ⟨W,hW⟩:=n_m ((w.alloc (.cells #[.bool false,.slice none 0 0] 27)).alloc (.cells #[.bool false,.slice none 0 0] 27));have hWx:Ext w W:=by rw [<- hW]; exact ((Ext.refl w).alloc _).alloc _
 have hWs:W.heap.size=w.heap.size+1+1:=by rw [<- hW]; simp
 have hb1:jg0 W w.heap.size 0:=by
  rw [<- hW];refine ⟨⟨none,0,0,by simp [go_sem],by simp [go_sem],by rw [Int.natAbs_zero,uc5]; exact vc2.nil _⟩,fun i=>by simp [go_sem]⟩
 have hb2:jg0 W (w.heap.size+1) 0:=by
  rw [<- hW];refine ⟨⟨none,0,0,by simp [go_sem],by simp [go_sem],by rw [Int.natAbs_zero,uc5]; exact vc2.nil _⟩,fun i=>by simp [go_sem]⟩
 have HWX:=Lib.hid hWx;have HB1:=Lib.hid hb1;have HB2:=Lib.hid hb2;have HW:=Lib.hid hW;clear hWx hb1 hb2 hW;go_enter Tryz.func50,Tryz.ntmps50;go_wp2_with fail;rw [HW.out];clear HW
 go_loopw [9] (fun iv wr=>∃ k:Nat,k<=zs.length/\iv=.int .i64 k/\Hid (Ext w wr/\W.heap.size<=wr.heap.size/\jg0 wr w.heap.size 0/\jg0 wr (w.heap.size+1) (qda (zs.take k)))) (fun iv _=>zs.length - (intOf iv).toNat)
 case atStart=>exact ⟨0,Nat.zero_le _,rfl,⟨HWX.out,Nat.le_refl _,HB1.out,HB2.out⟩⟩
 case round =>
  obtain ⟨k,hk,rfl,⟨hx,hws,hi1,hi2⟩⟩:=hrel;have HX:=Lib.hid hx;have HI1:=Lib.hid hi1;have HI2:=Lib.hid hi2;clear hx hi1
  by_cases hlt:k < zs.length
  · obtain ⟨A',c',e',-,-,h3⟩:=HH.out.ext HX.out;injection e' with e1 e2 e3
    obtain ⟨ad,B,n,d,e4,hb,c0,c1,hnz⟩:=h3 k hlt;obtain rfl:A=some ad:=e1.trans e4;obtain ⟨⟨SA,sn,sc,s0,s1,hs⟩,sf⟩:=hi2;obtain ⟨U,hU⟩:=n_m (wr.alloc (.cells #[.bool (decide (zs[k] < 0)),.slice B n d] 27));have hUx:Ext wr U:=by rw [<- hU]; exact (Ext.refl _).alloc _
    have hUs:U.heap.size=wr.heap.size+1:=by rw [<- hU]; simp
    have u0:U.cell? ⟨wr.heap.size,0,none⟩=some (.bool (decide (zs[k] < 0))):=by rw [<- hU]; simp [go_sem]
    have u1:U.cell? ⟨wr.heap.size,1,none⟩=some (.slice B n d):=by rw [<- hU]; simp [go_sem]
    have s0':=(hUx.cell (p:=⟨w.heap.size+1,0,none⟩) (by show w.heap.size+1 < _; omega)).trans s0;have s1':=(hUx.cell (p:=⟨w.heap.size+1,1,none⟩) (by show w.heap.size+1 < _; omega)).trans s1;have HADD:=Lib.hid (qhd _ _ (qda (zs.take k)) zs[k] D D U ⟨_,_,_,rfl,hs.ext hUx,by rw [jc3,zgs],HL.out k⟩ ⟨_,_,_,rfl,hnz.ext hUx,by rw [jc3,zgs],HZ.out k hlt⟩ (by omega));have HST:=Lib.hid (xij zs k hlt);have HUX:=Lib.hid hUx;clear h3 e1 e3 e4 hnz hs hUx;generalize qda (zs.take k)=S at *;generalize zs[k]=z at *;go_wp2_with fail;clear hU u0 u1 s0 s1 s0' s1' c0 c1;refine HADD.out.mono ?_;rintro e w2 ⟨z2,rfl,⟨y2,rfl,m2⟩,x2⟩;obtain ⟨C2,k2,rfl,-⟩:=id m2;have hs2:=x2.size;have hib:=HI2.out.ext (HUX.out.trans x2) (by omega);have HIB:=Lib.hid (hib.set m2);have HIB1:Hid (jg0 ((w2.setCell ⟨w.heap.size+1,0,none⟩ (.bool (decide (S+z < 0)))).setCell ⟨w.heap.size+1,1,none⟩ (.slice C2 (dg (S+z).natAbs).length k2)) w.heap.size 0):=by
     obtain ⟨⟨F,m,f,f0,f1,f2⟩,ff⟩:=HI1.out.ext (HUX.out.trans x2) (by omega);obtain ⟨⟨G,gm,gf,g0,g1,-⟩,-⟩:=hib;have e1:(w2.setCell ⟨w.heap.size+1,0,none⟩ (.bool (decide (S+z < 0)))).cell? ⟨w.heap.size+1,1,none⟩=some (.slice G gm gf):=by rw [World.cell?_setCell_other _ _ _ _ (by simp)]; exact g1
     exact ⟨⟨F,m,f,by rw [World.cell?_setCell_other _ _ _ _ (by simp),World.cell?_setCell_other _ _ _ _ (by simp)]; exact f0,by rw [World.cell?_setCell_other _ _ _ _ (by simp),World.cell?_setCell_other _ _ _ _ (by simp)]; exact f1,(f2.box g0 rfl _).box e1 rfl _⟩,fun i=>by rw [World.frozen?_setCell,World.frozen?_setCell]; exact ff i⟩
    have HXN:Hid (Ext w ((w2.setCell ⟨w.heap.size+1,0,none⟩ (.bool (decide (S+z < 0)))).setCell ⟨w.heap.size+1,1,none⟩ (.slice C2 (dg (S+z).natAbs).length k2))):=Lib.hid (((HX.out.trans (HUX.out.trans x2)).setCell (by show w.heap.size<=w.heap.size+1; omega) _).setCell (by show w.heap.size<=w.heap.size+1; omega) _);obtain ⟨⟨G,gm,gf,g0,g1,-⟩,gff⟩:=hib;clear x2 m2 HADD HI1 HI2 sf;go_wp2_with fail
    go_roundw
    case rel=>exact ⟨k+1,by omega,by go_num,⟨HXN.out,by simp [World.setCell]; omega,HIB1.out,by rw [HST.out]; exact HIB.out⟩⟩
    case measure=>simp [intOf]; omega
  · have hke:k=zs.length:=by omega
    obtain ⟨⟨SA,sn,sc,s0,s1,hs⟩,sf⟩:=HI2.out;obtain ⟨⟨F,m,f,f0,f1,f2⟩,ff⟩:=HI1.out;rw [hke,List.take_length] at s0 hs;have HF:=Lib.hid (yc9 (g:=w.heap.size) (z:=qda zs) HX.out (Nat.le_refl _) f0 f1 rfl rfl ⟨_,rfl,hs⟩);clear hke hs hi2 HI1 HI2;generalize qda zs=S at *;go_wp2_with fail;exact bodyPost_ret (v:=.agg #[.bool (decide (S < 0)),.slice SA sn sc]) (by simp [results,Tryz.results50,go_sem,f0,f1]) rfl HF.out
end Go.Proofs.YtopddaabiinboaaGreat

/- Sums of lists of polynomials, plain: level by level, as recpoly.add goes. No program in sight. -/
namespace Go.Proofs.YtopddaabiinboaaGreat
def kdh (l:List Pl):Pl:=Pl.ofS (l.flatMap fun p=>p.terms Mo.one)
def udb (ρ : Int -> Rat) : List Pl -> Rat
 | []=>0
 | p :: r=>p.val ρ+udb ρ r
def lnr : List Pl -> Nat
 | []=>0
 | p :: r=>p.nr+lnr r
theorem zg9 (l:List Pl):(kdh l).Can:=Pl.ofS_can _
theorem uh0 (ρ:Int->Rat) (a b:List Pl):udb ρ (a ++ b)=udb ρ a+udb ρ b:=by
 induction a with
 | nil=>simp [udb]; grind
 | cons x a ih=>rw [List.cons_append,udb,udb,ih]; grind
theorem wg8 (ρ:Int->Rat) (l:List Pl):(kdh l).val ρ=udb ρ l:=by
 unfold kdh;rw [Pl.ofS_val ρ (fun x hx=>by
  obtain ⟨p,-,hp⟩:=List.mem_flatMap.1 hx
  exact p.terms_one_nonneg x hp)]
 induction l with
 | nil=>rfl
 | cons p l ih=>rw [List.flatMap_cons,zdj,Pl.terms_sval,udb,ih]
theorem qia (a b:List Pl):lnr (a ++ b)=lnr a+lnr b:=by
 induction a with
 | nil=>simp [lnr]
 | cons x a ih=>rw [List.cons_append,lnr,lnr,ih]; omega
theorem zi5 {l:List Pl} {n:Int} (hc:∀ p ∈ l,p.Can/\p.lv<=n) (h0:0<=n) (hn:n<=4):(kdh l).lv<=n:=by
 obtain ⟨k,rfl⟩:∃ k:Nat,n=k:=⟨n.toNat,by omega⟩;refine Pl.ofS_lv (by omega) (fun x hx=>?_) fun x hx i hi hi4=>?_
 · obtain ⟨p,-,hp⟩:=List.mem_flatMap.1 hx;exact p.terms_one_nonneg x hp
 · obtain ⟨p,hpl,hp⟩:=List.mem_flatMap.1 hx;exact Pl.exp_above (hc p hpl).1 (hc p hpl).2 x hp i hi hi4
theorem qiw (p q:Pl):kdh [p,q]=p.add q:=Pl.val_uniq (zg9 _) (Pl.add_can _ _) fun ρ=>by rw [wg8,Pl.add_val,udb,udb,udb]; grind
def stp (a:Int × Nat) (p:Pl):Int × Nat:=
 if p.lv=(if a.1 < p.lv then (p.lv,0) else a).1 then ((if a.1 < p.lv then (p.lv,0) else a).1,max (if a.1 < p.lv then (p.lv,0) else a).2 p.cs.length) else (if a.1 < p.lv then (p.lv,0) else a)
theorem jht {a:Int × Nat} {p:Pl} (h:a.1 < p.lv):stp a p=(p.lv,p.cs.length):=by
 unfold stp; rw [if_pos h,if_pos rfl]; simp
theorem kht {a:Int × Nat} {p:Pl} (h:p.lv=a.1):stp a p=(a.1,max a.2 p.cs.length):=by
 unfold stp; rw [if_neg (show ¬ a.1 < p.lv by omega),if_pos h]
theorem qht {a:Int × Nat} {p:Pl} (h:p.lv < a.1):stp a p=a:=by
 unfold stp; rw [if_neg (show ¬ a.1 < p.lv by omega),if_neg (by omega)]
def xdg (l:List Pl):Int × Nat:=l.foldl stp (0,0)
theorem uie (l:List Pl) (k:Nat) (h:k < l.length):xdg (l.take (k+1))=stp (xdg (l.take k)) l[k]:=by
 unfold xdg;rw [List.take_succ_eq_append_getElem h,List.foldl_append]
 rfl
theorem gie (l:List Pl) (M:Nat) (hl:∀ p ∈ l,0<=p.lv/\p.lv<=4/\p.cs.length<=M/\(0 < p.lv->2<=p.cs.length)) :
 (0<=(xdg l).1/\(xdg l).1<=4/\(xdg l).2<=M/\(0 < (xdg l).1->2<=(xdg l).2))/\∀ p ∈ l,p.lv<=(xdg l).1/\(p.lv=(xdg l).1->p.cs.length<=(xdg l).2):=by
 have key:∀ (l:List Pl) (a:Int × Nat),(0<=a.1/\a.1<=4/\a.2<=M/\(0 < a.1->2<=a.2))->(∀ p ∈ l,0<=p.lv/\p.lv<=4/\p.cs.length<=M/\(0 < p.lv->2<=p.cs.length)) ->
  (0<=(l.foldl stp a).1/\(l.foldl stp a).1<=4/\(l.foldl stp a).2<=M/\(0 < (l.foldl stp a).1->2<=(l.foldl stp a).2))/\(a.1 < (l.foldl stp a).1\/(a.1=(l.foldl stp a).1/\a.2<=(l.foldl stp a).2))/\∀ p ∈ l,p.lv<=(l.foldl stp a).1/\(p.lv=(l.foldl stp a).1->p.cs.length<=(l.foldl stp a).2):=by
  intro l
  induction l with
  | nil=>intro a ha _; exact ⟨ha,.inr ⟨rfl,Nat.le_refl _⟩,by simp⟩
  | cons p l ih =>
    intro a ha hp;have h1:=hp p (by simp);have hs:(0<=(stp a p).1/\(stp a p).1<=4/\(stp a p).2<=M/\(0 < (stp a p).1->2<=(stp a p).2))/\(a.1 < (stp a p).1\/(a.1=(stp a p).1/\a.2<=(stp a p).2))/\(p.lv < (stp a p).1\/(p.lv=(stp a p).1/\p.cs.length<=(stp a p).2)):=by
     rcases Int.lt_trichotomy a.1 p.lv with h | h | h
     · rw [jht h]; exact ⟨⟨h1.1,h1.2.1,h1.2.2.1,h1.2.2.2⟩,.inl h,.inr ⟨rfl,Nat.le_refl _⟩⟩
     · rw [kht h.symm]; refine ⟨⟨ha.1,ha.2.1,by simp only; omega,fun h0=>?_⟩,.inr ⟨rfl,by simp only; omega⟩,.inr ⟨h.symm,by simp only; omega⟩⟩;have:=ha.2.2.2 h0;simp only;omega
     · rw [qht h]; exact ⟨ha,.inr ⟨rfl,Nat.le_refl _⟩,.inl h⟩
    obtain ⟨g1,g2,g3⟩:=ih (stp a p) hs.1 (fun q hq=>hp q (by simp [hq]));rw [List.foldl_cons];generalize l.foldl stp (stp a p)=r at *;generalize stp a p=s at *;refine ⟨g1,by omega,fun q hq=>?_⟩;rcases List.mem_cons.1 hq with rfl | hq
    · omega
    · exact g3 q hq
 obtain ⟨h1,-,h3⟩:=key l (0,0) ⟨by simp,by simp,by simp,by simp⟩ hl;exact ⟨h1,h3⟩
theorem wix (l:List Pl) (h:0 < (xdg l).1):∃ p ∈ l,p.lv=(xdg l).1:=by
 have key:∀ (l:List Pl) (a:Int × Nat),(l.foldl stp a).1=a.1\/∃ p ∈ l,p.lv=(l.foldl stp a).1:=by
  intro l
  induction l with
  | nil=>intro a; exact .inl rfl
  | cons p l ih =>
    intro a;rw [List.foldl_cons];rcases ih (stp a p) with h1 | ⟨q,hq,h1⟩
    · rcases Int.lt_trichotomy a.1 p.lv with h | h | h
      · exact .inr ⟨p,by simp,by rw [h1,jht h]⟩
      · exact .inr ⟨p,by simp,by rw [h1,kht h.symm,h]⟩
      · exact .inl (by rw [h1,qht h])
    · exact .inr ⟨q,by simp [hq],h1⟩
 rcases key l (0,0) with h1 | h1
 · have:(xdg l).1=0:=h1;omega
 · exact h1
def partsOf (lv:Int) (i:Nat) (p:Pl):List Pl:=if p.lv=lv then (p.cs[i]?).toList else if p.lv < lv/\i=0 then [p] else []
def kc6 (lv:Int) (i:Nat) (l:List Pl):List Pl:=l.flatMap (partsOf lv i)
theorem kh2 (lv:Int) (i:Nat) (l:List Pl) (k:Nat) (h:k < l.length):kc6 lv i (l.take (k+1))=kc6 lv i (l.take k) ++ partsOf lv i l[k]:=by
 unfold kc6;rw [List.take_succ_eq_append_getElem h,List.flatMap_append];simp
theorem xhf (lv:Int) (i:Nat) (p:Pl):(partsOf lv i p).length<=1:=by
 unfold partsOf
 split
 · cases p.cs[i]? <;> simp
 · split <;> simp
theorem uhi (lv:Int) (i:Nat) (l:List Pl):(kc6 lv i l).length<=l.length:=by
 induction l with
 | nil=>simp [kc6]
 | cons p l ih =>
   unfold kc6 at ih ⊢;rw [List.flatMap_cons,List.length_append,List.length_cons];have:=xhf lv i p;omega
theorem yhf {lv:Int} {i:Nat} {p c:Pl} (hp:p.Can) (h0:0 < lv) {E:Nat} (hE:p.ex E) (h:c ∈ partsOf lv i p):c.Can/\c.lv < lv/\c.ex E/\c.nr<=p.nr:=by
 unfold partsOf at h
 split at h
 · rename_i hl;obtain ⟨l,n,d,cs⟩:=p
   change l=lv at hl
   subst hl;have hc:c ∈ cs:=by
    simp only [Pl.cs,Option.mem_toList] at h;exact List.mem_of_getElem? h
   have hk:=(hp.kids h0).2.2.2.1.mem c hc;rw [Pl.ex] at hE;exact ⟨hk.2,hk.1,xg2 (hE.resolve_left (by omega)).2 c hc,by rw [Pl.nr,if_neg (by omega)]; exact vhv hc⟩
 · split at h
   · rename_i hl;obtain rfl:=List.mem_singleton.1 h;exact ⟨hp,hl.1,hE,Nat.le_refl _⟩
   · cases h
theorem kgx {lv:Int} {i:Nat} {l:List Pl} {c:Pl} (h0:0 < lv) {E:Nat} (hl:∀ p ∈ l,p.Can/\p.ex E) (h:c ∈ kc6 lv i l):c.Can/\c.lv < lv/\c.ex E:=by
 obtain ⟨p,hp,hc⟩:=List.mem_flatMap.1 h;have:=yhf (hl p hp).1 h0 (hl p hp).2 hc;exact ⟨this.1,this.2.1,this.2.2.1⟩
theorem qii {lv:Int} {i:Nat} {l:List Pl} (h0:0 < lv) {E:Nat} (hl:∀ p ∈ l,p.Can/\p.ex E):lnr (kc6 lv i l)<=lnr l:=by
 induction l with
 | nil=>simp [kc6,lnr]
 | cons p l ih =>
   have h1:=ih fun q hq=>hl q (by simp [hq])
   unfold kc6 at h1 ⊢;rw [List.flatMap_cons,qia,lnr];have h2:lnr (partsOf lv i p)<=p.nr:=by
    have hm:=fun c hc=>yhf (c:=c) (hl p (by simp)).1 h0 (hl p (by simp)).2 (i:=i) hc
    have hlen:=xhf lv i p;generalize partsOf lv i p=q at *
    match q,hlen with
    | [],_=>simp [lnr]
    | [c],_=>have:=(hm c (by simp)).2.2.2; simpa [lnr] using this
   omega
def hsm (x : Rat) : (Nat -> Rat) -> Nat -> Rat
 | _,0=>0
 | f,n+1=>f 0+x * hsm x (fun i=>f (i+1)) n
theorem gi2 (x:Rat) (n:Nat):∀ f g:Nat->Rat,hsm x (fun i=>f i+g i) n=hsm x f n+hsm x g n:=by
 induction n with
 | zero=>intro f g; simp [hsm]; grind
 | succ n ih=>intro f g; simp only [hsm]; rw [ih (fun i=>f (i+1)) (fun i=>g (i+1))]; grind
theorem jhh (x:Rat) (n:Nat):hsm x (fun _=>0) n=0:=by
 induction n with
 | zero=>rfl
 | succ n ih=>simp only [hsm,ih]; grind
theorem yih (ρ:Int->Rat) (l:Int):∀ (n:Nat) (g:Nat->Pl),zc3 ρ l ((List.range n).map g)=hsm (ρ l) (fun i=>(g i).val ρ) n:=by
 intro n
 induction n with
 | zero=>intro g; simp [zc3,hsm]
 | succ n ih =>
   intro g;rw [List.range_succ_eq_map,List.map_cons,List.map_map,zc3,hsm,<- ih (fun i=>g (i+1))]
   rfl
theorem zit (ρ:Int->Rat) (l:Int):∀ (cs:List Pl) (n:Nat),cs.length<=n->hsm (ρ l) (fun i=>udb ρ (cs[i]?).toList) n=zc3 ρ l cs:=by
 intro cs
 induction cs with
 | nil =>
   intro n _;rw [zc3,<- jhh (ρ l) n]
   congr 1
 | cons c cs ih =>
   intro n hn;obtain ⟨m,rfl⟩:∃ m,n=m+1:=⟨n - 1,by simp at hn; omega⟩;rw [hsm,zc3,<- ih m (by simpa using hn)];simp [udb]
   grind
theorem xid {l:List Pl} {lv:Int} {n E:Nat} (h0:0 < lv) (h4:lv<=4) (hn:1<=n) (hl:∀ p ∈ l,p.Can/\p.ex E) (hlv:∀ p ∈ l,p.lv<=lv/\(p.lv=lv->p.cs.length<=n)) :
 kdh l=xdd lv ((List.range n).map fun i=>kdh (kc6 lv i l)):=by
 have hk:vc7 lv ((List.range n).map fun i=>kdh (kc6 lv i l)):=xgs fun c hc=>by
  obtain ⟨i,-,rfl⟩:=List.mem_map.1 hc;have h1:=zi5 (l:=kc6 lv i l) (n:=lv - 1) (fun p hp=>⟨(kgx h0 hl hp).1,by have:=(kgx h0 hl hp).2.1; omega⟩) (by omega) (by omega);exact ⟨by omega,zg9 _⟩
 obtain ⟨g1,g2,g3⟩:=xg3 h0 h4 hk;refine Pl.val_uniq (zg9 _) g1 fun ρ=>?_
 rw [g3,yih,wg8];simp only [wg8];clear g1 g2 g3 hk
 induction l with
 | nil =>
   rw [udb,<- jhh (ρ lv) n]
   congr 1
 | cons p l ih =>
   rw [udb,ih (fun q hq=>hl q (by simp [hq])) (fun q hq=>hlv q (by simp [hq]))];have e1:(fun i=>udb ρ (kc6 lv i (p :: l)))=fun i=>udb ρ (partsOf lv i p)+udb ρ (kc6 lv i l):=by
    funext i
    unfold kc6;rw [List.flatMap_cons,uh0]
   rw [e1,gi2]
   congr 1
   obtain ⟨h1,h2⟩:=hlv p (by simp)
   by_cases he:p.lv=lv
   · have e2:(fun i=>udb ρ (partsOf lv i p))=fun i=>udb ρ (p.cs[i]?).toList:=by
      funext i
      unfold partsOf;rw [if_pos he]
     rw [e2,zit ρ lv p.cs n (h2 he)];obtain ⟨l',ng,d,cs⟩:=p
     change l'=lv at he
     subst he;exact Pl.mk_val ρ _ _ _ h0 h4
   · obtain ⟨m,rfl⟩:∃ m,n=m+1:=⟨n - 1,by omega⟩;have e2:(fun i=>udb ρ (partsOf lv i p))=fun i=>if i=0 then p.val ρ else 0:=by
      funext i
      unfold partsOf;rw [if_neg he]
      by_cases hi:i=0
      · rw [if_pos ⟨by omega,hi⟩,if_pos hi,udb,udb]; grind
      · rw [if_neg (by omega),if_neg hi,udb]
     rw [e2,hsm];have e3:(fun i=>if i+1=0 then p.val ρ else 0)=fun _:Nat=>(0:Rat):=by
      funext i
      rw [if_neg (by omega)]
     rw [if_pos rfl,e3,jhh]
     grind
theorem vil {l:List Pl} (hl:∀ p ∈ l,p.Can/\p.lv=0):kdh l=Pl.const (qda (l.map Pl.z)):=Pl.val_uniq (zg9 _) (vdf _) fun ρ=>by
 rw [wg8,Pl.const_val]
 induction l with
 | nil=>simp [udb,qda]
 | cons p l ih =>
   have h1:=hl p (by simp);rw [udb,ih fun q hq=>hl q (by simp [hq]),List.map_cons,qda];have h2:p.val ρ=(Pl.const p.z).val ρ:=congrArg (fun p=>p.val ρ) (vg5 h1.1 h1.2);rw [h2,Pl.const_val]
   push_cast
   rfl
theorem gja {l:List Pl} (hl:∀ p ∈ l,p.Can/\p.lv=0):inr (l.map Pl.z)=lnr l:=by
 induction l with
 | nil=>rfl
 | cons p l ih =>
   have h1:=hl p (by simp);rw [List.map_cons,inr,lnr,ih fun q hq=>hl q (by simp [hq])];have h2:=congrArg Pl.nr (vg5 h1.1 h1.2);rw [Pl.const_nr] at h2;rw [h2]
end Go.Proofs.YtopddaabiinboaaGreat

/- Rows of integers that a call makes and fills. -/
namespace Go.Proofs.YtopddaabiinboaaGreat
open Go.RowKit
def zgy (W:World) (R:Nat) (l:List Int):Prop:=
 R < W.heap.size/\(∀ i,W.frozen? ⟨R,i,none⟩=false)/\∀ i (h:i < l.length),∃ A n c,W.cell? ⟨R,i * 2,none⟩=some (.bool (decide (l[i] < 0)))/\W.cell? ⟨R,i * 2+1,none⟩=some (.slice A n c)/\vc2 W (.slice A n c) (dg l[i].natAbs)
section
variable {W W':World} {R:Nat} {l:List Int}
theorem zgy.ext (h:zgy W R l) (hx:Ext W W'):zgy W' R l:=by
 obtain ⟨h1,h2,h3⟩:=h;refine ⟨Nat.lt_of_lt_of_le h1 hx.size,fun i=>(hx.frozen (p:=⟨R,i,none⟩) h1).trans (h2 i),fun i hi=>?_⟩;obtain ⟨A,n,c,h4,h5,h6⟩:=h3 i hi;exact ⟨A,n,c,(hx.cell (p:=⟨R,i * 2,none⟩) h1).trans h4,(hx.cell (p:=⟨R,i * 2+1,none⟩) h1).trans h5,h6.ext hx⟩
theorem zgy.fin (h:zgy W R l) (c:Nat) (h1:l.length<=c) (h2:c<=9223372036854775807):IsV W (.slice (some ⟨R,0,none⟩) l.length c) l:=by
 obtain ⟨h3,-,h4⟩:=h;refine ⟨_,c,rfl,h1,h2,fun k hk=>?_⟩;obtain ⟨A,n,d,h5,h6,h7⟩:=h4 k hk;refine ⟨⟨R,0,none⟩,A,n,d,rfl,h3,?_,?_,h7⟩
 · rw [zc9,Nat.zero_add]; exact h5
 · rw [zc9,Nat.zero_add]; exact h6
theorem zgy.set_ (h:zgy W R l) (k:Nat) (hk:k < l.length) (z:Int) {A:Option Addr} {n c:Nat} (hz:vc2 W (.slice A n c) (dg z.natAbs)) :
 zgy ((W.setCell ⟨R,k * 2,none⟩ (.bool (decide (z < 0)))).setCell ⟨R,k * 2+1,none⟩ (.slice A n c)) R (l.set k z):=by
 obtain ⟨h1,h2,h3⟩:=h;obtain ⟨B,m,d,g0,g1,-⟩:=h3 k hk;have q1:(W.setCell ⟨R,k * 2,none⟩ (.bool (decide (z < 0)))).cell? ⟨R,k * 2+1,none⟩=some (.slice B m d):=by rw [World.cell?_setCell_other _ _ _ _ (by intro e; injection e; omega)]; exact g1
 have hnat:∀ v ds,vc2 W v ds->vc2 ((W.setCell ⟨R,k * 2,none⟩ (.bool (decide (z < 0)))).setCell ⟨R,k * 2+1,none⟩ (.slice A n c)) v ds:=fun v ds hv=>(hv.box g0 rfl _).box q1 rfl _
 refine ⟨by simpa [World.setCell] using h1,fun i=>by rw [World.frozen?_setCell,World.frozen?_setCell]; exact h2 i,fun i hi=>?_⟩;rw [List.length_set] at hi
 by_cases hik:i=k
 · subst hik;rw [List.getElem_set_self];refine ⟨A,n,c,?_,World.cell?_setCell_same _ _ _ q1,hnat _ _ hz⟩;rw [World.cell?_setCell_other _ _ _ _ (by intro e; injection e; omega)];exact World.cell?_setCell_same _ _ _ g0
 · rw [List.getElem_set_ne (Ne.symm hik)];obtain ⟨C,j,f,h4,h5,h6⟩:=h3 i hi;refine ⟨C,j,f,?_,?_,hnat _ _ h6⟩
   · rw [World.cell?_setCell_other _ _ _ _ (by intro e; injection e; omega),World.cell?_setCell_other _ _ _ _ (by intro e; injection e; omega)]; exact h4
   · rw [World.cell?_setCell_other _ _ _ _ (by intro e; injection e; omega),World.cell?_setCell_other _ _ _ _ (by intro e; injection e; omega)]; exact h5
end
theorem kij:(Tryz.prog.info? 27).map (fun i=>(i.zero,i.size,i.bytes))=some (some (.agg #[.bool false,.slice none 0 0]),2,32):=by kernel_rfl
theorem qha (n:Int) (h0:0<=n) (h1:n<=1099511627776) (w:World) :
 ∃ w',(Instr.makeSlice 104 (.int .i64 n) (.int .i64 n)).run Tryz.prog w=.ok (.slice (some ⟨w.heap.size,0,none⟩) n.toNat n.toNat) w'/\Ext w w'/\w'.heap.size=w.heap.size+1/\zgy w' w.heap.size (List.replicate n.toNat 0):=by
 obtain ⟨i0,hi,hz0,hz1,hz2⟩:=info_parts kij;refine ⟨_,run_make w 104 27 i0 _ Tryz.underlying104 hi hz0 .i64 .i64 n n h0 (by omega) (by rw [hz2]; omega) (by omega),(Ext.refl w).alloc _,by simp,⟨by simp,fun i=>by simp [go_sem],fun i hi2=>?_⟩⟩;rw [List.length_replicate] at hi2;have hc:∀ j,j < 2->(w.alloc (.cells (madeCells (Value.agg #[.bool false,.slice none 0 0]).cells (n.toNat * i0.size)) 27)).cell? ⟨w.heap.size,i * 2+j,none⟩=#[Value.bool false,.slice none 0 0][j]?:=by
  intro j hj;have hlt:i * 2+j < n.toNat * 2:=by omega
  have hmod:(i * 2+j) % 2=j:=by omega
  rw [cell_of_row _ _ (i * 2+j) _ _ (0,0) (heap_alloc_new w _)];rw [hz1];unfold madeCells;rw [Array.getElem?_map,Array.getElem?_range,if_pos hlt];show some ((#[Value.bool false,.slice none 0 0]:Array Value)[(i * 2+j) % 2]!)=_;rw [hmod];rcases (show j=0\/j=1 by omega) with rfl | rfl <;> rfl
 rw [List.getElem_replicate];exact ⟨none,0,0,hc 0 (by omega),hc 1 (by omega),by rw [Int.natAbs_zero,uc5]; exact vc2.nil _⟩
end Go.Proofs.YtopddaabiinboaaGreat

/- Layer 22: recpoly.trim. -/
set_option maxRecDepth 100000
set_option maxHeartbeats 8000000
namespace Go.Proofs.YtopddaabiinboaaGreat
open Go.RowKit
theorem kc3.take {w:World} {q:Nat->Prop} {l:List Pl} {A:Option Addr} (h:kc3 w q l A 0) (n:Nat):kc3 w q (l.take n) A 0:=by
 refine kc3.of _ _ _ fun i hi=>?_
 rw [List.length_take] at hi;obtain ⟨ad,s,K,e,h1,h2,h3,h4⟩:=h.get_ l A 0 i (by omega);refine ⟨ad,s,K,e,h1,h2,?_,?_⟩
 · rw [List.getElem_take]; exact h3
 · rw [List.getElem_take]; exact h4
theorem uho {w:World} {q:Nat->Prop} (l:Int) (cs:List Pl) (A:Option Addr) (c:Nat) (h:kc3 w q cs A 0) (hl1:cs.length<=c) (hl2:c<=9223372036854775807) :
 Calls Tryz.prog 51 #[.int .i64 l,.slice A cs.length c] w (vc4 q (xdd l cs) w):=by
 have hh:kc3 w (fun b=>q b/\b < w.heap.size) cs A 0:=kc3.turn (Nat.le_refl _) (fun _ _ h=>h) (fun b hb hq=>⟨⟨hq,hb⟩,rfl⟩) cs A 0 h;have HH:=Lib.hid hh;obtain ⟨W,hW⟩:=n_m (w.alloc (.cells #[.int .i64 0,.bool false,.slice none 0 0,.slice none 0 0] 30));have hWx:Ext w W:=by rw [<- hW]; exact (Ext.refl w).alloc _
 have hWs:W.heap.size=w.heap.size+1:=by rw [<- hW]; simp
 have hz:yc5 W w.heap.size:=by rw [<- hW]; exact yc5.new w _
 have HWX:=Lib.hid hWx;have HZ:=Lib.hid hz;clear h hh hWx hz;go_enter Tryz.func51,Tryz.ntmps51;go_wp2_with fail;clear hW
 go_loopw [5] (fun nv wr=>∃ n:Nat,n<=cs.length/\nv=.int .i64 n/\Hid (zc7 cs=zc7 (cs.take n)/\Ext W wr)) (fun nv _=>(intOf nv).toNat)
 case atStart=>exact ⟨cs.length,Nat.le_refl _,rfl,⟨by rw [List.take_length],Ext.refl W⟩⟩
 case round =>
  obtain ⟨n,hn,rfl,⟨hst,hx⟩⟩:=hrel;have HST:=Lib.hid hst;have HX:=Lib.hid hx;have hws:=hx.size;clear hst hx;cases n with
  | zero =>
    have HT:Hid (xdd l cs=Pl.zero):=Lib.hid (by
     rw [jhg (Nat.zero_le _) (by rw [HST.out]; rfl),if_pos rfl])
    have hzn:=HZ.out.ext HX.out (by omega);have HF:Hid (vc4 q (xdd l cs) w (.returned (plV Pl.zero (.slice none 0 0) (.slice none 0 0))) ((((wr.setCell ⟨w.heap.size,0,none⟩ (.int .i64 0)).setCell ⟨w.heap.size,1,none⟩ (.bool false)).setCell ⟨w.heap.size,2,none⟩ (.slice none 0 0)).setCell ⟨w.heap.size,3,none⟩ (.slice none 0 0))):=by
     rw [HT.out];exact gc5 (p:=Pl.zero) (q:=fun _=>False) (HWX.out.trans HX.out) (Nat.le_refl _) hzn (Pl.zero_v _ _ none 0 (by omega)) (fun b _ h=>h.elim)
    obtain ⟨⟨z0,z1,z2,z3⟩,zf⟩:=hzn;clear hn;go_wp2_with fail;exact bodyPost_ret (v:=plV Pl.zero (.slice none 0 0) (.slice none 0 0)) (by simp [results,Tryz.results51,go_sem,z0,z1,z2,z3,plV,Pl.zero,Pl.lv,Pl.neg]) rfl HF.out
  | succ n =>
    have hlt:n < cs.length:=by omega
    obtain ⟨ad,C0,j0,g0,C1,j1,g1,rfl,hadb,hnd,hkt⟩:=kc3.kid HH.out n hlt;have hxx:=HWX.out.trans HX.out;obtain ⟨a0,a1,a2,a3⟩:=hnd.ext hxx (by rw [uc2]; exact hadb);have HIZ:=Lib.hid (vgt _ _ (hkt.ext hxx));have hwn:IntKind.i64.wrap (((n+1:Nat):Int) - 1)=(n:Int):=by rw [IntKind.wrap_i64]; omega
    have HTK:Hid (cs.take (n+1)=cs.take n ++ [cs[n]]):=Lib.hid (List.take_succ_eq_append_getElem hlt);have HIZ2:Hid (cs[n].isZ=false->zc7 cs=cs.take (n+1)):=Lib.hid (fun hz=>by rw [HST.out,HTK.out,xif hz]);have HIZ3:Hid (cs[n].isZ=true->zc7 cs=zc7 (cs.take n)):=Lib.hid (fun hz=>by rw [HST.out,HTK.out,gh0 hz]);have hpos:(0:Int) < ((n+1:Nat):Int):=by omega
    unfold plV at HIZ;generalize cs[n].isZ=bz at *;generalize cs[n]=cn at *;clear hnd hkt hadb;go_wp2_with fail;clear a0 a1 a2 a3;refine HIZ.out.mono ?_;rintro e w2 ⟨rfl,x2⟩;have X2:=Lib.hid (HX.out.trans x2);clear x2 HIZ;cases bz
    · have HS:=Lib.hid (HIZ2.out rfl);have hzn:=HZ.out.ext X2.out (by omega);cases n with
      | zero =>
        have HT:Hid (xdd l cs=cs[0]):=Lib.hid (by
         rw [jhg (show 0+1<=cs.length by omega) HS.out,if_neg (by omega),dif_pos ⟨rfl,hlt⟩])
        obtain ⟨ad',D0,i0,h0,D1,i1,h1,e4,hadb,hnd,hkt⟩:=kc3.kid HH.out 0 hlt;injection e4 with e4
        subst e4;have hxx2:=HWX.out.trans X2.out;obtain ⟨a0,a1,a2,a3⟩:=hnd.ext hxx2 (by rw [uc2]; exact hadb);have HF:Hid (vc4 q (xdd l cs) w (.returned (plV cs[0] (.slice D0 i0 h0) (.slice D1 i1 h1))) ((((w2.setCell ⟨w.heap.size,0,none⟩ (.int .i64 cs[0].lv)).setCell ⟨w.heap.size,1,none⟩ (.bool cs[0].neg)).setCell ⟨w.heap.size,2,none⟩ (.slice D0 i0 h0)).setCell ⟨w.heap.size,3,none⟩ (.slice D1 i1 h1))):=by
         rw [HT.out];exact gc5 hxx2 (Nat.le_refl _) hzn (hkt.ext hxx2) (fun b _ hb=>⟨by omega,hb.1⟩)
        rw [show ad.add (0 * 4)=ad by simp [Addr.add]] at a0 a1 a2 a3;have hb1:=hadb;obtain ⟨⟨z0,z1,z2,z3⟩,zf⟩:=hzn;clear hnd hkt hn hwn;generalize cs[0]=c0' at *;go_wp2_with fail;exact bodyPost_ret (v:=plV c0' (.slice D0 i0 h0) (.slice D1 i1 h1)) (by simp [results,Tryz.results51,go_sem,z0,z1,z2,z3,plV]) rfl HF.out
      | succ n =>
        have HT:Hid (xdd l cs=.mk l false [] (cs.take (n+2))):=Lib.hid (by
         rw [jhg (show n+2<=cs.length by omega) HS.out,if_neg (by omega),dif_neg (by omega)])
        have hln:(cs.take (n+2)).length=n+2:=by rw [List.length_take]; omega
        have HF:Hid (vc4 q (xdd l cs) w (.returned (plV (.mk l false [] (cs.take (n+2))) (.slice none 0 0) (.slice (some ad) (n+2) (n+2)))) ((((w2.setCell ⟨w.heap.size,0,none⟩ (.int .i64 l)).setCell ⟨w.heap.size,1,none⟩ (.bool false)).setCell ⟨w.heap.size,2,none⟩ (.slice none 0 0)).setCell ⟨w.heap.size,3,none⟩ (.slice (some ad) (n+2) (n+2)))):=by
         rw [HT.out];have h1:=PlV.mk (t:=.mk l false [] (cs.take (n+2))) (c:=n+2) (vc2.nil w2) (by simp only [Pl.cs]; omega) (by omega) ((HH.out.take (n+2)).ext (HWX.out.trans X2.out));rw [show (Pl.mk l false [] (cs.take (n+2))).cs.length=n+2 from hln] at h1;exact gc5 (p:=.mk l false [] (cs.take (n+2))) (HWX.out.trans X2.out) (Nat.le_refl _) hzn h1 (fun b _ hb=>⟨by omega,hb.1⟩)
        obtain ⟨⟨z0,z1,z2,z3⟩,zf⟩:=hzn;have hn1:((((n+1+1:Nat):Int)) == 0)=false:=by simp; omega
        have hn2:((((n+1+1:Nat):Int)) == 1)=false:=by simp; omega
        clear hwn;go_wp2_with fail;exact bodyPost_ret (v:=plV (.mk l false [] (cs.take (n+2))) (.slice none 0 0) (.slice (some ad) (n+2) (n+2))) (by simp [results,Tryz.results51,go_sem,z0,z1,z2,z3,plV,Pl.lv,Pl.neg]) rfl HF.out
    · have HS:=Lib.hid (HIZ3.out rfl);go_wp2_with fail
      go_roundw
      case rel=>exact ⟨n,by omega,by go_num,⟨HS.out,X2.out⟩⟩
      case measure=>simp [intOf]
end Go.Proofs.YtopddaabiinboaaGreat

/- The negative of a canonical polynomial, plain. No program in sight. -/
namespace Go.Proofs.YtopddaabiinboaaGreat
end Go.Proofs.YtopddaabiinboaaGreat

/- Reference 38: roomPoly, FewPoly: how many coefficients a polynomial has, up to a limit. -/
set_option maxRecDepth 100000
set_option maxHeartbeats 8000000
namespace Go.Proofs.YtopddaabiinboaaGreat
open Go.RowKit
mutual
def Pl.room (D : Nat) : Pl -> Int -> Nat -> Int
 | .mk _ _ ds cs,n,deep=>match deep with
   | 0=>-1
   | d+1=>if D < ds.length\/12 < cs.length then -1 else yc8 D cs (n - 1) d
def yc8 (D : Nat) : List Pl -> Int -> Nat -> Int
 | [],n,_=>n
 | t :: r,n,d=>if n < 0 then -1 else yc8 D r (t.room D n d) d
end
mutual
theorem Pl.room_bd (D : Nat) : ∀ (t : Pl) (n : Int) (d : Nat), 0 <= n -> -1 <= t.room D n d /\ t.room D n d <= n
 | .mk _ _ ds cs,n,deep,h=>by
   cases deep with
   | zero=>simp only [Pl.room]; omega
   | succ d =>
     simp only [Pl.room]
     split
     · omega
     · have:=xg7 D cs (n - 1) d (by omega); omega
theorem xg7 (D : Nat) : ∀ (l : List Pl) (n : Int) (d : Nat), -1 <= n -> -1 <= yc8 D l n d /\ yc8 D l n d <= n
 | [],n,d,h=>by simp only [yc8]; omega
 | t :: r,n,d,h=>by
   simp only [yc8]
   split
   · omega
   · have h1:=Pl.room_bd D t n d (by omega);have h2:=xg7 D r (t.room D n d) d h1.1;omega
end
theorem kho (D:Nat) (l:List Pl) (d:Nat):yc8 D l (-1) d=-1:=by cases l <;> simp [yc8]
theorem jha (D:Nat) (l r:List Pl) (n:Int) (d:Nat) (hn:-1<=n):yc8 D (l ++ r) n d=yc8 D r (yc8 D l n d) d:=by
 induction l generalizing n with
 | nil=>simp [yc8]
 | cons t l ih =>
   simp only [List.cons_append,yc8]
   split
   · rw [kho]
   · exact ih _ (Pl.room_bd D t n d (by omega)).1
theorem vh8 (D:Nat) (l:List Pl) (k:Nat) (hk:k < l.length) (n:Int) (d:Nat) (hn:-1<=n):yc8 D (l.take (k+1)) n d=if yc8 D (l.take k) n d < 0 then -1 else (l[k]).room D (yc8 D (l.take k) n d) d:=by
 rw [List.take_succ_eq_append_getElem hk,jha _ _ _ _ _ hn];simp [yc8]
theorem jig (D:Nat) (l:List Pl) (k:Nat) (n:Int) (d:Nat) (hn:-1<=n) (hk:k < l.length) (h:yc8 D (l.take k) n d < 0):yc8 D l n d=-1:=by
 have h1:l=l.take k ++ l.drop k:=(List.take_append_drop k l).symm;have hb:=(xg7 D (l.take k) n d hn).1;have h2:yc8 D (l.take k) n d=-1:=by omega
 rw [h1,jha _ _ _ _ _ hn,h2,kho]
mutual
theorem Pl.room_sz (D : Nat) : ∀ (t : Pl) (n : Int) (d : Nat), 0 <= n -> 0 <= t.room D n d -> t.room D n d = n - t.sz /\ t.dm <= D
 | .mk _ _ ds cs,n,deep,h,h'=>by
   cases deep with
   | zero=>simp only [Pl.room] at h'; omega
   | succ d =>
     simp only [Pl.room,Pl.sz,Pl.dm] at h' ⊢
     split at h'
     · omega
     · rename_i hc;rw [if_neg hc];have:=jhu D cs (n - 1) d (by omega) h';omega
theorem jhu (D : Nat) : ∀ (l : List Pl) (n : Int) (d : Nat), -1 <= n -> 0 <= yc8 D l n d -> yc8 D l n d = n - kc5 l /\ xdb l <= D
 | [],n,d,h,h'=>by simp only [yc8,kc5,xdb]; omega
 | t :: r,n,d,h,h'=>by
   simp only [yc8] at h' ⊢
   split at h'
   · omega
   · rename_i hn;rw [if_neg hn];have hb:=Pl.room_bd D t n d (by omega);have h2:=jhu D r (t.room D n d) d hb.1 h';have hb2:=xg7 D r (t.room D n d) d hb.1;have h1:=Pl.room_sz D t n d (by omega) (by omega);simp only [kc5,xdb];omega
end
def Pl.few (p:Pl) (n D:Nat):Bool:=decide (0<=p.room D n 6)
theorem Pl.few_le {p:Pl} {n D:Nat} (h:p.few n D=true):p.sz<=n/\p.dm<=D:=by
 have h1:=Pl.room_sz D p n 6 (by omega) (of_decide_eq_true h);have h2:=of_decide_eq_true h;omega
theorem qig {p:Nat->Prop} (D:Nat) (hD:D<=1000000) (dd:Nat):∀ (t:Pl) (v:Value) (w:World) (n:Int) (deep:Nat),deep < dd->PlV w p t v->0<=n->n<=1000000->deep<=1000000 ->
 Calls Tryz.prog 111 #[v,.int .i64 n,.int .i64 deep,.int .i64 D] w (vc5 (t.room D n deep) w):=by
 induction dd with
 | zero=>intro t v w n deep h; omega
 | succ dd ih =>
 intro t v w n deep hdd h hn hn' hd';have IH:=Lib.hid ih;obtain ⟨A0,n0,c0,A,c,rfl,⟨A0',c0',e,hd1,hd2,-⟩,hl1,hl2,h4⟩:=h.open_;injection e with e1 e2 e3
 subst e1 e2 e3;have H4:=Lib.hid h4;clear h4 ih h;unfold plV;cases deep with
 | zero =>
   obtain ⟨lv,ng,ds,cs⟩:=t;show Calls _ _ _ _ (vc5 (-1) w);go_enter Tryz.func111,Tryz.ntmps111;go_wp2_with fail;go_ret;exact ⟨rfl,(Ext.refl w).alloc _⟩
 | succ deep =>
   have hde:(((deep+1:Nat):Int) == 0)=false:=by simp; omega
   have hroom:t.room D n (deep+1)=if D < t.ds.length\/12 < t.cs.length then -1 else yc8 D t.cs (n - 1) deep:=by cases t; rfl
   obtain ⟨dI,hdI⟩:∃ dI:Int,((deep+1:Nat):Int)=dI:=⟨_,rfl⟩;rw [hdI] at hde ⊢;have hdI1:1<=dI:=by omega
   have hdI2:dI<=1000000:=by omega
   have HDI:Hid (dI - 1=(deep:Int)):=by
    have:dI - 1=(deep:Int):=by omega
    exact this
   clear hdI
   by_cases hbad:D < t.ds.length\/12 < t.cs.length
   · rw [if_pos hbad] at hroom;have HR:=Lib.hid hroom;have HXA:Hid (∀ o,Ext w (w.alloc o)):=fun o=>(Ext.refl w).alloc o
     clear hroom
     by_cases hb1:D < t.ds.length
     · have hq1:decide ((t.ds.length:Int) > (D:Int))=true:=decide_eq_true (by omega);generalize t.ds.length=N1 at *;clear hbad;go_enter Tryz.func111,Tryz.ntmps111;go_wp2_with fail;go_ret;exact ⟨by rw [HR.out]; rfl,HXA.out _⟩
     · have hq1:decide ((t.ds.length:Int) > (D:Int))=false:=decide_eq_false (by omega);have hq2:decide ((t.cs.length:Int) > 12)=true:=decide_eq_true (by omega);generalize t.ds.length=N1 at *;generalize t.cs.length=N2 at *;clear hbad;go_enter Tryz.func111,Tryz.ntmps111;go_wp2_with fail;go_ret;exact ⟨by rw [HR.out]; rfl,HXA.out _⟩
   rw [if_neg hbad] at hroom;have HR:=Lib.hid hroom;have hq1:decide ((t.ds.length:Int) > (D:Int))=false:=decide_eq_false (by omega);have hq2:decide ((t.cs.length:Int) > 12)=false:=decide_eq_false (by omega);clear hroom hbad;have hqn:t.ds.length<=D:=by
    have:=of_decide_eq_false hq1;omega
   clear hq1;generalize t.ds.length=N1 at *;have hqm:¬ D < N1:=by omega
   obtain ⟨W,hW⟩:=n_m (w.alloc (.cells #[.int .i64 t.lv,.bool t.neg,.slice A0 N1 c0,.slice A t.cs.length c] 30));have hWx:Ext w W:=by rw [<- hW]; exact (Ext.refl w).alloc _
   have hWs:w.heap.size < W.heap.size:=by rw [<- hW]; simp
   have d8:W.cell? ⟨w.heap.size,3,none⟩=some (.slice A t.cs.length c):=by rw [<- hW]; simp [go_sem]
   have d2:W.cell? ⟨w.heap.size,2,none⟩=some (.slice A0 N1 c0):=by rw [<- hW]; simp [go_sem]
   have HWX:=Lib.hid hWx;have D8:=Lib.hid d8;clear hWx;go_enter Tryz.func111,Tryz.ntmps111;go_wp2_with fail;clear hW d8 d2
   go_loopw [1,31] (fun nv iv wr=>∃ (k:Nat) (m:Int),k<=t.cs.length/\iv=.int .i64 k/\nv=.int .i64 m/\-1<=m/\m<=1000000/\Hid (yc8 D (t.cs.take k) (n - 1) deep=m/\Ext W wr)) (fun _ iv _=>t.cs.length - (intOf iv).toNat)
   case atStart=>exact ⟨0,n - 1,Nat.zero_le _,rfl,rfl,by omega,by omega,⟨by simp [yc8],Ext.refl W⟩⟩
   case round =>
    obtain ⟨k,m,hk,rfl,rfl,hm1,hm2,⟨hm,hxw⟩⟩:=hrel;have HM:=Lib.hid hm;have HXW:=Lib.hid hxw;have d8:wr.cell? ⟨w.heap.size,3,none⟩=some (.slice A t.cs.length c):=(hxw.cell (p:=⟨w.heap.size,3,none⟩) hWs).trans D8.out
    by_cases hlt:k < t.cs.length
    · by_cases hneg:m < 0
      · have HF:Hid (yc8 D t.cs (n - 1) deep=-1):=by
         have:yc8 D t.cs (n - 1) deep=-1:=jig D t.cs k (n - 1) deep (by omega) hlt (by omega);exact this
        clear hm hxw;go_wp2_with fail;go_ret;exact ⟨by rw [HR.out,HF.out]; rfl,HWX.out.trans HXW.out⟩
      · obtain ⟨ad,B0,m0,d0,B1,m1,d1,rfl,hadb,⟨e0,e1,e2,e3⟩,hkt⟩:=kc3.kid (kc3.ext H4.out (HWX.out.trans hxw)) k hlt;have HKT:=Lib.hid hkt;have HSTEP:Hid (yc8 D (t.cs.take (k+1)) (n - 1) deep=(t.cs[k]).room D m deep):=by
         have:yc8 D (t.cs.take (k+1)) (n - 1) deep=(t.cs[k]).room D m deep:=by rw [vh8 _ _ _ hlt _ _ (by omega),hm,if_neg hneg]
         exact this
        clear hkt hm hxw hadb;have hm0:decide (m < 0)=false:=by simpa using hneg
        go_wp2_with fail;rw [HDI.out];have hbd:=Pl.room_bd D (t.cs[k]) m deep (by omega);refine (IH.out (t.cs[k]) _ wr m deep (by omega) HKT.out (by omega) (by omega) (by omega)).mono ?_;rintro e w2 ⟨rfl,x2⟩;have X2:=Lib.hid x2;clear x2 e0 e1 e2 e3 d8;generalize hrm:(t.cs[k]).room D m deep=m2 at *;have HRM:=Lib.hid hrm;clear hrm;go_wp2_with fail
        go_roundw
        case rel=>exact ⟨k+1,m2,by omega,by go_num,rfl,by omega,by omega,⟨HSTEP.out,HXW.out.trans X2.out⟩⟩
        case measure=>simp [intOf]; omega
    · have hke:k=t.cs.length:=by omega
      have HF:Hid (yc8 D t.cs (n - 1) deep=m):=by
       rw [hke,List.take_length] at hm;exact hm
      clear hm hxw hke;go_wp2_with fail;go_ret;exact ⟨by rw [HR.out,HF.out]; rfl,HWX.out.trans HXW.out⟩
theorem jh8 {p:Nat->Prop} (D:Nat) (hD:D<=1000000) (t:Pl) (v:Value) (w:World) (n:Int) (deep:Nat) (h:PlV w p t v) (hn:0<=n) (hn':n<=1000000) (hd:deep<=1000000) :
 Calls Tryz.prog 111 #[v,.int .i64 n,.int .i64 deep,.int .i64 D] w (vc5 (t.room D n deep) w):=qig D hD (deep+1) t v w n deep (Nat.lt_succ_self _) h hn hn' hd
theorem vh3 {p:Nat->Prop} (D n:Nat) (hD:D<=1000000) (hn:n<=1000000) (t:Pl) (v:Value) (w:World) (h:PlV w p t v):Calls Tryz.prog 74 #[v,.int .i64 n,.int .i64 D] w fun e w'=>e=.returned (.bool (t.few n D))/\Ext w w':=by
 have HH:=Lib.hid h;obtain ⟨A0,n0,c0,A,c,rfl,hnat,hl1,hl2,h4⟩:=h.open_;obtain ⟨W,hW⟩:=n_m (w.alloc (.cells #[.int .i64 t.lv,.bool t.neg,.slice A0 n0 c0,.slice A t.cs.length c] 30));have hWx:Ext w W:=by rw [<- hW]; exact (Ext.refl w).alloc _
 obtain ⟨b0,b1,b2,b3⟩:yc3 W w.heap.size t (.slice A0 n0 c0) (.slice A t.cs.length c):=by rw [<- hW]; exact yc3.new w t _ _ _
 have HWX:=Lib.hid hWx;have HC:=Lib.hid (jh8 D hD t _ W n 6 (HH.out.ext hWx) (by omega) (by omega) (by omega));have HE:Hid (t.few n D=decide (t.room D n 6 ≥ 0)):=rfl;clear h hnat h4 hWx;generalize t.room D n 6=rr at *;unfold plV at *;go_enter Tryz.func74,Tryz.ntmps74;go_wp2_with fail;clear hW b0 b1 b2 b3;refine HC.out.mono ?_;rintro e w2 ⟨rfl,x2⟩;have X2:=Lib.hid (HWX.out.trans x2);clear x2;go_wp2_with fail;go_ret;exact ⟨by rw [HE.out]; rfl,X2.out⟩
end Go.Proofs.YtopddaabiinboaaGreat

/- Layer 38: matrices as values. -/
namespace Go.Proofs.YtopddaabiinboaaGreat
open Go.RowKit
inductive Mx where
 | mk (kind rel:Int) (p:Pl) (ks:List Mx)
def Mx.kind : Mx -> Int
 | .mk k _ _ _=>k
def Mx.rel : Mx -> Int
 | .mk _ r _ _=>r
def Mx.p : Mx -> Pl
 | .mk _ _ p _=>p
def Mx.ks : Mx -> List Mx
 | .mk _ _ _ ks=>ks
def mxV (m:Mx) (s A K:Value):Value:=.agg #[.int .i64 m.kind,.int .i64 m.rel,.int .i64 m.p.lv,.bool m.p.neg,s,A,K]
def qg0 (w:World) (ad:Addr) (m:Mx) (s A K:Value):Prop:=
 w.cell? ad=some (.int .i64 m.kind)/\w.cell? ⟨ad.block,ad.off+1,none⟩=some (.int .i64 m.rel)/\w.cell? ⟨ad.block,ad.off+2,none⟩=some (.int .i64 m.p.lv)/\w.cell? ⟨ad.block,ad.off+3,none⟩=some (.bool m.p.neg)/\w.cell? ⟨ad.block,ad.off+4,none⟩=some s/\w.cell? ⟨ad.block,ad.off+5,none⟩=some A/\w.cell? ⟨ad.block,ad.off+6,none⟩=some K
mutual
def MxV (w : World) (q : Nat -> Prop) : Mx -> Value -> Prop
 | .mk k r p ks,v=>∃ s A K c,v=.agg #[.int .i64 k,.int .i64 r,.int .i64 p.lv,.bool p.neg,s,A,.slice K ks.length c]/\PlV w q p (plV p s A)/\ks.length<=c/\c<=9223372036854775807/\zc6 w q ks K 0
def zc6 (w : World) (q : Nat -> Prop) : List Mx -> Option Addr -> Nat -> Prop
 | [],_,_=>True
 | t :: r,A,j=>(∃ ad s B K,A=some ad/\ad.block < w.heap.size/\q ad.block/\qg0 w (ad.add (j * 7)) t s B K/\MxV w q t (mxV t s B K))/\zc6 w q r A (j+1)
end
section
variable {w w':World} {p q:Nat->Prop}
theorem zc6.get_ (l:List Mx):∀ (A:Option Addr) (j:Nat),zc6 w p l A j->∀ i (h:i < l.length),∃ ad s B K,A=some ad/\ad.block < w.heap.size/\p ad.block/\qg0 w (ad.add ((j+i) * 7)) l[i] s B K/\MxV w p l[i] (mxV l[i] s B K):=by
 induction l with
 | nil=>intro A j h i hi; simp at hi
 | cons t r ih =>
   intro A j h i hi;unfold zc6 at h;cases i with
   | zero=>exact h.1
   | succ i =>
     have:=ih A (j+1) h.2 i (by simpa using hi);rw [show j+(i+1)=j+1+i by omega];exact this
theorem zc6.of (l:List Mx):∀ (A:Option Addr) (j:Nat),(∀ i (h:i < l.length),∃ ad s B K,A=some ad/\ad.block < w.heap.size/\p ad.block/\qg0 w (ad.add ((j+i) * 7)) l[i] s B K/\MxV w p l[i] (mxV l[i] s B K))->zc6 w p l A j:=by
 induction l with
 | nil=>intro A j h; unfold zc6; trivial
 | cons t r ih =>
   intro A j h;unfold zc6;refine ⟨h 0 (by simp),ih A (j+1) fun i hi=>?_⟩;have:=h (i+1) (by simpa using hi);rw [show j+(i+1)=j+1+i by omega] at this;exact this
theorem qg0.same {ad:Addr} {t:Mx} {s A K:Value} (h:qg0 w ad t s A K) (k0:w'.cell? ad=w.cell? ad) (k:∀ n,n < 7->w'.cell? ⟨ad.block,ad.off+n,none⟩=w.cell? ⟨ad.block,ad.off+n,none⟩):qg0 w' ad t s A K:=by
 obtain ⟨h0,h1,h2,h3,h4,h5,h6⟩:=h;exact ⟨k0.trans h0,(k 1 (by omega)).trans h1,(k 2 (by omega)).trans h2,(k 3 (by omega)).trans h3,(k 4 (by omega)).trans h4,(k 5 (by omega)).trans h5,(k 6 (by omega)).trans h6⟩
theorem qg0.ext {ad:Addr} {t:Mx} {s A K:Value} (h:qg0 w ad t s A K) (hx:Ext w w') (hb:ad.block < w.heap.size):qg0 w' ad t s A K:=h.same (hx.cell hb) (fun n _=>hx.cell (p:=⟨ad.block,ad.off+n,none⟩) hb)
mutual
theorem MxV.turn (hs : w.heap.size <= w'.heap.size) (hn : ∀ v ds, vc2 w v ds -> vc2 w' v ds) (hc : ∀ b, b < w.heap.size -> p b -> q b /\ w'.heap[b]? = w.heap[b]?) : ∀ (t : Mx) (v : Value), MxV w p t v -> MxV w' q t v
 | .mk k r pl ks,v,h=>by
   unfold MxV at h ⊢;obtain ⟨s,A,K,c,e,h1,h2,h3,h4⟩:=h;exact ⟨s,A,K,c,e,PlV.turn_ hs hn hc h1,h2,h3,zc6.turn hs hn hc ks K 0 h4⟩
theorem zc6.turn (hs : w.heap.size <= w'.heap.size) (hn : ∀ v ds, vc2 w v ds -> vc2 w' v ds) (hc : ∀ b, b < w.heap.size -> p b -> q b /\ w'.heap[b]? = w.heap[b]?) : ∀ (l : List Mx) (A : Option Addr) (j : Nat), zc6 w p l A j -> zc6 w' q l A j
 | [],A,j,h=>by unfold zc6; trivial
 | t :: r,A,j,h=>by
   unfold zc6 at h ⊢;obtain ⟨⟨ad,s,B,K,e,hb,hpb,h1,h2⟩,h3⟩:=h;obtain ⟨hq,hk⟩:=hc _ hb hpb;exact ⟨⟨ad,s,B,K,e,Nat.lt_of_lt_of_le hb hs,hq,h1.same (World.cell?_of_block (by rw [uc2]; exact hk)) (fun n _=>World.cell?_of_block (a:=⟨(ad.add (j * 7)).block,(ad.add (j * 7)).off+n,none⟩) (by show w'.heap[(ad.add (j * 7)).block]?=_; rw [uc2]; exact hk)),MxV.turn hs hn hc t _ h2⟩,zc6.turn hs hn hc r A (j+1) h3⟩
end
theorem MxV.ext {t:Mx} {v:Value} (h:MxV w p t v) (hx:Ext w w'):MxV w' p t v:=MxV.turn hx.size (fun _ _ h=>h.ext hx) (fun b hb hp=>⟨hp,hx.below.block b hb⟩) t v h
theorem zc6.ext {l:List Mx} {A:Option Addr} {j:Nat} (h:zc6 w p l A j) (hx:Ext w w'):zc6 w' p l A j:=zc6.turn hx.size (fun _ _ h=>h.ext hx) (fun b hb hp=>⟨hp,hx.below.block b hb⟩) l A j h
theorem MxV.open_ {t:Mx} {v:Value} (h:MxV w p t v):∃ A0 n0 c0 A n1 c1 K c,v=mxV t (.slice A0 n0 c0) (.slice A n1 c1) (.slice K t.ks.length c)/\PlV w p t.p (plV t.p (.slice A0 n0 c0) (.slice A n1 c1))/\t.ks.length<=c/\c<=9223372036854775807/\zc6 w p t.ks K 0:=by
 cases t with
 | mk k r pl ks =>
   unfold MxV at h;obtain ⟨s,A,K,c,e,h1,h2,h3,h4⟩:=h;obtain ⟨A0,n0,c0,A1,c1,e2,-,-⟩:=h1.open_;unfold plV at e2;simp only [Value.agg.injEq,Array.mk.injEq,List.cons.injEq,and_true,true_and] at e2;obtain ⟨rfl,rfl⟩:=e2;exact ⟨A0,n0,c0,A1,_,c1,K,c,e,h1,h2,h3,h4⟩
theorem MxV.mk {t:Mx} {s A:Value} {K:Option Addr} {c:Nat} (h1:PlV w p t.p (plV t.p s A)) (h2:t.ks.length<=c) (h3:c<=9223372036854775807) (h4:zc6 w p t.ks K 0):MxV w p t (mxV t s A (.slice K t.ks.length c)):=by
 cases t with
 | mk k r pl ks=>unfold MxV; exact ⟨s,A,K,c,rfl,h1,h2,h3,h4⟩
theorem zc6.kid {l:List Mx} {A:Option Addr} (h:zc6 w p l A 0) (k:Nat) (hk:k < l.length):∃ ad A0 n0 c0 A1 n1 c1 K n2 c2,A=some ad/\ad.block < w.heap.size/\qg0 w (ad.add (k * 7)) l[k] (.slice A0 n0 c0) (.slice A1 n1 c1) (.slice K n2 c2)/\MxV w p l[k] (mxV l[k] (.slice A0 n0 c0) (.slice A1 n1 c1) (.slice K n2 c2)):=by
 obtain ⟨ad,s,B,K,e,hb,-,h1,h2⟩:=zc6.get_ l A 0 h k hk;rw [Nat.zero_add] at h1;obtain ⟨A0,n0,c0,A1,n1,c1,K',c',e2,-,-⟩:=h2.open_;unfold mxV at e2;simp only [Value.agg.injEq,Array.mk.injEq,List.cons.injEq,and_true,true_and] at e2;obtain ⟨rfl,rfl,rfl⟩:=e2;exact ⟨ad,A0,n0,c0,A1,n1,c1,K',_,c',e,hb,h1,h2⟩
end
end Go.Proofs.YtopddaabiinboaaGreat
