/- Layer 4: integer.Sum; rows of integers. -/
import Derived.Test.YtaedbimbbeploaaGreatDoorMb5
import Derived.Test.YtaedbimbbeploaaGreatDoorMb9
import Derived.Test.YtaedbimbbeploaaGreatDoorMb13
set_option linter.unusedSimpArgs false
set_option linter.unusedVariables false
set_option maxRecDepth 100000
set_option maxHeartbeats 8000000
namespace Go.Proofs.YtaedbimbbeploaaGreatDoor
open Go.RowKit
def jaa : List Int -> Int
 | []=>0
 | z :: r=>z+jaa r
def inr : List Int -> Nat
 | []=>0
 | z :: r=>z.natAbs+inr r
theorem wbu (a b:List Int):jaa (a ++ b)=jaa a+jaa b:=by
 induction a with
 | nil=>simp [jaa]
 | cons x a ih=>rw [List.cons_append,jaa,jaa,ih]; omega
theorem gca (l:List Int) (k:Nat) (h:k < l.length):jaa (l.take (k+1))=jaa (l.take k)+l[k]:=by
 rw [List.take_succ_eq_append_getElem h,wbu]; simp [jaa]
theorem zck (l:List Int) (k:Nat):(jaa (l.take k)).natAbs<=inr l:=by
 induction l generalizing k with
 | nil=>simp [jaa,inr]
 | cons x l ih =>
   cases k with
   | zero=>simp [jaa]
   | succ k =>
     rw [List.take_succ_cons,jaa,inr];have:=ih k;omega
theorem ycu {l:List Int} {z:Int} (h:z ∈ l):z.natAbs<=inr l:=by
 induction l with
 | nil=>cases h
 | cons x l ih =>
   rw [inr];rcases List.mem_cons.1 h with rfl | h
   · omega
   · have:=ih h; omega
def IsV (w:World) (v:Value) (zs:List Int):Prop:=
 ∃ A c,v=.slice A zs.length c/\zs.length<=c/\c<=9223372036854775807/\∀ k (h:k < zs.length),∃ ad B n d,A=some ad/\ad.block < w.heap.size/\w.cell? (ad.add (k * 2))=some (.bool (decide (zs[k] < 0)))/\w.cell? ⟨(ad.add (k * 2)).block,(ad.add (k * 2)).off+1,none⟩=some (.slice B n d)/\jb w (.slice B n d) (dg zs[k].natAbs)
theorem IsV.ext {w w':World} {v:Value} {l:List Int} (h:IsV w v l) (hx:Ext w w'):IsV w' v l:=by
 obtain ⟨A,c,rfl,h1,h2,h3⟩:=h;refine ⟨A,c,rfl,h1,h2,fun k hk=>?_⟩;obtain ⟨ad,B,n,d,rfl,h4,h5,h6,h7⟩:=h3 k hk;have hb:(ad.add (k * 2)).block < w.heap.size:=by rw [ja]; exact h4
 exact ⟨ad,B,n,d,rfl,Nat.lt_of_lt_of_le h4 hx.size,(hx.cell hb).trans h5,(hx.cell (p:=⟨(ad.add (k * 2)).block,(ad.add (k * 2)).off+1,none⟩) hb).trans h6,h7.ext hx⟩
def xau (w:World) (g:Nat) (z:Int):Prop:=(∃ A n c,w.cell? ⟨g,0,none⟩=some (.bool (decide (z < 0)))/\w.cell? ⟨g,1,none⟩=some (.slice A n c)/\jb w (.slice A n c) (dg z.natAbs))/\∀ i,w.frozen? ⟨g,i,none⟩=false
theorem xau.ext {w w':World} {g:Nat} {z:Int} (h:xau w g z) (hx:Ext w w') (hg:g < w.heap.size):xau w' g z:=by
 obtain ⟨⟨A,n,c,h1,h2,h3⟩,h4⟩:=h;exact ⟨⟨A,n,c,(hx.cell (p:=⟨g,0,none⟩) hg).trans h1,(hx.cell (p:=⟨g,1,none⟩) hg).trans h2,h3.ext hx⟩,fun i=>(hx.frozen (p:=⟨g,i,none⟩) hg).trans (h4 i)⟩
theorem xau.set {w:World} {g:Nat} {z y:Int} {A:Option Addr} {n c:Nat} (h:xau w g z) (hy:jb w (.slice A n c) (dg y.natAbs)):xau ((w.setCell ⟨g,0,none⟩ (.bool (decide (y < 0)))).setCell ⟨g,1,none⟩ (.slice A n c)) g y:=by
 obtain ⟨⟨B,m,d,h1,h2,-⟩,h4⟩:=h;have e1:(w.setCell ⟨g,0,none⟩ (.bool (decide (y < 0)))).cell? ⟨g,1,none⟩=some (.slice B m d):=by rw [World.cell?_setCell_other _ _ _ _ (by simp)]; exact h2
 refine ⟨⟨A,n,c,?_,World.cell?_setCell_same _ _ _ e1,(hy.box h1 rfl _).box e1 rfl _⟩,fun i=>?_⟩
 · rw [World.cell?_setCell_other _ _ _ _ (by simp)]; exact World.cell?_setCell_same _ _ _ h1
 · rw [World.frozen?_setCell,World.frozen?_setCell]; exact h4 i
theorem wcp {w:World} {v:Value} {zs:List Int} {D:Nat} (h:IsV w v zs) (hn:inr zs < B32 ^ D) (hD:D<=17592186044000):Calls Tryz.prog 192 #[v] w (zal (jaa zs) w):=by
 have HH:=Lib.hid h;obtain ⟨A,c,rfl,h1,h2,-⟩:=h;have HL:Hid (∀ k,(dg (jaa (zs.take k)).natAbs).length<=D):=Lib.hid (fun k=>ji (Nat.lt_of_le_of_lt (zck zs k) hn));have HZ:Hid (∀ k (hk:k < zs.length),(dg zs[k].natAbs).length<=D):=Lib.hid (fun k hk=>ji (Nat.lt_of_le_of_lt (ycu (List.getElem_mem hk)) hn));clear hn;obtain ⟨W,hW⟩:∃ W,(w.alloc (.cells #[.bool false,.slice none 0 0] 25)).alloc (.cells #[.bool false,.slice none 0 0] 25)=W:=⟨_,rfl⟩;have hWx:Ext w W:=by rw [<- hW]; exact ((Ext.refl w).alloc _).alloc _
 have hWs:W.heap.size=w.heap.size+1+1:=by rw [<- hW]; simp
 have hb1:xau W w.heap.size 0:=by
  rw [<- hW];refine ⟨⟨none,0,0,by simp [go_sem],by simp [go_sem],by rw [Int.natAbs_zero,qm]; exact jb.nil _⟩,fun i=>by simp [go_sem]⟩
 have hb2:xau W (w.heap.size+1) 0:=by
  rw [<- hW];refine ⟨⟨none,0,0,by simp [go_sem],by simp [go_sem],by rw [Int.natAbs_zero,qm]; exact jb.nil _⟩,fun i=>by simp [go_sem]⟩
 have HWX:=Lib.hid hWx;have HB1:=Lib.hid hb1;have HB2:=Lib.hid hb2;have HW:=Lib.hid hW;clear hWx hb1 hb2 hW;go_enter Tryz.func192,Tryz.ntmps192;go_wp2_with fail;rw [HW.out];clear HW
 go_loopw [9] (fun iv wr=>∃ k:Nat,k<=zs.length/\iv=.int .i64 k/\Hid (Ext w wr/\W.heap.size<=wr.heap.size/\xau wr w.heap.size 0/\xau wr (w.heap.size+1) (jaa (zs.take k)))) (fun iv _=>zs.length - (intOf iv).toNat)
 case atStart=>exact ⟨0,Nat.zero_le _,rfl,⟨HWX.out,Nat.le_refl _,HB1.out,HB2.out⟩⟩
 case round =>
  obtain ⟨k,hk,rfl,⟨hx,hws,hi1,hi2⟩⟩:=hrel;have HX:=Lib.hid hx;have HI1:=Lib.hid hi1;have HI2:=Lib.hid hi2;clear hx hi1
  by_cases hlt:k < zs.length
  · obtain ⟨A',c',e',-,-,h3⟩:=HH.out.ext HX.out;injection e' with e1 e2 e3
    obtain ⟨ad,B,n,d,e4,hb,c0,c1,hnz⟩:=h3 k hlt;obtain rfl:A=some ad:=e1.trans e4;obtain ⟨⟨SA,sn,sc,s0,s1,hs⟩,sf⟩:=hi2;obtain ⟨U,hU⟩:∃ U,wr.alloc (.cells #[.bool (decide (zs[k] < 0)),.slice B n d] 25)=U:=⟨_,rfl⟩;have hUx:Ext wr U:=by rw [<- hU]; exact (Ext.refl _).alloc _
    have hUs:U.heap.size=wr.heap.size+1:=by rw [<- hU]; simp
    have u0:U.cell? ⟨wr.heap.size,0,none⟩=some (.bool (decide (zs[k] < 0))):=by rw [<- hU]; simp [go_sem]
    have u1:U.cell? ⟨wr.heap.size,1,none⟩=some (.slice B n d):=by rw [<- hU]; simp [go_sem]
    have s0':=(hUx.cell (p:=⟨w.heap.size+1,0,none⟩) (by show w.heap.size+1 < _; omega)).trans s0;have s1':=(hUx.cell (p:=⟨w.heap.size+1,1,none⟩) (by show w.heap.size+1 < _; omega)).trans s1;have HADD:=Lib.hid (qby _ _ (jaa (zs.take k)) zs[k] D D U ⟨_,_,_,rfl,hs.ext hUx,by rw [zi,ual],HL.out k⟩ ⟨_,_,_,rfl,hnz.ext hUx,by rw [zi,ual],HZ.out k hlt⟩ (by omega));have HST:=Lib.hid (gca zs k hlt);have HUX:=Lib.hid hUx;clear h3 e1 e3 e4 hnz hs hUx;generalize jaa (zs.take k)=S at *;generalize zs[k]=z at *;go_wp2_with fail;clear hU u0 u1 s0 s1 s0' s1' c0 c1;refine HADD.out.mono ?_;rintro e w2 ⟨z2,rfl,⟨y2,rfl,m2⟩,x2⟩;obtain ⟨C2,k2,rfl,-⟩:=id m2;have hs2:=x2.size;have hib:=HI2.out.ext (HUX.out.trans x2) (by omega);have HIB:=Lib.hid (hib.set m2);have HIB1:Hid (xau ((w2.setCell ⟨w.heap.size+1,0,none⟩ (.bool (decide (S+z < 0)))).setCell ⟨w.heap.size+1,1,none⟩ (.slice C2 (dg (S+z).natAbs).length k2)) w.heap.size 0):=by
     obtain ⟨⟨F,m,f,f0,f1,f2⟩,ff⟩:=HI1.out.ext (HUX.out.trans x2) (by omega);obtain ⟨⟨G,gm,gf,g0,g1,-⟩,-⟩:=hib;have e1:(w2.setCell ⟨w.heap.size+1,0,none⟩ (.bool (decide (S+z < 0)))).cell? ⟨w.heap.size+1,1,none⟩=some (.slice G gm gf):=by rw [World.cell?_setCell_other _ _ _ _ (by simp)]; exact g1
     exact ⟨⟨F,m,f,by rw [World.cell?_setCell_other _ _ _ _ (by simp),World.cell?_setCell_other _ _ _ _ (by simp)]; exact f0,by rw [World.cell?_setCell_other _ _ _ _ (by simp),World.cell?_setCell_other _ _ _ _ (by simp)]; exact f1,(f2.box g0 rfl _).box e1 rfl _⟩,fun i=>by rw [World.frozen?_setCell,World.frozen?_setCell]; exact ff i⟩
    have HXN:Hid (Ext w ((w2.setCell ⟨w.heap.size+1,0,none⟩ (.bool (decide (S+z < 0)))).setCell ⟨w.heap.size+1,1,none⟩ (.slice C2 (dg (S+z).natAbs).length k2))):=Lib.hid (((HX.out.trans (HUX.out.trans x2)).setCell (by show w.heap.size<=w.heap.size+1; omega) _).setCell (by show w.heap.size<=w.heap.size+1; omega) _);obtain ⟨⟨G,gm,gf,g0,g1,-⟩,gff⟩:=hib;clear x2 m2 HADD HI1 HI2 sf;go_wp2_with fail
    go_roundw
    case rel=>exact ⟨k+1,by omega,by go_num,⟨HXN.out,by simp [World.setCell]; omega,HIB1.out,by rw [HST.out]; exact HIB.out⟩⟩
    case measure=>simp [intOf]; omega
  · have hke:k=zs.length:=by omega
    obtain ⟨⟨SA,sn,sc,s0,s1,hs⟩,sf⟩:=HI2.out;obtain ⟨⟨F,m,f,f0,f1,f2⟩,ff⟩:=HI1.out;rw [hke,List.take_length] at s0 hs;have HF:=Lib.hid (vae (g:=w.heap.size) (z:=jaa zs) HX.out (Nat.le_refl _) f0 f1 rfl rfl ⟨_,rfl,hs⟩);clear hke hs hi2 HI1 HI2;generalize jaa zs=S at *;go_wp2_with fail;exact bodyPost_ret (v:=.agg #[.bool (decide (S < 0)),.slice SA sn sc]) (by simp [results,Tryz.results192,go_sem,f0,f1]) rfl HF.out
/- Sums of lists of polynomials, plain: level by level, as recpoly.add goes. No program in sight. -/
def zaa (l:List Pl):Pl:=Pl.ofS (l.flatMap fun p=>p.terms Mo.one)
def yz (ρ : Int -> Rat) : List Pl -> Rat
 | []=>0
 | p :: r=>p.val ρ+yz ρ r
def lnr : List Pl -> Nat
 | []=>0
 | p :: r=>p.nr+lnr r
theorem gat (l:List Pl):(zaa l).Can:=Pl.ofS_can _
theorem ga3 (ρ:Int->Rat) (a b:List Pl):yz ρ (a ++ b)=yz ρ a+yz ρ b:=by
 induction a with
 | nil=>simp [yz]; grind
 | cons x a ih=>rw [List.cons_append,yz,yz,ih]; grind
theorem uat (ρ:Int->Rat) (l:List Pl):(zaa l).val ρ=yz ρ l:=by
 unfold zaa;rw [Pl.ofS_val ρ (fun x hx=>by
  obtain ⟨p,-,hp⟩:=List.mem_flatMap.1 hx
  exact p.terms_one_nonneg x hp)]
 induction l with
 | nil=>rfl
 | cons p l ih=>rw [List.flatMap_cons,gah,Pl.terms_sval,yz,ih]
theorem yba (a b:List Pl):lnr (a ++ b)=lnr a+lnr b:=by
 induction a with
 | nil=>simp [lnr]
 | cons x a ih=>rw [List.cons_append,lnr,lnr,ih]; omega
theorem jby {l:List Pl} {n:Int} (hc:∀ p ∈ l,p.Can/\p.lv<=n) (h0:0<=n) (hn:n<=4):(zaa l).lv<=n:=by
 obtain ⟨k,rfl⟩:∃ k:Nat,n=k:=⟨n.toNat,by omega⟩;refine Pl.ofS_lv (by omega) (fun x hx=>?_) fun x hx i hi hi4=>?_
 · obtain ⟨p,-,hp⟩:=List.mem_flatMap.1 hx;exact p.terms_one_nonneg x hp
 · obtain ⟨p,hpl,hp⟩:=List.mem_flatMap.1 hx;exact Pl.exp_above (hc p hpl).1 (hc p hpl).2 x hp i hi hi4
theorem qco (p q:Pl):zaa [p,q]=p.add q:=Pl.val_uniq (gat _) (Pl.add_can _ _) fun ρ=>by rw [uat,Pl.add_val,yz,yz,yz]; grind
def stp (a:Int × Nat) (p:Pl):Int × Nat:=
 if p.lv=(if a.1 < p.lv then (p.lv,0) else a).1 then ((if a.1 < p.lv then (p.lv,0) else a).1,max (if a.1 < p.lv then (p.lv,0) else a).2 p.cs.length) else (if a.1 < p.lv then (p.lv,0) else a)
theorem qbl {a:Int × Nat} {p:Pl} (h:a.1 < p.lv):stp a p=(p.lv,p.cs.length):=by
 unfold stp; rw [if_pos h,if_pos rfl]; simp
theorem jbl {a:Int × Nat} {p:Pl} (h:p.lv=a.1):stp a p=(a.1,max a.2 p.cs.length):=by
 unfold stp; rw [if_neg (show ¬ a.1 < p.lv by omega),if_pos h]
theorem xbl {a:Int × Nat} {p:Pl} (h:p.lv < a.1):stp a p=a:=by
 unfold stp; rw [if_neg (show ¬ a.1 < p.lv by omega),if_neg (by omega)]
def jag (l:List Pl):Int × Nat:=l.foldl stp (0,0)
theorem yb6 (l:List Pl) (k:Nat) (h:k < l.length):jag (l.take (k+1))=stp (jag (l.take k)) l[k]:=by
 unfold jag;rw [List.take_succ_eq_append_getElem h,List.foldl_append]
 rfl
theorem xb6 (l:List Pl) (M:Nat) (hl:∀ p ∈ l,0<=p.lv/\p.lv<=4/\p.cs.length<=M/\(0 < p.lv->2<=p.cs.length)) :
 (0<=(jag l).1/\(jag l).1<=4/\(jag l).2<=M/\(0 < (jag l).1->2<=(jag l).2))/\∀ p ∈ l,p.lv<=(jag l).1/\(p.lv=(jag l).1->p.cs.length<=(jag l).2):=by
 have key:∀ (l:List Pl) (a:Int × Nat),(0<=a.1/\a.1<=4/\a.2<=M/\(0 < a.1->2<=a.2))->(∀ p ∈ l,0<=p.lv/\p.lv<=4/\p.cs.length<=M/\(0 < p.lv->2<=p.cs.length)) ->
  (0<=(l.foldl stp a).1/\(l.foldl stp a).1<=4/\(l.foldl stp a).2<=M/\(0 < (l.foldl stp a).1->2<=(l.foldl stp a).2))/\(a.1 < (l.foldl stp a).1\/(a.1=(l.foldl stp a).1/\a.2<=(l.foldl stp a).2))/\∀ p ∈ l,p.lv<=(l.foldl stp a).1/\(p.lv=(l.foldl stp a).1->p.cs.length<=(l.foldl stp a).2):=by
  intro l
  induction l with
  | nil=>intro a ha _; exact ⟨ha,.inr ⟨rfl,Nat.le_refl _⟩,by simp⟩
  | cons p l ih =>
    intro a ha hp;have h1:=hp p (by simp);have hs:(0<=(stp a p).1/\(stp a p).1<=4/\(stp a p).2<=M/\(0 < (stp a p).1->2<=(stp a p).2))/\(a.1 < (stp a p).1\/(a.1=(stp a p).1/\a.2<=(stp a p).2))/\(p.lv < (stp a p).1\/(p.lv=(stp a p).1/\p.cs.length<=(stp a p).2)):=by
     rcases Int.lt_trichotomy a.1 p.lv with h | h | h
     · rw [qbl h]; exact ⟨⟨h1.1,h1.2.1,h1.2.2.1,h1.2.2.2⟩,.inl h,.inr ⟨rfl,Nat.le_refl _⟩⟩
     · rw [jbl h.symm]; refine ⟨⟨ha.1,ha.2.1,by simp only; omega,fun h0=>?_⟩,.inr ⟨rfl,by simp only; omega⟩,.inr ⟨h.symm,by simp only; omega⟩⟩;have:=ha.2.2.2 h0;simp only;omega
     · rw [xbl h]; exact ⟨ha,.inr ⟨rfl,Nat.le_refl _⟩,.inl h⟩
    obtain ⟨g1,g2,g3⟩:=ih (stp a p) hs.1 (fun q hq=>hp q (by simp [hq]));rw [List.foldl_cons];generalize l.foldl stp (stp a p)=r at *;generalize stp a p=s at *;refine ⟨g1,by omega,fun q hq=>?_⟩;rcases List.mem_cons.1 hq with rfl | hq
    · omega
    · exact g3 q hq
 obtain ⟨h1,-,h3⟩:=key l (0,0) ⟨by simp,by simp,by simp,by simp⟩ hl;exact ⟨h1,h3⟩
theorem gcp (l:List Pl) (h:0 < (jag l).1):∃ p ∈ l,p.lv=(jag l).1:=by
 have key:∀ (l:List Pl) (a:Int × Nat),(l.foldl stp a).1=a.1\/∃ p ∈ l,p.lv=(l.foldl stp a).1:=by
  intro l
  induction l with
  | nil=>intro a; exact .inl rfl
  | cons p l ih =>
    intro a;rw [List.foldl_cons];rcases ih (stp a p) with h1 | ⟨q,hq,h1⟩
    · rcases Int.lt_trichotomy a.1 p.lv with h | h | h
      · exact .inr ⟨p,by simp,by rw [h1,qbl h]⟩
      · exact .inr ⟨p,by simp,by rw [h1,jbl h.symm,h]⟩
      · exact .inl (by rw [h1,xbl h])
    · exact .inr ⟨q,by simp [hq],h1⟩
 rcases key l (0,0) with h1 | h1
 · have:(jag l).1=0:=h1;omega
 · exact h1
def partsOf (lv:Int) (i:Nat) (p:Pl):List Pl:=if p.lv=lv then (p.cs[i]?).toList else if p.lv < lv/\i=0 then [p] else []
def jk (lv:Int) (i:Nat) (l:List Pl):List Pl:=l.flatMap (partsOf lv i)
theorem qbu (lv:Int) (i:Nat) (l:List Pl) (k:Nat) (h:k < l.length):jk lv i (l.take (k+1))=jk lv i (l.take k) ++ partsOf lv i l[k]:=by
 unfold jk;rw [List.take_succ_eq_append_getElem h,List.flatMap_append];simp
theorem ya5 (lv:Int) (i:Nat) (p:Pl):(partsOf lv i p).length<=1:=by
 unfold partsOf
 split
 · cases p.cs[i]? <;> simp
 · split <;> simp
theorem ja9 (lv:Int) (i:Nat) (l:List Pl):(jk lv i l).length<=l.length:=by
 induction l with
 | nil=>simp [jk]
 | cons p l ih =>
   unfold jk at ih ⊢;rw [List.flatMap_cons,List.length_append,List.length_cons];have:=ya5 lv i p;omega
theorem za5 {lv:Int} {i:Nat} {p c:Pl} (hp:p.Can) (h0:0 < lv) {E:Nat} (hE:p.ex E) (h:c ∈ partsOf lv i p):c.Can/\c.lv < lv/\c.ex E/\c.nr<=p.nr:=by
 unfold partsOf at h
 split at h
 · rename_i hl;obtain ⟨l,n,d,cs⟩:=p
   change l=lv at hl
   subst hl;have hc:c ∈ cs:=by
    simp only [Pl.cs,Option.mem_toList] at h;exact List.mem_of_getElem? h
   have hk:=(hp.kids h0).2.2.2.1.mem c hc;rw [Pl.ex] at hE;exact ⟨hk.2,hk.1,ja7 (hE.resolve_left (by omega)).2 c hc,by rw [Pl.nr,if_neg (by omega)]; exact ubn hc⟩
 · split at h
   · rename_i hl;obtain rfl:=List.mem_singleton.1 h;exact ⟨hp,hl.1,hE,Nat.le_refl _⟩
   · cases h
theorem jan {lv:Int} {i:Nat} {l:List Pl} {c:Pl} (h0:0 < lv) {E:Nat} (hl:∀ p ∈ l,p.Can/\p.ex E) (h:c ∈ jk lv i l):c.Can/\c.lv < lv/\c.ex E:=by
 obtain ⟨p,hp,hc⟩:=List.mem_flatMap.1 h;have:=za5 (hl p hp).1 h0 (hl p hp).2 hc;exact ⟨this.1,this.2.1,this.2.2.1⟩
theorem vb9 {lv:Int} {i:Nat} {l:List Pl} (h0:0 < lv) {E:Nat} (hl:∀ p ∈ l,p.Can/\p.ex E):lnr (jk lv i l)<=lnr l:=by
 induction l with
 | nil=>simp [jk,lnr]
 | cons p l ih =>
   have h1:=ih fun q hq=>hl q (by simp [hq])
   unfold jk at h1 ⊢;rw [List.flatMap_cons,yba,lnr];have h2:lnr (partsOf lv i p)<=p.nr:=by
    have hm:=fun c hc=>za5 (c:=c) (hl p (by simp)).1 h0 (hl p (by simp)).2 (i:=i) hc
    have hlen:=ya5 lv i p;generalize partsOf lv i p=q at *
    match q,hlen with
    | [],_=>simp [lnr]
    | [c],_=>have:=(hm c (by simp)).2.2.2; simpa [lnr] using this
   omega
def hsm (x : Rat) : (Nat -> Rat) -> Nat -> Rat
 | _,0=>0
 | f,n+1=>f 0+x * hsm x (fun i=>f (i+1)) n
theorem ubx (x:Rat) (n:Nat):∀ f g:Nat->Rat,hsm x (fun i=>f i+g i) n=hsm x f n+hsm x g n:=by
 induction n with
 | zero=>intro f g; simp [hsm]; grind
 | succ n ih=>intro f g; simp only [hsm]; rw [ih (fun i=>f (i+1)) (fun i=>g (i+1))]; grind
theorem jat (x:Rat) (n:Nat):hsm x (fun _=>0) n=0:=by
 induction n with
 | zero=>rfl
 | succ n ih=>simp only [hsm,ih]; grind
theorem vbf (ρ:Int->Rat) (l:Int):∀ (n:Nat) (g:Nat->Pl),qh ρ l ((List.range n).map g)=hsm (ρ l) (fun i=>(g i).val ρ) n:=by
 intro n
 induction n with
 | zero=>intro g; simp [qh,hsm]
 | succ n ih =>
   intro g;rw [List.range_succ_eq_map,List.map_cons,List.map_map,qh,hsm,<- ih (fun i=>g (i+1))]
   rfl
theorem uck (ρ:Int->Rat) (l:Int):∀ (cs:List Pl) (n:Nat),cs.length<=n->hsm (ρ l) (fun i=>yz ρ (cs[i]?).toList) n=qh ρ l cs:=by
 intro cs
 induction cs with
 | nil =>
   intro n _;rw [qh,<- jat (ρ l) n]
   congr 1
 | cons c cs ih =>
   intro n hn;obtain ⟨m,rfl⟩:∃ m,n=m+1:=⟨n - 1,by simp at hn; omega⟩;rw [hsm,qh,<- ih m (by simpa using hn)];simp [yz]
   grind
theorem wb4 {l:List Pl} {lv:Int} {n E:Nat} (h0:0 < lv) (h4:lv<=4) (hn:1<=n) (hl:∀ p ∈ l,p.Can/\p.ex E) (hlv:∀ p ∈ l,p.lv<=lv/\(p.lv=lv->p.cs.length<=n)) :
 zaa l=gaf lv ((List.range n).map fun i=>zaa (jk lv i l)):=by
 have hk:zt lv ((List.range n).map fun i=>zaa (jk lv i l)):=wag fun c hc=>by
  obtain ⟨i,-,rfl⟩:=List.mem_map.1 hc;have h1:=jby (l:=jk lv i l) (n:=lv - 1) (fun p hp=>⟨(jan h0 hl hp).1,by have:=(jan h0 hl hp).2.1; omega⟩) (by omega) (by omega);exact ⟨by omega,gat _⟩
 obtain ⟨g1,g2,g3⟩:=qbe h0 h4 hk;refine Pl.val_uniq (gat _) g1 fun ρ=>?_
 rw [g3,vbf,uat];simp only [uat];clear g1 g2 g3 hk
 induction l with
 | nil =>
   rw [yz,<- jat (ρ lv) n]
   congr 1
 | cons p l ih =>
   rw [yz,ih (fun q hq=>hl q (by simp [hq])) (fun q hq=>hlv q (by simp [hq]))];have e1:(fun i=>yz ρ (jk lv i (p :: l)))=fun i=>yz ρ (partsOf lv i p)+yz ρ (jk lv i l):=by
    funext i
    unfold jk;rw [List.flatMap_cons,ga3]
   rw [e1,ubx]
   congr 1
   obtain ⟨h1,h2⟩:=hlv p (by simp)
   by_cases he:p.lv=lv
   · have e2:(fun i=>yz ρ (partsOf lv i p))=fun i=>yz ρ (p.cs[i]?).toList:=by
      funext i
      unfold partsOf;rw [if_pos he]
     rw [e2,uck ρ lv p.cs n (h2 he)];obtain ⟨l',ng,d,cs⟩:=p
     change l'=lv at he
     subst he;exact Pl.mk_val ρ _ _ _ h0 h4
   · obtain ⟨m,rfl⟩:∃ m,n=m+1:=⟨n - 1,by omega⟩;have e2:(fun i=>yz ρ (partsOf lv i p))=fun i=>if i=0 then p.val ρ else 0:=by
      funext i
      unfold partsOf;rw [if_neg he]
      by_cases hi:i=0
      · rw [if_pos ⟨by omega,hi⟩,if_pos hi,yz,yz]; grind
      · rw [if_neg (by omega),if_neg hi,yz]
     rw [e2,hsm];have e3:(fun i=>if i+1=0 then p.val ρ else 0)=fun _:Nat=>(0:Rat):=by
      funext i
      rw [if_neg (by omega)]
     rw [if_pos rfl,e3,jat]
     grind
theorem xcd {l:List Pl} (hl:∀ p ∈ l,p.Can/\p.lv=0):zaa l=Pl.const (jaa (l.map Pl.z)):=Pl.val_uniq (gat _) (kad _) fun ρ=>by
 rw [uat,Pl.const_val]
 induction l with
 | nil=>simp [yz,jaa]
 | cons p l ih =>
   have h1:=hl p (by simp);rw [yz,ih fun q hq=>hl q (by simp [hq]),List.map_cons,jaa];have h2:p.val ρ=(Pl.const p.z).val ρ:=congrArg (fun p=>p.val ρ) (qaw h1.1 h1.2);rw [h2,Pl.const_val]
   push_cast
   rfl
theorem gcz {l:List Pl} (hl:∀ p ∈ l,p.Can/\p.lv=0):inr (l.map Pl.z)=lnr l:=by
 induction l with
 | nil=>rfl
 | cons p l ih =>
   have h1:=hl p (by simp);rw [List.map_cons,inr,lnr,ih fun q hq=>hl q (by simp [hq])];have h2:=congrArg Pl.nr (qaw h1.1 h1.2);rw [Pl.const_nr] at h2;rw [h2]
end Go.Proofs.YtaedbimbbeploaaGreatDoor
