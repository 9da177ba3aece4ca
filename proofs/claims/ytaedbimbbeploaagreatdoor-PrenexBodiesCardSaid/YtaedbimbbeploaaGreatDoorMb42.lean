/- Layer 38: prenex.To. -/
import Derived.Test.YtaedbimbbeploaaGreatDoorBodyF
import Derived.Test.YtaedbimbbeploaaGreatDoorVPx
import Derived.Test.YtaedbimbbeploaaGreatDoorMb36
import Derived.Test.YtaedbimbbeploaaGreatDoorMb37
import Derived.Test.YtaedbimbbeploaaGreatDoorMb32
import Derived.Test.YtaedbimbbeploaaGreatDoorMb23
set_option linter.unusedSimpArgs false
set_option linter.unusedVariables false

namespace Go.Proofs.YtaedbimbbeploaaGreatDoor
open Go.RowKit
end Go.Proofs.YtaedbimbbeploaaGreatDoor

/- Layer 38: the prenex form of what To returns, plain. -/
namespace Go.Proofs.YtaedbimbbeploaaGreatDoor
theorem Pl.var_val (ρ:Int->Rat) {n:Int} (h1:1<=n) (h4:n<=4):(Pl.var n).val ρ=ρ n:=by
 rw [<- Pl.sp_val,Pl.sp_var h1 h4];have hv:=Mo.val_put ρ Mo.one n 0 (by omega) h4 (Int.le_refl _);have h0:Mo.one.put n 0=Mo.one:=by unfold Mo.put Mo.one; split <;> (try split) <;> (try split) <;> rfl
 rw [h0,Mo.val_one] at hv;simp only [yl,Mo.var];rw [show (1:Int)=0+1 from rfl,hv]
 push_cast
 grind
def Mo.upto (ρ : Int -> Rat) (m : Mo) : Nat -> Rat
 | 0=>1
 | k+1=>m.upto ρ k * ρ ((k:Int)+1) ^ (m.get ((k:Int)+1)).toNat
theorem Mo.upto4 (ρ:Int->Rat) (m:Mo):m.upto ρ 4=m.val ρ:=by
 have g1:m.get 1=m.a:=rfl;have g2:m.get 2=m.b:=rfl;have g3:m.get 3=m.c:=rfl;have g4:m.get 4=m.d:=rfl;show 1 * ρ 1 ^ (m.get 1).toNat * ρ 2 ^ (m.get 2).toNat * ρ 3 ^ (m.get 3).toNat * ρ 4 ^ (m.get 4).toNat=_;rw [g1,g2,g3,g4,Mo.val]
 grind
section
variable {ρ:Int->Rat} {g:ByteArray->Int} {nms:List ByteArray}
theorem vcu {k:Nat} {n:Int} (hg:g (nms.getD k ByteArray.empty)=(k:Int)+1) (hk:k < 4) (hn:1<=n):(xh g (jo nms k n)).val ρ=ρ ((k:Int)+1) ^ n.toNat:=by
 unfold jo
 split
 · simp only [xh];rw [Pl.pow_val,hg,Pl.var_val ρ (by omega) (by omega)]
 · obtain rfl:n=1:=by omega
   simp only [xh];rw [hg,Pl.var_val ρ (by omega) (by omega)];show _=ρ ((k:Int)+1) ^ 1;rw [Rat.pow_succ,Rat.pow_zero,Rat.one_mul]
def jbc (ρ : Int -> Rat) (g : ByteArray -> Int) : Option Tm -> Rat
 | none=>1
 | some t=>(xh g t).val ρ
theorem ubo {c : Int} {m : Mo} (hv : ∀ k : Nat, k < 4 -> 0 < m.get ((k : Int) + 1) -> g (nms.getD k ByteArray.empty) = (k : Int) + 1) : ∀ k, k <= 4 -> jbc ρ g (kz c m nms k) = (c : Rat) * m.upto ρ k
 | 0,_=>by
   unfold kz
   split
   · rename_i h; rw [h]; simp [jbc,Mo.upto]
   · simp only [jbc,xh,Mo.upto]; rw [Pl.const_val]; grind
 | k+1,hk=>by
   have ih:=ubo (c:=c) hv k (by omega);unfold kz
   split
   · rename_i h;rw [ih,Mo.upto,show (m.get ((k:Int)+1)).toNat=0 by omega,Rat.pow_zero,Rat.mul_one]
   · rename_i h;have hf:=vcu (ρ:=ρ) (hv k (by omega) (by omega)) (by omega) (show 1<=m.get ((k:Int)+1) by omega);rw [Mo.upto];cases hq:kz c m nms k with
     | none =>
       rw [hq] at ih;simp only [jbc,uav] at ih ⊢;rw [hf]
       grind
     | some p =>
       rw [hq] at ih;simp only [jbc,uav,xh] at ih ⊢;rw [Pl.mul_val,ih,hf]
       grind
theorem jbg {c : Int} {m : Mo} : ∀ k, kz c m nms k = none -> c = 1
 | 0,h=>by
   unfold kz at h
   split at h
   · assumption
   · cases h
 | k+1,h=>by
   unfold kz at h
   split at h
   · exact jbg k h
   · cases h
theorem zcj {c:Int} {m:Mo} (hv:∀ k:Nat,k < 4->0 < m.get ((k:Int)+1)->g (nms.getD k ByteArray.empty)=(k:Int)+1):(xh g (monT c m nms)).val ρ=(c:Rat) * m.val ρ:=by
 have h:=ubo (ρ:=ρ) (c:=c) hv 4 (by omega);rw [Mo.upto4] at h;unfold monT;cases hq:kz c m nms 4 with
 | none =>
   rw [hq] at h;have hc:=jbg 4 hq;simp only [jbc] at h;simp only [Option.getD_none,xh];rw [Pl.const_val,<- h,hc]
   rfl
 | some p=>rw [hq] at h; exact h
def kar (ρ : Int -> Rat) (g : ByteArray -> Int) : Option Tm -> Rat
 | none=>0
 | some t=>(xh g t).val ρ
theorem jco (c:Int):((c.natAbs:Int):Rat)=if c < 0 then -(c:Rat) else (c:Rat):=by
 split
 · rw [show ((c.natAbs:Int))=-c by omega]; push_cast; rfl
 · rw [show ((c.natAbs:Int))=c by omega]
theorem qbk : ∀ (l : Sp) (o : Option Tm), (∀ x ∈ l, ∀ k : Nat, k < 4 -> 0 < x.2.get ((k : Int) + 1) -> g (nms.getD k ByteArray.empty) = (k : Int) + 1) -> kar ρ g (l.foldl (jq nms) o) = kar ρ g o + yl ρ l
 | [],o,_=>by simp only [List.foldl_nil,yl]; grind
 | (c,m) :: r,o,h=>by
   have hm:=zcj (ρ:=ρ) (c:=(c.natAbs:Int)) (h (c,m) (by simp));rw [jco] at hm;rw [List.foldl_cons,qbk r _ (fun x hx=>h x (by simp [hx]))];simp only [yl];cases o with
   | none =>
     simp only [jq]
     split <;> rename_i hc
     · rw [if_pos hc] at hm;simp only [kar,xh];rw [Pl.opp_val,hm]
       grind
     · rw [if_neg hc] at hm;simp only [kar];rw [hm]
       grind
   | some a =>
     simp only [jq]
     split <;> rename_i hc
     · rw [if_pos hc] at hm;simp only [kar,xh];rw [Pl.add_val,Pl.opp_val,hm]
       grind
     · rw [if_neg hc] at hm;simp only [kar,xh];rw [Pl.add_val,hm]
       grind
end
theorem zcq {g:ByteArray->Int} {nms:List ByteArray} (hg:∀ k:Nat,k < nms.length->g (nms.getD k ByteArray.empty)=(k:Int)+1) {p:Pl} (h:p.nf.lv<=(nms.length:Int)):xh g (sumT (jc (p.terms Mo.one)) nms)=p.nf:=by
 refine Pl.val_uniq (qch _ _) p.nf_can fun ρ=>?_
 have h1:=qbk (ρ:=ρ) (g:=g) (nms:=nms) (jc (p.terms Mo.one)) none (fun x hx k hk hp=>hg k (gba h x hx k hk hp));have h2:yl ρ (jc (p.terms Mo.one))=p.nf.val ρ:=by rw [Pl.nf_val]; exact Pl.sp_val ρ p
 rw [h2] at h1;simp only [kar] at h1;unfold sumT uai;cases hq:List.foldl (jq nms) none (jc (p.terms Mo.one)) with
 | none =>
   rw [hq] at h1;simp only [kar] at h1;simp only [Option.getD_none,xh];rw [Pl.const_val]
   push_cast
   grind
 | some t =>
   rw [hq] at h1;simp only [kar] at h1;simp only [Option.getD_some]
   grind
mutual
def Mx.fold : Mx -> Mx
 | .mk k r p ks=>if k=3\/k=4 then (match kan ks with | []=>wax (k == 3) | x :: l=>l.foldl (gab k) x) else .mk k r p ks
def kan : List Mx -> List Mx
 | []=>[]
 | t :: r=>t.fold :: kan r
end
theorem xay (l:List Mx):kan l=l.map Mx.fold:=by
 induction l with
 | nil=>rfl
 | cons t r ih=>rw [kan,ih]; rfl
theorem qbf (r:Int):zad (zad r)=zad r:=by
 unfold zad
 by_cases h:r < 1\/6 < r
 · rw [if_pos h]; rfl
 · rw [if_neg h,if_neg h]
theorem zbp {nms : List ByteArray} (hd : ∀ i (h : i < nms.length), hasB (nms.take i) nms[i] = false) : ∀ n, n <= nms.length -> ∀ k, k < n -> qab nms n (nms.getD k ByteArray.empty) = (k : Int) + 1
 | 0,_,k,hk=>by omega
 | n+1,hn,k,hk=>by
   rw [za1 nms n (by omega)];have hkl:nms.getD k ByteArray.empty=nms[k]'(by omega):=by rw [List.getD_eq_getElem?_getD,List.getElem?_eq_getElem (by omega)]; rfl
   by_cases he:k=n
   · subst he;simp only [hkl,if_true];omega
   · have hne:¬ nms.getD k ByteArray.empty=nms[n]:=fun e=>by
      have h1:=hd n (by omega);have h2:hasB (nms.take n) nms[n]=true:=(wbp _ _).2 (by
       rw [<- e,hkl]
       exact List.mem_take_iff_getElem.2 ⟨k,by omega,rfl⟩)
      rw [h1] at h2;cases h2
     simp only [if_neg hne];exact zbp hd n (by omega) k (by omega)
end Go.Proofs.YtaedbimbbeploaaGreatDoor

/- Layer 38: the formula that To returns: names, quantifiers, sizes, Check; plain. -/
set_option maxRecDepth 100000
set_option maxHeartbeats 8000000
namespace Go.Proofs.YtaedbimbbeploaaGreatDoor
def Tm.allN (P : ByteArray -> Prop) : Tm -> Prop
 | .num _=>True
 | .name s=>P s
 | .add a b=>a.allN P/\b.allN P
 | .sub a b=>a.allN P/\b.allN P
 | .mul a b=>a.allN P/\b.allN P
 | .neg a=>a.allN P
 | .pow a _=>a.allN P
def Fm.flat (P : ByteArray -> Prop) : Fm -> Prop
 | .truth _=>True
 | .atom l _ k=>l.allN P/\k.allN P
 | .and f g=>f.flat P/\g.flat P
 | .or f g=>f.flat P/\g.flat P
 | _=>False
section
variable {P:ByteArray->Prop}
variable {nms:List ByteArray}
theorem ucu {k:Nat} {n:Int} (h:P (nms.getD k ByteArray.empty)):(jo nms k n).allN P/\(jo nms k n).sz<=2:=by
 unfold jo; split <;> exact ⟨h,by simp [Tm.sz]⟩
theorem ka7 {c : Int} {m : Mo} (hv : ∀ k : Nat, k < 4 -> 0 < m.get ((k : Int) + 1) -> P (nms.getD k ByteArray.empty)) : ∀ k, k <= 4 -> ∀ t, kz c m nms k = some t -> t.allN P /\ t.sz <= 1 + 3 * k
 | 0,_,t,h=>by
   unfold kz at h
   split at h
   · cases h
   · injection h with h; subst h; exact ⟨trivial,by simp [Tm.sz]⟩
 | k+1,hk,t,h=>by
   unfold kz at h
   split at h
   · have:=ka7 hv k (by omega) t h;exact ⟨this.1,by omega⟩
   · rename_i hp;injection h with h
     have hf:=ucu (n:=m.get ((k:Int)+1)) (hv k (by omega) (by omega));cases hq:kz c m nms k with
     | none=>rw [hq] at h; subst h; exact ⟨hf.1,by have:=hf.2; simp only [uav]; omega⟩
     | some p =>
       rw [hq] at h; subst h;have:=ka7 hv k (by omega) p hq;exact ⟨⟨this.1,hf.1⟩,by have:=hf.2; simp only [uav,Tm.sz]; omega⟩
theorem ycj {c:Int} {m:Mo} (hv:∀ k:Nat,k < 4->0 < m.get ((k:Int)+1)->P (nms.getD k ByteArray.empty)):(monT c m nms).allN P/\(monT c m nms).sz<=13:=by
 unfold monT;cases hq:kz c m nms 4 with
 | none=>exact ⟨trivial,by simp [Tm.sz]⟩
 | some p=>exact ka7 hv 4 (by omega) p hq
theorem jbk : ∀ (l : Sp) (o : Option Tm) (n : Nat), (∀ x ∈ l, ∀ k : Nat, k < 4 -> 0 < x.2.get ((k : Int) + 1) -> P (nms.getD k ByteArray.empty)) -> (∀ t, o = some t -> t.allN P /\ t.sz <= n) -> ∀ t, l.foldl (jq nms) o = some t -> t.allN P /\ t.sz <= n + 15 * l.length
 | [],o,n,_,ho,t,ht=>by have:=ho t ht; exact ⟨this.1,by simpa using this.2⟩
 | (c,m) :: r,o,n,h,ho,t,ht=>by
   have hm:=ycj (P:=P) (nms:=nms) (c:=(c.natAbs:Int)) (m:=m) (fun k hk hp=>h (c,m) (by simp) k hk hp);rw [List.foldl_cons] at ht;have:=jbk r _ (n+15) (fun x hx=>h x (by simp [hx])) (fun u hu=>?_) t ht
   · exact ⟨this.1,by simp only [List.length_cons]; omega⟩
   · cases o with
     | none =>
       simp only [jq] at hu;injection hu with hu
       subst hu
       split
       · exact ⟨hm.1,by simp only [Tm.sz]; omega⟩
       · exact ⟨hm.1,by omega⟩
     | some a =>
       have ha:=ho a rfl;simp only [jq] at hu;injection hu with hu
       subst hu
       split
       · exact ⟨⟨ha.1,hm.1⟩,by simp only [Tm.sz]; omega⟩
       · exact ⟨⟨ha.1,hm.1⟩,by simp only [Tm.sz]; omega⟩
theorem va6 {l:Sp} (h:∀ x ∈ l,∀ k:Nat,k < 4->0 < x.2.get ((k:Int)+1)->P (nms.getD k ByteArray.empty)):(sumT l nms).allN P/\(sumT l nms).sz<=1+15 * l.length:=by
 unfold sumT uai;cases hq:List.foldl (jq nms) none l with
 | none=>exact ⟨trivial,by simp [Tm.sz]⟩
 | some t=>have:=jbk l none 0 h (by simp) t hq; exact ⟨this.1,by simp only [Option.getD_some]; omega⟩
theorem foldl_flat {k : Int} : ∀ (fs : List Fm) (f : Fm), f.flat P -> (∀ g ∈ fs, g.flat P) -> (fs.foldl (fun a g => if k = 3 then .and a g else .or a g) f).flat P /\ (fs.foldl (fun a g => if k = 3 then .and a g else .or a g) f).sz = f.sz + (fs.map Fm.sz).sum + fs.length
 | [],f,h,_=>⟨h,by simp⟩
 | g :: r,f,h,h2=>by
   rw [List.foldl_cons];have:=foldl_flat (k:=k) r (if k=3 then .and f g else .or f g) (by split <;> exact ⟨h,h2 g (by simp)⟩) (fun x hx=>h2 x (by simp [hx]));refine ⟨this.1,?_⟩;rw [this.2];have:(if k=3 then Fm.and f g else Fm.or f g).sz=f.sz+g.sz+1:=by split <;> rfl
   rw [this];simp only [List.map_cons,List.sum_cons,List.length_cons];omega
theorem zcd (hP:∀ k,k < nms.length->P (nms.getD k ByteArray.empty)) (n:Nat):∀ (t:Mx),t.sz < n->t.small->t.lvl<=(nms.length:Int)->(t.bodyF nms).flat P/\(t.bodyF nms).sz+1000<=2000 * t.sz:=by
 induction n with
 | zero=>intro t h; omega
 | succ n ih =>
   intro t hsz hsm hl;have ht1:1<=t.sz:=by cases t; simp [Mx.sz]
   rw [Mx.bodyF_eq];rw [Mx.lvl_eq] at hl
   by_cases k1:t.kind=1
   · rw [if_pos k1]; exact ⟨trivial,by simp only [Fm.sz]; omega⟩
   rw [if_neg k1]
   by_cases k2:t.kind=2
   · rw [if_pos k2];rw [if_pos k2] at hl;obtain ⟨h1,h2⟩:=va6 (P:=P) (l:=jc (t.p.terms Mo.one)) (fun x hx k hk hp=>hP k (gba hl x hx k hk hp));have h3:=xaq (t.p.terms Mo.one);have h4:=Pl.terms_len t.p Mo.one;have h5:=(Mx.p_small hsm).1;exact ⟨⟨h1,trivial⟩,by simp only [Fm.sz,Tm.sz]; omega⟩
   rw [if_neg k2];rw [if_neg k2] at hl
   by_cases k34:t.kind=3\/t.kind=4
   · rw [if_pos k34];rw [if_pos k34] at hl;have hks:=(zbd t.ks _ 0 hl).2;have hsk:=Mx.ks_small hsm;have hk:∀ x ∈ t.ks,(x.bodyF nms).flat P/\(x.bodyF nms).sz+1000<=2000 * x.sz:=fun x hx=>ih x (by
      obtain ⟨i,hi,rfl⟩:=List.getElem_of_mem hx;have:=Mx.kid_le t i hi
      omega) (kae hsk hx) (hks x hx)
     have hsum:∀ l:List Mx,(∀ x ∈ l,(x.bodyF nms).flat P/\(x.bodyF nms).sz+1000<=2000 * x.sz)->((l.map (Mx.bodyF nms)).map Fm.sz).sum+1000 * l.length<=2000 * qw l:=by
      intro l
      induction l with
      | nil=>intro _; simp [qw]
      | cons x r ihl =>
        intro h;have h1:=(h x (by simp)).2;have h2:=ihl (fun y hy=>h y (by simp [hy]));simp only [List.map_cons,List.sum_cons,List.length_cons,qw];omega
     have hts:t.sz=qw t.ks+1:=by cases t; rfl
     have hsum':=hsum t.ks hk;generalize t.ks=ks at *;cases ks with
     | nil=>simp only [List.map_nil,wad]; exact ⟨trivial,by simp only [Fm.sz]; omega⟩
     | cons x r =>
       simp only [List.map_cons,wad];have:=foldl_flat (P:=P) (k:=t.kind) (r.map (Mx.bodyF nms)) (x.bodyF nms) (hk x (by simp)).1 (fun g hg=>by
        obtain ⟨y,hy,rfl⟩:=List.mem_map.1 hg
        exact (hk y (by simp [hy])).1)
       refine ⟨this.1,?_⟩;rw [this.2];simp only [List.map_cons,List.sum_cons,List.length_cons,List.length_map] at hsum' ⊢;omega
   · rw [if_neg k34]; exact ⟨trivial,by simp only [Fm.sz]; omega⟩
variable {all:List Bool} {f:Fm}
end
end Go.Proofs.YtaedbimbbeploaaGreatDoor

/- Layer 38: the formula of a matrix is that of the folded one; degree and weight of its terms, plain. -/
namespace Go.Proofs.YtaedbimbbeploaaGreatDoor
def Mo.sumK (m : Mo) : Nat -> Int
 | 0=>0
 | k+1=>m.sumK k+m.get ((k:Int)+1)
def Mo.tot (m:Mo):Int:=m.a+m.b+m.c+m.d
theorem Mo.sumK4 (m:Mo):m.sumK 4=m.tot:=by
 show 0+m.get 1+m.get 2+m.get 3+m.get 4=_;have g1:m.get 1=m.a:=rfl;have g2:m.get 2=m.b:=rfl;have g3:m.get 3=m.c:=rfl;have g4:m.get 4=m.d:=rfl;rw [g1,g2,g3,g4,Mo.tot]; omega
theorem Mo.get_nn {m:Mo} (h:m.nonneg) (k:Nat):0<=m.get ((k:Int)+1):=by
 obtain ⟨h1,h2,h3,h4⟩:=h;unfold Mo.get
 split
 · exact h1
 · split
   · exact h2
   · split
     · exact h3
     · exact h4
theorem Mo.sumK_nn {m : Mo} (h : m.nonneg) : ∀ k, 0 <= m.sumK k
 | 0=>Int.le_refl 0
 | k+1=>by have:=Mo.sumK_nn h k; have:=Mo.get_nn h k; show 0<=m.sumK k+_; omega
theorem yak {n:Int} (h:0<=n):uf n<=n:=(kam h).2.2
theorem zcn:uf 1=1:=rfl
theorem zcy {nms:List ByteArray} {i:Nat} {n:Int} (h:1<=n):(jo nms i n).deg<=n/\(jo nms i n).wt<=n:=by
 unfold jo
 split
 · rename_i h1;have e0:je n 0=n:=by unfold je; rw [if_neg (by omega)]
   have e1:je n 1=n:=by unfold je; rw [if_neg (by omega)]
   simp only [Tm.deg,Tm.wt,e0,e1,xal,zcn,Int.mul_one];have h2:=kam (n:=n) (by omega);have h3:=yak h2.1;exact ⟨by omega,by omega⟩
 · exact ⟨by simp only [Tm.deg]; omega,by simp only [Tm.wt]; omega⟩
theorem ybx {c : Int} {m : Mo} {nms : List ByteArray} (h : m.nonneg) : ∀ k t, kz c m nms k = some t -> t.deg <= m.sumK k /\ t.wt <= (qo c.natAbs : Nat) + m.sumK k
 | 0,t,e=>by
   unfold kz at e
   split at e
   · cases e
   · injection e with e
     subst e;refine ⟨Int.le_refl 0,?_⟩;have:=yak (n:=(qo c.natAbs:Nat)) (by omega);show uf _<=_+(0:Int);omega
 | k+1,t,e=>by
   have ih:=ybx (c:=c) (nms:=nms) h k;have hg:=Mo.get_nn h k;have hs:=Mo.sumK_nn h k;unfold kz at e;simp only [Mo.sumK]
   split at e
   · have:=ih t e; exact ⟨by omega,by omega⟩
   · rename_i hn;have hf:=zcy (nms:=nms) (i:=k) (n:=m.get ((k:Int)+1)) (by omega);injection e with e
     subst e;cases hq:kz c m nms k with
     | none=>simp only [uav]; exact ⟨by omega,by omega⟩
     | some p =>
       have hp:=ih p hq;simp only [uav,Tm.deg,Tm.wt];have d1:=p.deg_bd;have d2:=(jo nms k (m.get ((k:Int)+1))).deg_bd;have w1:=p.wt_bd;have w2:=(jo nms k (m.get ((k:Int)+1))).wt_bd;have c1:=yak (n:=p.deg+(jo nms k (m.get ((k:Int)+1))).deg) (by omega);have c2:=yak (n:=p.wt+(jo nms k (m.get ((k:Int)+1))).wt) (by omega);exact ⟨by omega,by omega⟩
theorem kct {c:Int} {m:Mo} {nms:List ByteArray} (h:m.nonneg):(monT c m nms).deg<=m.tot/\(monT c m nms).wt<=(qo c.natAbs:Nat)+m.tot:=by
 have h0:=Mo.sumK_nn h 4;rw [Mo.sumK4] at h0;unfold monT;cases hq:kz c m nms 4 with
 | none =>
   have:=yak (n:=(qo c.natAbs:Nat)) (by omega);exact ⟨h0,by show uf _<=_; omega⟩
 | some t =>
   have:=ybx h 4 t hq;rw [Mo.sumK4] at this;exact this
theorem wbc (a b:Int):a<=je a b/\b<=je a b:=by unfold je; split <;> omega
theorem ya3 {a b c:Int} (h:a<=c) (k:b<=c):je a b<=c:=by unfold je; split <;> omega
def uw (l:Sp):Int:=l.foldl (fun a x=>je a x.2.tot) (-1)
def vag (l:Sp):Int:=l.foldl (fun a x=>je a (qo x.1.natAbs:Nat)) 1
theorem yaj (f : Int × Mo -> Int) : ∀ (l : Sp) (a : Int), a <= l.foldl (fun a x => je a (f x)) a /\ ∀ x ∈ l, f x <= l.foldl (fun a x => je a (f x)) a
 | [],a=>⟨Int.le_refl a,fun x hx=>by cases hx⟩
 | y :: r,a=>by
   have h:=yaj f r (je a (f y));have hm:=wbc a (f y);simp only [List.foldl_cons];refine ⟨by omega,fun x hx=>?_⟩;rcases List.mem_cons.1 hx with rfl | hx
   · omega
   · exact h.2 x hx
theorem kag (f : Int × Mo -> Int) {c : Int} : ∀ (l : Sp) (a : Int), a <= c -> (∀ x ∈ l, f x <= c) -> l.foldl (fun a x => je a (f x)) a <= c
 | [],_,h,_=>h
 | y :: r,a,h,hx=>by
   simp only [List.foldl_cons];exact kag f r _ (ya3 h (hx y (by simp))) (fun x k=>hx x (by simp [k]))
theorem jbw {nms : List ByteArray} {D G : Int} (hG : 0 <= G + D) : ∀ (l : Sp) (o : Option Tm) (j : Int), 0 <= j -> (∀ x ∈ l, x.2.nonneg /\ x.2.tot <= D /\ ((qo x.1.natAbs : Nat) : Int) <= G) -> (∀ t, o = some t -> t.deg <= D /\ t.wt <= G + D + j) -> ∀ t, l.foldl (jq nms) o = some t -> t.deg <= D /\ t.wt <= G + D + j + (l.length : Int)
 | [],o,j,_,_,ho,t,e=>by have:=ho t e; simp only [List.length_nil]; exact ⟨this.1,by omega⟩
 | (c,m) :: r,o,j,hj,hl,ho,t,e=>by
   obtain ⟨h1,h2,h3⟩:=hl (c,m) (by simp);simp only at h1 h2 h3;have hm:=kct (c:=(c.natAbs:Int)) (nms:=nms) h1;rw [Int.natAbs_natCast] at hm;have hmd:=(monT (c.natAbs:Int) m nms).deg_bd;have hmw:=(monT (c.natAbs:Int) m nms).wt_bd;rw [List.foldl_cons] at e;have:=jbw hG r (jq nms o (c,m)) (j+1) (by omega) (fun x hx=>hl x (by simp [hx])) (fun u hu=>by
    cases o with
    | none =>
      simp only [jq] at hu;injection hu with hu
      subst hu
      split
      · simp only [Tm.deg,Tm.wt]; exact ⟨by omega,by omega⟩
      · exact ⟨by omega,by omega⟩
    | some a =>
      obtain ⟨a1,a2⟩:=ho a rfl;have a3:=a.deg_bd;have a4:=a.wt_bd;simp only [jq] at hu;injection hu with hu
      subst hu;have m1:=ya3 (c:=D) a1 (show (monT (c.natAbs:Int) m nms).deg<=D by omega);have m2:=ya3 (c:=G+D+j) a2 (show (monT (c.natAbs:Int) m nms).wt<=G+D+j by omega);have m3:=wbc a.wt (monT (c.natAbs:Int) m nms).wt;have m4:=yak (n:=je a.wt (monT (c.natAbs:Int) m nms).wt+1) (by omega)
      split
      · simp only [Tm.deg,Tm.wt]; exact ⟨m1,by omega⟩
      · simp only [Tm.deg,Tm.wt]; exact ⟨m1,by omega⟩) t e
   simp only [List.length_cons]
   push_cast
   exact ⟨this.1,by omega⟩
theorem qbw {nms:List ByteArray} {l:Sp} (h:∀ x ∈ l,x.2.nonneg):(sumT l nms).deg<=je 0 (uw l)/\(sumT l nms).wt<=vag l+je 0 (uw l)+(l.length:Int):=by
 have h0:=wbc 0 (uw l);have h1:=yaj (fun x=>(qo x.1.natAbs:Nat)) l 1;have h2:=yaj (fun x=>x.2.tot) l (-1);have h3:=jbw (nms:=nms) (D:=je 0 (uw l)) (G:=vag l) (by unfold vag; omega) l none 0 (Int.le_refl 0) (fun x hx=>⟨h x hx,by have:=h2.2 x hx; unfold uw at *; omega,h1.2 x hx⟩) (fun t e=>by cases e);unfold sumT;cases hq:uai l nms with
 | none =>
   refine ⟨h0.1,?_⟩;show uf (qo 0:Nat)<=_;have:uf (qo 0:Nat)=1:=by rw [show qo 0=1 by unfold qo; simp]; rfl
   unfold vag;omega
 | some t =>
   have:=h3 t hq;exact ⟨this.1,by show t.wt<=_; omega⟩
theorem Pl.nf_sp (p:Pl):jc (p.nf.terms Mo.one)=jc (p.terms Mo.one):=qav fun k _=>p.nf_coef k
theorem vba {k : Int} (hk : k = 3 \/ k = 4) (nms : List ByteArray) : ∀ (fs : List Fm) (f : Fm) (m : Mx) (ms : List Mx), m.bodyF nms = f -> ms.map (Mx.bodyF nms) = fs -> (ms.foldl (gab k) m).bodyF nms = fs.foldl (fun a g => if k = 3 then .and a g else .or a g) f
 | fs,f,m,[],h,h2=>by
   subst h2;exact h
 | fs,f,m,x :: q,h,h2=>by
   subst h2;rw [List.map_cons,List.foldl_cons,List.foldl_cons];refine vba hk nms _ _ _ q ?_ rfl;rw [gab,Mx.bodyF,if_neg (by omega),if_neg (by omega),if_pos hk];simp only [xa2,wad,List.foldl_cons,List.foldl_nil,h]
theorem wcc {nms:List ByteArray} (n:Nat):∀ (t:Mx),t.sz < n->t.nrm.fold.bodyF nms=t.bodyF nms:=by
 induction n with
 | zero=>intro t h; omega
 | succ n ih =>
   intro t hsz;rw [Mx.bodyF_eq nms t,Mx.nrm_eq]
   by_cases k1:t.kind=1
   · rw [if_pos k1,if_pos k1,Mx.fold,if_neg (by omega),Mx.bodyF]; rfl
   rw [if_neg k1,if_neg k1]
   by_cases k2:t.kind=2
   · rw [if_pos k2,if_pos k2,Mx.fold,if_neg (by omega),Mx.bodyF,if_neg (by omega),if_pos rfl,qbf,Pl.nf_sp]
   rw [if_neg k2,if_neg k2]
   by_cases k34:t.kind=3\/t.kind=4
   · rw [if_pos k34,if_pos k34,Mx.fold,if_pos k34,xay];have hk:∀ x ∈ t.ks,x.nrm.fold.bodyF nms=x.bodyF nms:=fun x hx=>ih x (by
      obtain ⟨i,hi,rfl⟩:=List.getElem_of_mem hx;have:=Mx.kid_le t i hi
      omega)
     generalize t.ks=ks at *;cases ks with
     | nil=>simp only [List.map_nil,wad]; rcases k34 with h | h <;> rw [h] <;> rfl
     | cons x r =>
       simp only [List.map_cons,wad];refine vba k34 nms _ _ _ _ (hk x (by simp)) ?_;rw [List.map_map,List.map_map];refine List.map_congr_left fun y hy=>?_
       exact hk y (by simp [hy])
   · rw [if_neg k34,if_neg k34,Mx.fold,if_neg (by omega),Mx.bodyF]; rfl
inductive FN : Mx -> Prop
 | tr (b:Bool):FN (wax b)
 | at (r:Int) (p:Pl):FN (ubc (zad r) p.nf)
 | join (k:Int) (a b:Mx):k=3\/k=4->FN a->FN b->FN (gab k a b)
theorem vbq {k : Int} (hk : k = 3 \/ k = 4) : ∀ (l : List Mx) (m : Mx), FN m -> (∀ x ∈ l, FN x) -> FN (l.foldl (gab k) m)
 | [],_,h,_=>h
 | x :: r,m,h,hl=>by
   rw [List.foldl_cons];exact vbq hk r _ (.join k m x hk h (hl x (by simp))) (fun y hy=>hl y (by simp [hy]))
theorem kcu (n:Nat):∀ (t:Mx),t.sz < n->FN t.nrm.fold:=by
 induction n with
 | zero=>intro t h; omega
 | succ n ih =>
   intro t hsz;rw [Mx.nrm_eq]
   by_cases k1:t.kind=1
   · rw [if_pos k1,Mx.fold,if_neg (by omega)]; exact .tr true
   rw [if_neg k1]
   by_cases k2:t.kind=2
   · rw [if_pos k2,Mx.fold,if_neg (by omega)]; exact .at _ _
   rw [if_neg k2]
   by_cases k34:t.kind=3\/t.kind=4
   · rw [if_pos k34,Mx.fold,if_pos k34,xay];have hk:∀ x ∈ t.ks,FN x.nrm.fold:=fun x hx=>ih x (by
      obtain ⟨i,hi,rfl⟩:=List.getElem_of_mem hx;have:=Mx.kid_le t i hi
      omega)
     generalize t.ks=ks at *;cases ks with
     | nil=>simp only [List.map_nil]; exact .tr _
     | cons x r =>
       simp only [List.map_cons];refine vbq k34 _ _ (hk x (by simp)) (fun y hy=>?_);rw [List.map_map] at hy;obtain ⟨z,hz,rfl⟩:=List.mem_map.1 hy;exact hk z (by simp [hz])
   · rw [if_neg k34,Mx.fold,if_neg (by omega)]; exact .tr false
end Go.Proofs.YtaedbimbbeploaaGreatDoor
