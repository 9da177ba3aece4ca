/- Layer 40: the truth of a formula. -/
import Derived.Test.YtheefiaoimbeiaaGreatDoorMt14
import Derived.Test.YtheefiaoimbeiaaGreatDoorMt8
import Derived.Test.YtheefiaoimbeiaaGreatDoorMt26
import Derived.Test.YtheefiaoimbeiaaGreatDoorMt25
import Derived.Test.YtheefiaoimbeiaaGreatDoorMt16
import Derived.Lib.MinMax
import Derived.Test.YtheefiaoimbeiaaGreatDoorMt6
import Derived.Test.YtheefiaoimbeiaaGreatDoorMt3
import Derived.Test.YtheefiaoimbeiaaGreatDoorMt19
import Derived.Laws.StructEq
import Derived.Test.YtheefiaoimbeiaaGreatDoorMt15
import Derived.Test.YtheefiaoimbeiaaGreatDoorMt18
import Derived.Test.YtheefiaoimbeiaaGreatDoorMt20
import Derived.Test.YtheefiaoimbeiaaGreatDoorMt24
import Derived.Test.YtheefiaoimbeiaaGreatDoorMt21
import Derived.Test.YtheefiaoimbeiaaGreatDoorMt7
import Derived.Test.YtheefiaoimbeiaaGreatDoorMt23
set_option linter.unusedSimpArgs false
set_option linter.unusedVariables false

namespace Go.Proofs.YtheefiaoimbeiaaGreatDoor
open Go.RowKit
attribute [local go_sem] xaa xy gaa zaa kaa jaa yaa yt qy qaa uaa yad qm vaa ut
def Fm.tv (g : ByteArray -> Option Rat) : Fm -> Bool
 | .truth b=>b
 | .atom l r k=>jac r (ya1 (l.val g) (k.val g))
 | .not f=>!f.tv g
 | .and f h=>f.tv g && h.tv g
 | .or f h=>f.tv g || h.tv g
 | .imp f h=>!f.tv g || h.tv g
 | .iff f h=>f.tv g == h.tv g
 | .quant _ _ _=>false
section
variable {w0 w:World} {L b:Nat} {g:ByteArray->Option Rat}
end
end Go.Proofs.YtheefiaoimbeiaaGreatDoor

/- Layer 40: evaluate.truth of a matrix. -/
namespace Go.Proofs.YtheefiaoimbeiaaGreatDoor
open Go.RowKit
mutual
def Mx.tv (ρ : Int -> Rat) : Mx -> Bool
 | .mk k r p ks=>if k=1 then true else if k=2 then jac r (sgQ (p.val ρ)) else if k=3 then allM ρ ks else if k=4 then anyM ρ ks else false
def allM (ρ : Int -> Rat) : List Mx -> Bool
 | []=>true
 | t :: r=>t.tv ρ && allM ρ r
def anyM (ρ : Int -> Rat) : List Mx -> Bool
 | []=>false
 | t :: r=>t.tv ρ || anyM ρ r
end
theorem Mx.tv_eq (ρ:Int->Rat) (t:Mx):t.tv ρ=if t.kind=1 then true else if t.kind=2 then jac t.rel (sgQ (t.p.val ρ)) else if t.kind=3 then allM ρ t.ks else if t.kind=4 then anyM ρ t.ks else false:=by
 cases t; rw [Mx.tv]; rfl
theorem wa4 (ρ:Int->Rat) (a b:List Mx):allM ρ (a ++ b)=(allM ρ a && allM ρ b):=by
 induction a with
 | nil=>simp [allM]
 | cons x r ih=>simp only [List.cons_append,allM,ih,Bool.and_assoc]
theorem ga4 (ρ:Int->Rat) (a b:List Mx):anyM ρ (a ++ b)=(anyM ρ a || anyM ρ b):=by
 induction a with
 | nil=>simp [anyM]
 | cons x r ih=>simp only [List.cons_append,anyM,ih,Bool.or_assoc]
theorem wb8 (ρ:Int->Rat) (l:List Mx) (k:Nat) (hk:k < l.length):allM ρ (l.take (k+1))=(allM ρ (l.take k) && l[k].tv ρ):=by
 rw [List.take_succ_eq_append_getElem hk,wa4]; simp [allM]
theorem ub8 (ρ:Int->Rat) (l:List Mx) (k:Nat) (hk:k < l.length):anyM ρ (l.take (k+1))=(anyM ρ (l.take k) || l[k].tv ρ):=by
 rw [List.take_succ_eq_append_getElem hk,ga4]; simp [anyM]
theorem uck (ρ:Int->Rat) (l:List Mx) (k:Nat) (h:allM ρ (l.take k)=false):allM ρ l=false:=by
 rw [<- List.take_append_drop k l,wa4,h]; rfl
theorem vck (ρ:Int->Rat) (l:List Mx) (k:Nat) (h:anyM ρ (l.take k)=true):anyM ρ l=true:=by
 rw [<- List.take_append_drop k l,ga4,h]; rfl
end Go.Proofs.YtheefiaoimbeiaaGreatDoor

/- Reference 34: Degree. -/
namespace Go.Proofs.YtheefiaoimbeiaaGreatDoor
open Go.RowKit
section
variable {L:Nat} {p:Nat->Prop}
end
end Go.Proofs.YtheefiaoimbeiaaGreatDoor

/- Reference 34: Int. -/
namespace Go.Proofs.YtheefiaoimbeiaaGreatDoor
open Go.RowKit
end Go.Proofs.YtheefiaoimbeiaaGreatDoor

/- Reference 34: Digits: how many decimal digits a number has, by dividing it by ten again and again. -/
namespace Go.Proofs.YtheefiaoimbeiaaGreatDoor
open Go.RowKit
end Go.Proofs.YtheefiaoimbeiaaGreatDoor

/- Reference 34: Weight; reference 40: exceeds. -/
namespace Go.Proofs.YtheefiaoimbeiaaGreatDoor
open Go.RowKit
section
variable {L:Nat} {p:Nat->Prop}
end
end Go.Proofs.YtheefiaoimbeiaaGreatDoor

/- Reference 40: find, Short, Few. -/
namespace Go.Proofs.YtheefiaoimbeiaaGreatDoor
open Go.RowKit
end Go.Proofs.YtheefiaoimbeiaaGreatDoor

/- Reference 40: Short, Few: values of a size that is looked at. -/
namespace Go.Proofs.YtheefiaoimbeiaaGreatDoor
open Go.RowKit
end Go.Proofs.YtheefiaoimbeiaaGreatDoor

/- Reference 40: named. -/
namespace Go.Proofs.YtheefiaoimbeiaaGreatDoor
open Go.RowKit
end Go.Proofs.YtheefiaoimbeiaaGreatDoor

/- evaluate.large (this text stood at XWt's end; gen/Deg.py prints both in one). -/
namespace Go.Proofs.YtheefiaoimbeiaaGreatDoor
open Go.RowKit
end Go.Proofs.YtheefiaoimbeiaaGreatDoor

/- Reference 40: exceeds. -/
namespace Go.Proofs.YtheefiaoimbeiaaGreatDoor
open Go.RowKit
section
variable {L:Nat} {p:Nat->Prop}
end
end Go.Proofs.YtheefiaoimbeiaaGreatDoor

/- Layer 40: evaluate.Formula, evaluate.Term. -/
namespace Go.Proofs.YtheefiaoimbeiaaGreatDoor
open Go.RowKit Go.Shelf
attribute [local go_sem] Oper.semAt_some
attribute [local go_sem] xaa xy gaa zaa kaa jaa yaa yt qy qaa uaa yad qm vaa ut
end Go.Proofs.YtheefiaoimbeiaaGreatDoor

/- Layer 40: evaluate.Term. -/
namespace Go.Proofs.YtheefiaoimbeiaaGreatDoor
open Go.RowKit
end Go.Proofs.YtheefiaoimbeiaaGreatDoor

/- Reference 40: value. -/
namespace Go.Proofs.YtheefiaoimbeiaaGreatDoor
open Go.RowKit
section
variable {L:Nat} {p:Nat->Prop} {s:Value} {vals:List (ByteArray × Rat)}
end
end Go.Proofs.YtheefiaoimbeiaaGreatDoor

/- Reference 40: Term. -/
namespace Go.Proofs.YtheefiaoimbeiaaGreatDoor
open Go.RowKit
end Go.Proofs.YtheefiaoimbeiaaGreatDoor

/- The plain law of EvaluateTerms: a tree that passes Is is the tree of a term; names; sizes. -/
namespace Go.Proofs.YtheefiaoimbeiaaGreatDoor
open Go.RowKit
def Tm.nms : Tm -> List ByteArray
 | .num _=>[]
 | .name s=>[s]
 | .add a b=>a.nms ++ b.nms
 | .sub a b=>a.nms ++ b.nms
 | .mul a b=>a.nms ++ b.nms
 | .neg a=>a.nms
 | .pow a _=>a.nms
theorem xk (g:ByteArray->Option Rat) (a b:List ByteArray):ww g (a ++ b)=(ww g a && ww g b):=by unfold ww; rw [List.all_append]
theorem Tm.covered_nms (g:ByteArray->Option Rat) (m:Tm):ww g m.nms=true ↔ m.covered g:=by
 induction m with
 | num z=>simp [Tm.nms,Tm.covered,ww]
 | name s=>simp [Tm.nms,Tm.covered,ww]
 | add a b iha ihb=>simp only [Tm.nms,Tm.covered,xk,Bool.and_eq_true,iha,ihb]
 | sub a b iha ihb=>simp only [Tm.nms,Tm.covered,xk,Bool.and_eq_true,iha,ihb]
 | mul a b iha ihb=>simp only [Tm.nms,Tm.covered,xk,Bool.and_eq_true,iha,ihb]
 | neg a iha=>exact iha
 | pow a e iha=>exact iha
theorem ycs (l:List ByteArray) (s:ByteArray) (h:has l s=true):s ∈ l:=by
 unfold has at h;simpa using h
theorem ubb (g:ByteArray->Option Rat) (a:ByteArray->Int) (s:ByteArray) (ha:a s=0) (l:List ByteArray):ww g (zi a s l)=(ww g l && (g s).isSome):=by
 unfold zi
 by_cases h:has l s=false
 · rw [if_pos ⟨ha,h⟩,xk]; simp [ww]
 · rw [if_neg (fun e=>h e.2)];have hm:=ycs l s (by simpa using h);cases hg:(g s).isSome with
   | true=>simp
   | false =>
     have:ww g l=false:=List.all_eq_false.2 ⟨s,hm,by rw [hg]; simp⟩;simp [this]
theorem Tm.fold_cover (g:ByteArray->Option Rat) (a:ByteArray->Int) (ha:∀ s,a s=0) (m:Tm):∀ l,ww g (m.fold (zi a) l)=(ww g l && ww g m.nms):=by
 induction m with
 | num z=>intro l; simp [Tm.fold,Tm.nms,ww]
 | name s=>intro l; rw [Tm.fold,ubb g a s (ha s)]; simp [Tm.nms,ww]
 | add x y ihx ihy=>intro l; rw [Tm.fold,ihy,ihx,Tm.nms,xk,Bool.and_assoc]
 | sub x y ihx ihy=>intro l; rw [Tm.fold,ihy,ihx,Tm.nms,xk,Bool.and_assoc]
 | mul x y ihx ihy=>intro l; rw [Tm.fold,ihy,ihx,Tm.nms,xk,Bool.and_assoc]
 | neg x ihx=>intro l; rw [Tm.fold,ihx,Tm.nms]
 | pow x e ihx=>intro l; rw [Tm.fold,ihx,Tm.nms]
theorem ka2 {n:Int} (h:ui n<=320):n<=320/\ui n=n:=by unfold ui at *; split at h <;> rename_i hh <;> simp [hh] <;> omega
theorem Tm.bt_le (L:Nat) (m:Tm) (h:m.wt<=320):(m.bt L:Int)<=(L+1) * (m.sz * m.wt):=by
 have mono:∀ (a b c d:Int),0<=a->a<=c->0<=b->b<=d->a * b<=c * d:=fun a b c d h1 h2 h3 h4=>Int.mul_le_mul h2 h4 h3 (by omega)
 have pos:∀ m:Tm,1<=(m.sz:Int):=by intro m; cases m <;> simp only [Tm.sz] <;> omega
 have addc:∀ a b:Tm,ui (jc a.wt b.wt+1)<=320->(a.wt<=320->(a.bt L:Int)<=(L+1) * (a.sz * a.wt))->(b.wt<=320->(b.bt L:Int)<=(L+1) * (b.sz * b.wt))->((a.bt L+b.bt L+1:Nat):Int)<=(L+1) * ((a.sz+b.sz+1:Nat) * ui (jc a.wt b.wt+1)):=by
  intro a b h iha ihb;obtain ⟨h1,h2⟩:=ka2 h;rw [h2];have hm:a.wt<=jc a.wt b.wt/\b.wt<=jc a.wt b.wt:=by unfold jc; split <;> omega
  have ha:=iha (by omega);have hb:=ihb (by omega);have wa:=a.wt_bd;have wb:=b.wt_bd;have e1:(a.sz:Int) * a.wt<=a.sz * (jc a.wt b.wt+1):=Int.mul_le_mul_of_nonneg_left (by omega) (by omega);have e2:(b.sz:Int) * b.wt<=b.sz * (jc a.wt b.wt+1):=Int.mul_le_mul_of_nonneg_left (by omega) (by omega);have e3:((a.sz+b.sz+1:Nat):Int) * (jc a.wt b.wt+1)=a.sz * (jc a.wt b.wt+1)+b.sz * (jc a.wt b.wt+1)+(jc a.wt b.wt+1):=by
   rw [Int.natCast_add,Int.natCast_add,Int.add_mul,Int.add_mul]; simp
  rw [e3];have e4:((L:Int)+1) * (a.sz * a.wt)+(L+1) * (b.sz * b.wt)+(L+1)<=(L+1) * (a.sz * (jc a.wt b.wt+1)+b.sz * (jc a.wt b.wt+1)+(jc a.wt b.wt+1)):=by
   have:((L:Int)+1) * (a.sz * a.wt)+(L+1) * (b.sz * b.wt)+(L+1)=(L+1) * (a.sz * a.wt+b.sz * b.wt+1):=by rw [Int.mul_add,Int.mul_add,Int.mul_one]
   rw [this];exact Int.mul_le_mul_of_nonneg_left (by omega) (by omega)
  simp only [Int.natCast_add,Int.natCast_one];omega
 induction m with
 | num z =>
   have hw:=(Tm.num z).wt_bd;simp only [Tm.bt,Tm.sz];have:((L:Int)+1) * 1<=(L+1) * ((1:Nat) * (Tm.num z).wt):=Int.mul_le_mul_of_nonneg_left (by simp; omega) (by omega);omega
 | name s=>simp only [Tm.bt,Tm.sz,Tm.wt]; simp; omega
 | add a b iha ihb=>exact addc a b h iha ihb
 | sub a b iha ihb=>exact addc a b h iha ihb
 | mul a b iha ihb =>
   simp only [Tm.wt] at h ⊢;obtain ⟨h1,h2⟩:=ka2 h;rw [h2];have wa:=a.wt_bd;have wb:=b.wt_bd;have ha:=iha (by omega);have hb:=ihb (by omega);simp only [Tm.bt,Tm.sz];have e1:(a.sz:Int) * a.wt<=a.sz * (a.wt+b.wt):=Int.mul_le_mul_of_nonneg_left (by omega) (by omega);have e2:(b.sz:Int) * b.wt<=b.sz * (a.wt+b.wt):=Int.mul_le_mul_of_nonneg_left (by omega) (by omega);have e3:((a.sz+b.sz+1:Nat):Int) * (a.wt+b.wt)=a.sz * (a.wt+b.wt)+b.sz * (a.wt+b.wt)+(a.wt+b.wt):=by
    rw [Int.natCast_add,Int.natCast_add,Int.add_mul,Int.add_mul]; simp
   rw [e3];have e4:((L:Int)+1) * (a.sz * a.wt)+(L+1) * (b.sz * b.wt)<=(L+1) * (a.sz * (a.wt+b.wt)+b.sz * (a.wt+b.wt)+(a.wt+b.wt)):=by
    rw [<- Int.mul_add];exact Int.mul_le_mul_of_nonneg_left (by omega) (by omega)
   simp only [Int.natCast_add];omega
 | neg a iha =>
   have ha:=iha h;have wa:=a.wt_bd;simp only [Tm.bt,Tm.sz,Tm.wt];have e1:(a.sz:Int) * a.wt<=((a.sz+1:Nat):Int) * a.wt:=Int.mul_le_mul_of_nonneg_right (by omega) (by omega);have e2:((L:Int)+1) * (a.sz * a.wt)<=(L+1) * (((a.sz+1:Nat):Int) * a.wt):=Int.mul_le_mul_of_nonneg_left e1 (by omega);omega
 | pow a e iha =>
   have wa:=a.wt_bd;have hb1:=Int.natCast_nonneg (a.bt L);simp only [Tm.wt] at h ⊢;have hx:1<=jc e 1:=by unfold jc; split <;> omega
   obtain ⟨hp,hw⟩:jc e 1 * a.wt=uae (jc e 1) a.wt/\a.wt<=320:=by
    have hpI:uae (jc e 1) a.wt=ui (ui (jc e 1) * ui a.wt):=rfl;rw [hpI] at h ⊢;obtain ⟨q1,q2⟩:=ka2 h;have c1:=(waf hx).1;have c2:ui a.wt=a.wt:=by unfold ui; rw [if_pos (by omega)]
    rw [c2] at q1 q2 ⊢;have k1:ui (jc e 1) * 1<=ui (jc e 1) * a.wt:=Int.mul_le_mul_of_nonneg_left (by omega) (by omega);have k2:1 * a.wt<=ui (jc e 1) * a.wt:=Int.mul_le_mul_of_nonneg_right (by omega) (by omega);have c3:=(ka2 (n:=jc e 1) (by omega)).2;have c4:a.wt<=320:=by omega
    rw [c3] at q2 ⊢;exact ⟨q2.symm,c4⟩
   rw [<- hp];have ha:=iha hw;simp only [Tm.bt,Tm.sz];have hmx:((max e.toNat 1:Nat):Int)=jc e 1:=by unfold jc; split <;> omega
   rw [Int.natCast_mul,hmx];have e0:jc e 1 * (a.bt L:Int)<=jc e 1 * ((L+1) * (a.sz * a.wt)):=Int.mul_le_mul_of_nonneg_left ha (by omega);have e1:jc e 1 * (((L:Int)+1) * (a.sz * a.wt))=(L+1) * (a.sz * (jc e 1 * a.wt)):=by
    rw [Int.mul_left_comm,Int.mul_left_comm (jc e 1)]
   have hq:0<=jc e 1 * a.wt:=Int.mul_nonneg (by omega) (by omega);have e2:(a.sz:Int) * (jc e 1 * a.wt)<=((a.sz+1:Nat):Int) * (jc e 1 * a.wt):=Int.mul_le_mul_of_nonneg_right (by omega) hq;have e3:((L:Int)+1) * (a.sz * (jc e 1 * a.wt))<=(L+1) * (((a.sz+1:Nat):Int) * (jc e 1 * a.wt)):=Int.mul_le_mul_of_nonneg_left e2 (by omega);omega
end Go.Proofs.YtheefiaoimbeiaaGreatDoor

/- The plain law of EvaluateFormulas: a tree that passes Is is the tree of a formula; names, quantifiers, atoms. -/
namespace Go.Proofs.YtheefiaoimbeiaaGreatDoor
open Go.RowKit
def Fm.nms : Fm -> List ByteArray
 | .truth _=>[]
 | .atom l _ k=>l.nms ++ k.nms
 | .not f=>f.nms
 | .and f g=>f.nms ++ g.nms
 | .or f g=>f.nms ++ g.nms
 | .imp f g=>f.nms ++ g.nms
 | .iff f g=>f.nms ++ g.nms
 | .quant _ _ f=>f.nms
theorem Fm.fold_cover (g:ByteArray->Option Rat) (a:ByteArray->Int) (ha:∀ s,a s=0) (f:Fm) (hb:f.bound=[]):∀ l,ww g (f.fold zi a l)=(ww g l && ww g f.nms):=by
 induction f with
 | truth b=>intro l; simp [Fm.fold,Fm.nms,ww]
 | atom x r y=>intro l; rw [Fm.fold,Tm.fold_cover g a ha,Tm.fold_cover g a ha,Fm.nms,xk,Bool.and_assoc]
 | not f ih=>intro l; exact ih hb l
 | and f h ihf ihh=>intro l; rw [Fm.fold,ihh (List.append_eq_nil_iff.1 hb).2,ihf (List.append_eq_nil_iff.1 hb).1,Fm.nms,xk,Bool.and_assoc]
 | or f h ihf ihh=>intro l; rw [Fm.fold,ihh (List.append_eq_nil_iff.1 hb).2,ihf (List.append_eq_nil_iff.1 hb).1,Fm.nms,xk,Bool.and_assoc]
 | imp f h ihf ihh=>intro l; rw [Fm.fold,ihh (List.append_eq_nil_iff.1 hb).2,ihf (List.append_eq_nil_iff.1 hb).1,Fm.nms,xk,Bool.and_assoc]
 | iff f h ihf ihh=>intro l; rw [Fm.fold,ihh (List.append_eq_nil_iff.1 hb).2,ihf (List.append_eq_nil_iff.1 hb).1,Fm.nms,xk,Bool.and_assoc]
 | quant a s f ih=>cases hb
theorem Fm.free_cover (g:ByteArray->Option Rat) (f:Fm) (hb:f.bound=[]):ww g f.free=ww g f.nms:=by
 unfold Fm.free;rw [Fm.fold_cover g _ (fun _=>rfl) f hb];simp [ww]
theorem jy (t:Tr):t.bnd=(t.list.filter fun x=>x.d.kind == 15).map fun x=>x.d.name:=by
 unfold Tr.bnd Tr.parts;rw [List.filter_filter]
 congr 1
 refine List.filter_congr fun x _=>?_
 cases h:x.d.kind == 15 with
 | false=>simp
 | true =>
   have:x.d.kind=15:=by simpa using h
   simp [gad,this]
theorem va4 {l:List Tr} (h:∀ x ∈ l,1<=x.d.kind/\x.d.kind<=7):(l.filter fun x=>x.d.kind == 15)=[]:=List.filter_eq_nil_iff.2 fun x hx=>by
 have:=h x hx;simp; omega
theorem kcs (L:Nat) (f:Fm):∀ t,zx L f t->gad t.d.kind=false:=by
 refine ubl L (fun f t=>gad t.d.kind=false) ?_ ?_ ?_ ?_ ?_ ?_ ?_ ?_ f <;> intros <;> unfold gad <;> simp <;> omega
theorem zc0 (L:Nat) (f:Fm):∀ t,zx L f t->t.bnd=f.bound:=by
 have no:∀ t:Tr,t.d.kind ≠ 15->(t.d.kind == 15)=false:=fun t h=>by simpa using h
 refine ubl L (fun f t=>t.bnd=f.bound) ?_ ?_ ?_ ?_ ?_ ?_ ?_ ?_ f
 · intro b t hk e _; rw [jy,e,List.filter_cons,no t (by omega)]; simp [Fm.bound]
 · intro l r k t x y hk _ _ _ e hx hy;rw [jy,e,List.filter_cons,no t (by omega),List.filter_append,va4 (xbh L l x hx),va4 (xbh L k y hy)]; simp [Fm.bound]
 · intro f t x hk e h; rw [jy,e,List.filter_cons,no t (by omega)]; rw [jy] at h; simpa [Fm.bound] using h
 · intro f g t x y hk e h1 h2; rw [jy,e,List.filter_cons,no t (by omega),Fm.bound,<- h1,<- h2,jy,jy]; simp
 · intro f g t x y hk e h1 h2; rw [jy,e,List.filter_cons,no t (by omega),Fm.bound,<- h1,<- h2,jy,jy]; simp
 · intro f g t x y hk e h1 h2; rw [jy,e,List.filter_cons,no t (by omega),Fm.bound,<- h1,<- h2,jy,jy]; simp
 · intro f g t x y hk e h1 h2; rw [jy,e,List.filter_cons,no t (by omega),Fm.bound,<- h1,<- h2,jy,jy]; simp
 · intro f t x hk e h; rw [jy,e,List.filter_cons,hk,Fm.bound,<- h,jy]; simp
end Go.Proofs.YtheefiaoimbeiaaGreatDoor

/- Plain: the matrix of a formula without quantifiers says at numbers what the formula says. -/
namespace Go.Proofs.YtheefiaoimbeiaaGreatDoor
theorem qa4 (r s:Int):jac (yal r) s=jac r s:=by
 unfold yal
 split
 · rename_i h;have h1:r ≠ 1/\r ≠ 2/\r ≠ 3/\r ≠ 4/\r ≠ 5/\r ≠ 6:=by omega
   simp [jac,h1]
 · rfl
theorem qbq (r s:Int):jac (za1 (yal r)) s=!jac r s:=by
 rw [<- qa4 r s];have hr:1<=yal r/\yal r<=6:=by unfold yal; split <;> omega
 generalize yal r=k at hr;rw [Bool.eq_iff_iff];rcases (show k=1\/k=2\/k=3\/k=4\/k=5\/k=6 by omega) with rfl | rfl | rfl | rfl | rfl | rfl <;> simp [jac,za1]
theorem zcn (a b:Rat):sgQ (a - b)=ya1 a b:=by
 have h1:a - b < 0 ↔ a < b:=by constructor <;> intro h <;> grind
 have h2:0 < a - b ↔ b < a:=by constructor <;> intro h <;> grind
 unfold sgQ ya1;simp only [h1,h2]
theorem Pl.var_valE (ρ:Int->Rat) {n:Int} (h1:1<=n) (h4:n<=4):(Pl.var n).val ρ=ρ n:=by
 rw [Pl.var,if_pos ⟨h1,h4⟩,Pl.val,if_neg (by omega)];simp only [uf,Pl.zero_val,Pl.const_val]
 grind
def Fm.cov (g : ByteArray -> Option Rat) : Fm -> Prop
 | .truth _=>True
 | .atom l _ k=>l.covered g/\k.covered g
 | .not f=>f.cov g
 | .and f h=>f.cov g/\h.cov g
 | .or f h=>f.cov g/\h.cov g
 | .imp f h=>f.cov g/\h.cov g
 | .iff f h=>f.cov g/\h.cov g
 | .quant _ _ f=>f.cov g
section
variable {v:ByteArray->Option Rat} {g:ByteArray->Int} {ρ:Int->Rat} (HN:∀ s q,v s=some q->1<=g s/\g s<=4/\ρ (g s)=q)
include HN
theorem uaf : ∀ t : Tm, t.covered v -> (yl g t).val ρ = t.val v
 | .num z,_=>by rw [yl,Pl.const_val]; rfl
 | .name s,h=>by
   obtain ⟨q,hq⟩:=Option.isSome_iff_exists.1 (show (v s).isSome=true from h);obtain ⟨h1,h2,h3⟩:=HN s q hq;rw [yl,Pl.var_valE ρ h1 h2,h3,Tm.val,hq]; rfl
 | .add a b,h=>by rw [yl,Pl.add_val,uaf a h.1,uaf b h.2]; rfl
 | .sub a b,h=>by rw [yl,Pl.add_val,Pl.opp_val,uaf a h.1,uaf b h.2,Tm.val]; grind
 | .mul a b,h=>by rw [yl,Pl.mul_val,uaf a h.1,uaf b h.2]; rfl
 | .neg a,h=>by rw [yl,Pl.opp_val,uaf a h]; rfl
 | .pow a e,h=>by rw [yl,Pl.pow_val,uaf a h]; rfl
omit HN in
theorem kat (a b:Mx):(uw 3 a b).tv ρ=(a.tv ρ && b.tv ρ):=by simp [uw,Mx.tv,allM]
omit HN in
theorem wax (a b:Mx):(uw 4 a b).tv ρ=(a.tv ρ || b.tv ρ):=by simp [uw,Mx.tv,anyM]
theorem jcq (f:Fm):∀ (st:PSt) (pos:Bool),st.lev=g->f.okB true=true->f.cov v->(yc f pos st).1.tv ρ=(f.tv v == pos):=by
 induction f with
 | truth b =>
   intro st pos _ _ _;simp only [yc,gba,Mx.tv,Fm.tv];cases b <;> cases pos <;> simp
 | atom l r k =>
   intro st pos hs _ hf;have hv:(((yl st.lev l).add (yl st.lev k).opp).val ρ)=l.val v - k.val v:=by
    rw [hs,Pl.add_val,Pl.opp_val,uaf HN l hf.1,uaf HN k hf.2]; grind
   simp only [yc,wba,Mx.tv,Fm.tv];rw [if_neg (by omega),if_pos trivial,hv,zcn];cases pos
   · rw [if_neg (by simp),qbq]; simp
   · rw [if_pos rfl,qa4]; simp
 | not f ih =>
   intro st pos hs ho hf;rw [yc,ih st (!pos) hs ho hf,Fm.tv];cases f.tv v <;> cases pos <;> rfl
 | and f h ihf ihh =>
   intro st pos hs ho hf;simp only [Fm.okB,Bool.and_eq_true] at ho;simp only [yc,(vac f ho.1).2.1];have h1:=ihf st pos hs ho.1 hf.1;have h2:=ihh st pos hs ho.2 hf.2;cases pos
   · rw [if_neg (by simp),wax,h1,h2,Fm.tv]; cases f.tv v <;> cases h.tv v <;> rfl
   · rw [if_pos rfl,kat,h1,h2,Fm.tv]; cases f.tv v <;> cases h.tv v <;> rfl
 | or f h ihf ihh =>
   intro st pos hs ho hf;simp only [Fm.okB,Bool.and_eq_true] at ho;simp only [yc,(vac f ho.1).2.1];have h1:=ihf st pos hs ho.1 hf.1;have h2:=ihh st pos hs ho.2 hf.2;cases pos
   · rw [if_neg (by simp),kat,h1,h2,Fm.tv]; cases f.tv v <;> cases h.tv v <;> rfl
   · rw [if_pos rfl,wax,h1,h2,Fm.tv]; cases f.tv v <;> cases h.tv v <;> rfl
 | imp f h ihf ihh =>
   intro st pos hs ho hf;simp only [Fm.okB,Bool.and_eq_true] at ho;simp only [yc,(vac f ho.1).2.1];have h1:=ihf st (!pos) hs ho.1 hf.1;have h2:=ihh st pos hs ho.2 hf.2;cases pos
   · rw [if_neg (by simp),kat,h1,h2,Fm.tv]; cases f.tv v <;> cases h.tv v <;> rfl
   · rw [if_pos rfl,wax,h1,h2,Fm.tv]; cases f.tv v <;> cases h.tv v <;> rfl
 | iff f h ihf ihh =>
   intro st pos hs ho hf;simp only [Fm.okB,Bool.and_eq_true] at ho;simp only [yc];rw [wax,kat,kat,ihf st true hs ho.1 hf.1,ihf st false hs ho.1 hf.1,ihh st pos hs ho.2 hf.2,ihh st (!pos) hs ho.2 hf.2,Fm.tv];cases f.tv v <;> cases h.tv v <;> cases pos <;> rfl
 | quant a nm f ih=>intro st pos _ ho _; simp [Fm.okB] at ho
end
theorem uan (f:Fm):f.bound=[]->f.okB true=true/\f.qn=0:=by
 induction f with
 | truth b=>exact fun _=>⟨rfl,rfl⟩
 | atom l r k=>exact fun _=>⟨rfl,rfl⟩
 | not f ih=>intro h; obtain ⟨h1,h2⟩:=ih h; exact ⟨h1,by rw [Fm.qn,h2]; rfl⟩
 | and f g ihf ihg=>intro h; obtain ⟨h1,h2⟩:=ihf (List.append_eq_nil_iff.1 h).1; obtain ⟨h3,h4⟩:=ihg (List.append_eq_nil_iff.1 h).2; exact ⟨by simp [Fm.okB,h1,h3],by rw [Fm.qn,h2,h4]; rfl⟩
 | or f g ihf ihg=>intro h; obtain ⟨h1,h2⟩:=ihf (List.append_eq_nil_iff.1 h).1; obtain ⟨h3,h4⟩:=ihg (List.append_eq_nil_iff.1 h).2; exact ⟨by simp [Fm.okB,h1,h3],by rw [Fm.qn,h2,h4]; rfl⟩
 | imp f g ihf ihg=>intro h; obtain ⟨h1,h2⟩:=ihf (List.append_eq_nil_iff.1 h).1; obtain ⟨h3,h4⟩:=ihg (List.append_eq_nil_iff.1 h).2; exact ⟨by simp [Fm.okB,h1,h3],by rw [Fm.qn,h2,h4]; rfl⟩
 | iff f g ihf ihg=>intro h; obtain ⟨h1,h2⟩:=ihf (List.append_eq_nil_iff.1 h).1; obtain ⟨h3,h4⟩:=ihg (List.append_eq_nil_iff.1 h).2; exact ⟨by simp [Fm.okB,h1,h3],by rw [Fm.qn,h2,h4]; rfl⟩
 | quant a nm f ih=>intro h; cases h
theorem gb2 (s:ByteArray) (x:List ByteArray × Bool):(yaf (fun _=>0) s x).1=zi (fun _=>0) s x.1:=by
 unfold yaf wat zi;cases has x.1 s <;> simp
theorem qa7 (t:Tm):∀ x:List ByteArray × Bool,(t.fold (yaf (fun _=>0)) x).1=t.fold (zi (fun _=>0)) x.1:=by
 induction t with
 | num z=>intro x; rfl
 | name s=>intro x; exact gb2 s x
 | add a b iha ihb=>intro x; simp only [Tm.fold]; rw [ihb,iha]
 | sub a b iha ihb=>intro x; simp only [Tm.fold]; rw [ihb,iha]
 | mul a b iha ihb=>intro x; simp only [Tm.fold]; rw [ihb,iha]
 | neg a ih=>intro x; exact ih x
 | pow a e ih=>intro x; exact ih x
theorem zbz (f:Fm) (hb:f.bound=[]):∀ x:List ByteArray × Bool,(f.fold yaf (fun _=>0) x).1=f.fold zi (fun _=>0) x.1:=by
 induction f with
 | truth b=>intro x; rfl
 | atom l r k=>intro x; simp only [Fm.fold]; rw [qa7,qa7]
 | not f ih=>intro x; exact ih hb x
 | and f g ihf ihg=>intro x; simp only [Fm.fold]; rw [ihg (List.append_eq_nil_iff.1 hb).2,ihf (List.append_eq_nil_iff.1 hb).1]
 | or f g ihf ihg=>intro x; simp only [Fm.fold]; rw [ihg (List.append_eq_nil_iff.1 hb).2,ihf (List.append_eq_nil_iff.1 hb).1]
 | imp f g ihf ihg=>intro x; simp only [Fm.fold]; rw [ihg (List.append_eq_nil_iff.1 hb).2,ihf (List.append_eq_nil_iff.1 hb).1]
 | iff f g ihf ihg=>intro x; simp only [Fm.fold]; rw [ihg (List.append_eq_nil_iff.1 hb).2,ihf (List.append_eq_nil_iff.1 hb).1]
 | quant a nm f ih=>cases hb
theorem vbb (a:ByteArray->Int) (s:ByteArray) {l:List ByteArray} (h:l.Nodup):(zi a s l).Nodup:=by
 unfold zi
 split
 · rename_i h1;rw [List.nodup_append];refine ⟨h,by simp,fun x hx y hy e=>?_⟩;rw [List.mem_singleton.1 hy] at e;rw [e] at hx;have:=(xcs l s).2 hx;rw [h1.2] at this; cases this
 · exact h
theorem qa3 (a:ByteArray->Int) (t:Tm):∀ l:List ByteArray,l.Nodup->(t.fold (zi a) l).Nodup:=by
 induction t with
 | num z=>exact fun l h=>h
 | name s=>exact fun l h=>vbb a s h
 | add x y ihx ihy=>exact fun l h=>ihy _ (ihx _ h)
 | sub x y ihx ihy=>exact fun l h=>ihy _ (ihx _ h)
 | mul x y ihx ihy=>exact fun l h=>ihy _ (ihx _ h)
 | neg x ih=>exact ih
 | pow x e ih=>exact ih
theorem jbq (f:Fm):∀ (a:ByteArray->Int) (l:List ByteArray),l.Nodup->(f.fold zi a l).Nodup:=by
 induction f with
 | truth b=>exact fun a l h=>h
 | atom x r y=>exact fun a l h=>qa3 a y _ (qa3 a x _ h)
 | not f ih=>exact ih
 | and f g ihf ihg=>exact fun a l h=>ihg a _ (ihf a _ h)
 | or f g ihf ihg=>exact fun a l h=>ihg a _ (ihf a _ h)
 | imp f g ihf ihg=>exact fun a l h=>ihg a _ (ihf a _ h)
 | iff f g ihf ihg=>exact fun a l h=>ihg a _ (ihf a _ h)
 | quant b s f ih=>exact fun a l h=>ih _ l h
theorem Fm.free_nodup (f:Fm):f.free.Nodup:=jbq f _ [] List.nodup_nil
theorem kay {f:Fm} (hb:f.bound=[]) (h:f.chk=0):f.free.length<=4/\f.lim=true/\f.nmE=0:=by
 have hq:=(uan f hb).2;have hs:f.note.1=f.free:=zbz f hb ([],true);have h0:=h
 replace h:(if f.free.foldl (zaj []) f.note.2=false then (7:Int) else if 4000 < f.sz\/16 < f.atoms\/4 < f.note.1.length\/f.lim=false then 8 else 0)=0:=by
  unfold Fm.chk at h;rw [hb] at h;exact h
 by_cases h5:List.foldl (zaj []) f.note.2 f.free=false
 · rw [if_pos h5] at h; cases h
 rw [if_neg h5] at h
 by_cases h2:4000 < f.sz\/16 < f.atoms\/4 < f.note.1.length\/f.lim=false
 · rw [if_pos h2] at h; cases h
 rw [hs] at h2;have h3:f.free.length<=4:=by omega
 refine ⟨h3,by cases e:f.lim <;> simp [e] at h2 ⊢,?_⟩;unfold Fm.nmE;rw [if_pos h0,hq,if_pos (by omega)]
theorem ybs {f:Fm} (hb:f.bound=[]):f.nmE=f.chk:=by
 by_cases h:f.chk=0
 · rw [(kay hb h).2.2,h]
 · unfold Fm.nmE; rw [if_neg h]
theorem kbs {l : List ByteArray} (hn : l.Nodup) (i : Nat) (hi : i < l.length) : ∀ k, i < k -> k <= l.length -> gan l k l[i] = (i : Int) + 1
 | 0,h,_=>by omega
 | k+1,h,hk=>by
   rw [jbe l k (by omega)];simp only
   by_cases e:i=k
   · subst e; rw [if_pos rfl]; omega
   · rw [if_neg (fun he=>e ((List.getElem_inj hn).1 he)),kbs hn i hi k (by omega) (by omega)]
def gal (l:List ByteArray) (x:List Rat) (k:Nat):List (ByteArray × Rat):=(List.range k).map fun i=>(l.getD i ByteArray.empty,x.getD i 0)
theorem ubc (l:List ByteArray) (x:List Rat) (k:Nat):gal l x (k+1)=gal l x k ++ [(l.getD k ByteArray.empty,x.getD k 0)]:=by
 unfold gal; rw [List.range_succ,List.map_append]; rfl
theorem ya5 (l : List ByteArray) (x : List Rat) (s : ByteArray) : ∀ k, ∀ q, qaj (gal l x k) s = some q -> ∃ i, i < k /\ s = l.getD i ByteArray.empty /\ q = x.getD i 0
 | 0,q,h=>by simp [gal,qaj] at h
 | k+1,q,h=>by
   rw [ubc,wbc] at h;cases h1:qaj (gal l x k) s with
   | some p =>
     rw [h1] at h;obtain ⟨i,hi,h2,h3⟩:=ya5 l x s k p h1;injection h with h
     exact ⟨i,by omega,h2,h ▸ h3⟩
   | none =>
     rw [h1] at h
     by_cases e:s=l.getD k ByteArray.empty
     · rw [if_pos e] at h;injection h with h
       exact ⟨k,by omega,e,h.symm⟩
     · rw [if_neg e] at h; cases h
theorem uay (l : List ByteArray) (x : List Rat) : ∀ k i, i < k -> (qaj (gal l x k) (l.getD i ByteArray.empty)).isSome = true
 | 0,i,h=>by omega
 | k+1,i,h=>by
   rw [ubc,wbc]
   by_cases e:i=k
   · subst e;cases qaj (gal l x i) (l.getD i ByteArray.empty) <;> simp
   · have:=uay l x k i (by omega);cases h1:qaj (gal l x k) (l.getD i ByteArray.empty) with
     | some p=>simp
     | none=>rw [h1] at this; cases this
end Go.Proofs.YtheefiaoimbeiaaGreatDoor

/- Plain: sizes of the matrix of a formula without quantifiers. -/
namespace Go.Proofs.YtheefiaoimbeiaaGreatDoor
theorem zbf {n:Int} (h:ui n<=8):ui n=n:=by unfold ui at *; split at h <;> (try split) <;> omega
theorem uak (g : ByteArray -> Int) : ∀ t : Tm, t.deg <= 8 -> t.small = true -> ∃ D, Fit (yl g t) t.deg.toNat D
 | .num z,_,_=>⟨z.natAbs+1,Fit.const (Nat.lt_of_lt_of_le (Nat.lt_pow_self (by decide)) (Nat.pow_le_pow_right (by decide) (Nat.le_succ _)))⟩
 | .name s,_,_=>⟨1,(Pl.var_fit (g s)).1⟩
 | .add a b,h,hs=>by
   have hm:a.deg<=jc a.deg b.deg/\b.deg<=jc a.deg b.deg:=by unfold jc; split <;> omega
   change jc a.deg b.deg<=8 at h
   simp only [Tm.small,Bool.and_eq_true] at hs;obtain ⟨D,hD⟩:=uak g a (by omega) hs.1;obtain ⟨E,hE⟩:=uak g b (by omega) hs.2;exact ⟨_,(hD.add hE).mono (F:=(jc a.deg b.deg).toNat) (by omega) (Nat.le_refl _)⟩
 | .sub a b,h,hs=>by
   have hm:a.deg<=jc a.deg b.deg/\b.deg<=jc a.deg b.deg:=by unfold jc; split <;> omega
   change jc a.deg b.deg<=8 at h
   simp only [Tm.small,Bool.and_eq_true] at hs;obtain ⟨D,hD⟩:=uak g a (by omega) hs.1;obtain ⟨E,hE⟩:=uak g b (by omega) hs.2;exact ⟨_,(hD.add hE.opp).mono (F:=(jc a.deg b.deg).toNat) (by omega) (Nat.le_refl _)⟩
 | .mul a b,h,hs=>by
   have ha:=a.deg_bd;have hb:=b.deg_bd
   change ui (a.deg+b.deg)<=8 at h
   have e:=zbf h;simp only [Tm.small,Bool.and_eq_true] at hs;obtain ⟨D,hD⟩:=uak g a (by omega) hs.1;obtain ⟨E,hE⟩:=uak g b (by omega) hs.2;refine ⟨D+E,(hD.mul hE).mono ?_ (Nat.le_refl _)⟩;show a.deg.toNat+b.deg.toNat<=(ui (a.deg+b.deg)).toNat;omega
 | .neg a,h,hs=>by
   obtain ⟨D,hD⟩:=uak g a h hs;exact ⟨_,hD.opp⟩
 | .pow a e,h,hs=>by
   simp only [Tm.small,Bool.and_eq_true,decide_eq_true_eq] at hs;have ha:=a.deg_bd
   by_cases he:e<=0
   · have:e.toNat=0:=by omega
     rw [yl,this];exact ⟨1,Fit.const (by decide)⟩
   · have hm:jc e 0=e:=by unfold jc; rw [if_neg (by omega)]
     change uae (jc e 0) a.deg<=8 at h
     have hc:ui e=e:=by unfold ui; rw [if_pos (by omega)]
     have hd:ui a.deg=a.deg:=by unfold ui; rw [if_pos (by omega)]
     have h2:uae (jc e 0) a.deg=e * a.deg:=by
      unfold uae at h ⊢;rw [hm,hc,hd] at h ⊢;exact zbf h
     rw [h2] at h;have h3:1 * a.deg<=e * a.deg:=Int.mul_le_mul_of_nonneg_right (by omega) (by omega);obtain ⟨D,hD⟩:=uak g a (by omega) hs.2;refine ⟨_,(hD.pow e.toNat).mono ?_ (Nat.le_refl _)⟩;show e.toNat * a.deg.toNat<=(uae (jc e 0) a.deg).toNat;rw [h2];obtain ⟨m,hm⟩:∃ m:Nat,e=m:=⟨e.toNat,by omega⟩;obtain ⟨n,hn⟩:∃ n:Nat,a.deg=n:=⟨a.deg.toNat,by omega⟩;rw [hm,hn];exact Nat.le_of_eq (Int.toNat_natCast (m * n)).symm
theorem gbj (g:ByteArray->Int) {t:Tm} (h:t.lim=true):Fit (yl g t) 8 321:=by
 simp only [Tm.lim,Bool.and_eq_true,Bool.not_eq_true',decide_eq_false_iff_not] at h;have hd:=t.deg_bd;have hw:=t.wt_bd;obtain ⟨D,hD⟩:=uak g t (by omega) h.2;have hb:=vag g t (by omega);have h1:Fit (yl g t) 8 (t.wt.toNat+1):=⟨hD.can,(hD.mono (F:=8) (by omega) (Nat.le_refl _)).ex,hb.fit.nr⟩;exact h1.mono (Nat.le_refl _) (by omega)
def Fm.iffN : Fm -> Nat
 | .truth _=>0
 | .atom _ _ _=>0
 | .not f=>f.iffN
 | .and f g=>f.iffN+g.iffN
 | .or f g=>f.iffN+g.iffN
 | .imp f g=>f.iffN+g.iffN
 | .iff f g=>f.iffN+g.iffN+1
 | .quant _ _ f=>f.iffN
theorem kar (k:Int) (a b:Mx):(uw k a b).sz=a.sz+b.sz+1:=by simp [uw,Mx.sz,qav]
theorem jcg (f:Fm):∀ (pos:Bool) (s:PSt),f.okB true=true->(yc f pos s).1.sz<=f.sz * 3 ^ f.iffN:=by
 have two:∀ f g:Fm,∀ A B:Nat,A<=f.sz * 3 ^ f.iffN->B<=g.sz * 3 ^ g.iffN->A+B+1<=(f.sz+g.sz+1) * 3 ^ (f.iffN+g.iffN):=by
  intro f g A B hA hB;have h1:3 ^ f.iffN<=3 ^ (f.iffN+g.iffN):=Nat.pow_le_pow_right (by decide) (by omega);have h2:3 ^ g.iffN<=3 ^ (f.iffN+g.iffN):=Nat.pow_le_pow_right (by decide) (by omega);have h3:1<=3 ^ (f.iffN+g.iffN):=Nat.pow_pos (by decide);have h4:=Nat.mul_le_mul_left f.sz h1;have h5:=Nat.mul_le_mul_left g.sz h2;rw [Nat.add_mul,Nat.add_mul];omega
 induction f with
 | truth b=>intro pos s _; simp [yc,gba,Mx.sz,qav,Fm.sz,Fm.iffN]
 | atom l r k=>intro pos s _; simp [yc,wba,Mx.sz,qav,Fm.sz,Fm.iffN]
 | not f ih =>
   intro pos s ho;have:=ih (!pos) s ho;simp only [yc,Fm.sz,Fm.iffN];refine Nat.le_trans this (Nat.mul_le_mul_right _ (by omega))
 | and f g ihf ihg =>
   intro pos s ho;simp only [Fm.okB,Bool.and_eq_true] at ho;simp only [yc,(vac f ho.1).2.1,kar,Fm.sz,Fm.iffN];exact two f g _ _ (ihf pos s ho.1) (ihg pos s ho.2)
 | or f g ihf ihg =>
   intro pos s ho;simp only [Fm.okB,Bool.and_eq_true] at ho;simp only [yc,(vac f ho.1).2.1,kar,Fm.sz,Fm.iffN];exact two f g _ _ (ihf pos s ho.1) (ihg pos s ho.2)
 | imp f g ihf ihg =>
   intro pos s ho;simp only [Fm.okB,Bool.and_eq_true] at ho;simp only [yc,(vac f ho.1).2.1,kar,Fm.sz,Fm.iffN];exact two f g _ _ (ihf (!pos) s ho.1) (ihg pos s ho.2)
 | iff f g ihf ihg =>
   intro pos s ho;simp only [Fm.okB,Bool.and_eq_true] at ho;simp only [yc,kar,Fm.sz,Fm.iffN];have h1:=two f g _ _ (ihf true s ho.1) (ihg pos s ho.2);have h2:=two f g _ _ (ihf false s ho.1) (ihg (!pos) s ho.2);have h3:1<=(f.sz+g.sz+1) * 3 ^ (f.iffN+g.iffN):=Nat.mul_pos (by omega) (Nat.pow_pos (by decide));rw [Nat.pow_succ,<- Nat.mul_assoc];omega
 | quant a nm f ih=>intro pos s ho; simp [Fm.okB] at ho
theorem kai {P:Pl->Prop} (hz:P Pl.zero) (k:Int) {a b:Mx} (ha:a.each P) (hb:b.each P):(uw k a b).each P:=⟨hz,ha,hb,trivial⟩
theorem zb6 {P:Pl->Prop} (hz:P Pl.zero) (hP:∀ g l k,l.lim=true->k.lim=true->P ((yl g l).add (yl g k).opp)) (f:Fm):∀ (pos:Bool) (s:PSt),f.lim=true->(yc f pos s).1.each P:=by
 induction f with
 | truth b=>exact fun pos s _=>⟨hz,trivial⟩
 | atom l r k =>
   intro pos s h;simp only [Fm.lim,Bool.and_eq_true] at h;exact ⟨hP s.lev l k h.1 h.2,trivial⟩
 | not f ih=>exact fun pos s h=>ih (!pos) s h
 | and f g ihf ihg =>
   intro pos s h;simp only [Fm.lim,Bool.and_eq_true] at h;exact kai hz _ (ihf _ _ h.1) (ihg _ _ h.2)
 | or f g ihf ihg =>
   intro pos s h;simp only [Fm.lim,Bool.and_eq_true] at h;exact kai hz _ (ihf _ _ h.1) (ihg _ _ h.2)
 | imp f g ihf ihg =>
   intro pos s h;simp only [Fm.lim,Bool.and_eq_true] at h;exact kai hz _ (ihf _ _ h.1) (ihg _ _ h.2)
 | iff f g ihf ihg =>
   intro pos s h;simp only [Fm.lim,Bool.and_eq_true] at h;exact kai hz _ (kai hz _ (ihf _ _ h.1) (ihg _ _ h.2)) (kai hz _ (ihf _ _ h.1) (ihg _ _ h.2))
 | quant a nm f ih=>exact fun pos s h=>ih pos _ h
theorem vcg (f:Fm) (pos:Bool) (s:PSt) (h:f.lim=true):(yc f pos s).1.each fun p=>Fit p 8 323:=
 zb6 ⟨Pl.zero_can,(Fit.zero (E:=8) (D:=323)).ex,(Fit.zero (E:=8) (D:=323)).nr⟩ (fun g _ _ h1 h2=>((gbj g h1).add (gbj g h2).opp).mono (by omega) (by omega)) f pos s h
end Go.Proofs.YtheefiaoimbeiaaGreatDoor

/- Layer 40: awake: x < 3 at x = 2. -/
namespace Go.Proofs.YtheefiaoimbeiaaGreatDoor
open Go.RowKit
def xx:ByteArray:=⟨#[120]⟩
def f3:Fm:=.atom (.name xx) 1 (.num 3)
end Go.Proofs.YtheefiaoimbeiaaGreatDoor

/- Law 40: right, same, EvaluateTerms. -/
namespace Go.Proofs.YtheefiaoimbeiaaGreatDoor
open Go.RowKit
end Go.Proofs.YtheefiaoimbeiaaGreatDoor

/- Plain: formulas within the limits. -/
namespace Go.Proofs.YtheefiaoimbeiaaGreatDoor
end Go.Proofs.YtheefiaoimbeiaaGreatDoor

/- Plain: evaluate.Formula at the values of the names, and the prenex form's matrix there. -/
namespace Go.Proofs.YtheefiaoimbeiaaGreatDoor
theorem gb0 {l:List ByteArray} (hn:l.Nodup) (hl:l.length<=4) (x:List Rat):∀ s q,qaj (gal l x l.length) s=some q->1<=gan l l.length s/\gan l l.length s<=4/\rho x (gan l l.length s)=q:=by
 intro s q h;obtain ⟨i,hi,rfl,rfl⟩:=ya5 l x s l.length q h;rw [List.getD_eq_getElem?_getD,List.getElem?_eq_getElem hi,Option.getD_some,kbs hn i hi l.length hi (Nat.le_refl _)];refine ⟨by omega,by omega,?_⟩;unfold rho;rw [show ((i:Int)+1 - 1).toNat=i by omega]
theorem wb0 (l:List ByteArray) (x:List Rat):ww (qaj (gal l x l.length)) l=true:=by
 unfold ww;rw [List.all_eq_true];intro s hs;obtain ⟨i,hi,rfl⟩:=List.getElem_of_mem hs;have:=uay l x l.length i hi
 rwa [List.getD_eq_getElem?_getD,List.getElem?_eq_getElem hi,Option.getD_some] at this
theorem kcp (g:ByteArray->Option Rat) (f:Fm):ww g f.nms=true->f.cov g:=by
 induction f with
 | truth b=>exact fun _=>trivial
 | atom l r k =>
   intro h;simp only [Fm.nms,xk,Bool.and_eq_true] at h;exact ⟨(Tm.covered_nms g l).1 h.1,(Tm.covered_nms g k).1 h.2⟩
 | not f ih=>exact ih
 | and f h ihf ihh=>intro e; simp only [Fm.nms,xk,Bool.and_eq_true] at e; exact ⟨ihf e.1,ihh e.2⟩
 | or f h ihf ihh=>intro e; simp only [Fm.nms,xk,Bool.and_eq_true] at e; exact ⟨ihf e.1,ihh e.2⟩
 | imp f h ihf ihh=>intro e; simp only [Fm.nms,xk,Bool.and_eq_true] at e; exact ⟨ihf e.1,ihh e.2⟩
 | iff f h ihf ihh=>intro e; simp only [Fm.nms,xk,Bool.and_eq_true] at e; exact ⟨ihf e.1,ihh e.2⟩
 | quant a s f ih=>exact ih
theorem gb5 {f:Fm} (x:List Rat) (hb:f.bound=[]) (hc:f.chk=0) :
 f.cov (qaj (gal f.free x f.free.length))/\(yc f true f.st).1.tv (rho x)=f.tv (qaj (gal f.free x f.free.length)):=by
 obtain ⟨h1,-,-⟩:=kay hb hc;have hcov:=kcp (qaj (gal f.free x f.free.length)) f (by rw [<- Fm.free_cover _ f hb]; exact wb0 f.free x);refine ⟨hcov,?_⟩;rw [jcq (gb0 f.free_nodup h1 x) f f.st true rfl (uan f hb).1 hcov];cases f.tv (qaj (gal f.free x f.free.length)) <;> rfl
end Go.Proofs.YtheefiaoimbeiaaGreatDoor

/- Plain: a formula within the limits is light. -/
namespace Go.Proofs.YtheefiaoimbeiaaGreatDoor
theorem Fm.lim_light (f:Fm) (h:f.lim=true):f.light:=by
 induction f <;> simp only [Fm.lim,Fm.light,Bool.and_eq_true,Tm.lim] at h ⊢
 case atom l r k=>simp at h; omega
 case not f ih=>exact ih h
 case quant a s f ih=>exact ih h
 all_goals first | trivial | (rename_i ihf ihg; exact ⟨ihf h.1,ihg h.2⟩)
theorem Fm.chk_light (f:Fm) (h:f.nmE=0):f.light:=by
 refine f.lim_light ?_;unfold Fm.nmE at h
 by_cases hc:f.chk=0
 · unfold Fm.chk at hc
   by_cases hl:f.lim=true
   · exact hl
   · exfalso
     split at hc
     · omega
     · rw [if_pos (by simp at hl; simp [hl])] at hc;omega
 · rw [if_neg hc] at h; omega
end Go.Proofs.YtheefiaoimbeiaaGreatDoor

/- Layer 38: prenex.Of where it returns an error. -/
set_option maxRecDepth 100000
set_option maxHeartbeats 8000000
namespace Go.Proofs.YtheefiaoimbeiaaGreatDoor
open Go.RowKit
def zbx:Value:=.agg #[.int .i64 0,.slice none 0 0,.slice none 0 0,.int .i64 0,.int .i64 0,.int .i64 0,.bool false,.slice none 0 0,.slice none 0 0,.slice none 0 0]
theorem xcx {w0 w:World} {L:Nat} (hs:L<=1000000000000) (f:Fm) {v:Value} (hx0:Ext w0 w) (h:FmV w0 L f v) (hl:f.sz<=1099511627776) (hok:f.nmE ≠ 0) (hc:NmC w0 L f) :
 Calls Tryz.prog 9 #[v] w fun e w'=>e=.returned (.tuple #[zbx,.int .i64 f.nmE])/\Ext w w':=by
 obtain ⟨W1,hW⟩:=n_m (w.alloc (.cells #[.int .i64 0,.slice none 0 0,.slice none 0 0,.int .i64 0,.int .i64 0,.int .i64 0,.bool false,.slice none 0 0,.slice none 0 0,.slice none 0 0] 49));have hWx:Ext w W1:=by rw [<- hW]; exact (Ext.refl w).alloc _
 have hWs:W1.heap.size=w.heap.size+1:=by rw [<- hW]; simp
 have HZ:Hid (∀ j,j < 10->W1.cell? ⟨w.heap.size,j,none⟩=#[Value.int .i64 0,.slice none 0 0,.slice none 0 0,.int .i64 0,.int .i64 0,.int .i64 0,.bool false,.slice none 0 0,.slice none 0 0,.slice none 0 0][j]?/\W1.frozen? ⟨w.heap.size,j,none⟩=false):=Lib.hid (fun j hj=>by
  rw [<- hW]
  rcases (show j=0\/j=1\/j=2\/j=3\/j=4\/j=5\/j=6\/j=7\/j=8\/j=9 by omega) with rfl | rfl | rfl | rfl | rfl | rfl | rfl | rfl | rfl | rfl <;> (constructor <;> simp [go_sem]))
 have HN:=Lib.hid (xbe hs f (hx0.trans hWx) h hl hc);have HWX:=Lib.hid hWx;have hd:(f.nmE != 0)=true:=by simpa using hok
 have HOK:=Lib.hid hok;obtain ⟨T,x,rfl⟩:=h.iface;unfold wa6 at HN;clear hWx h hx0 hok;generalize f.nmE=ne at *;go_enter Tryz.func9,Tryz.ntmps9;go_wp2_with fail;clear hW;refine HN.out.mono ?_;rintro e w1 ⟨s1,rfl,-,hs0,x1⟩;obtain rfl:=hs0 HOK.out;have hs1:=x1.size;have HWF:=Lib.hid (HWX.out.trans x1)
 have hz:∀ j,j < 10->w1.cell? ⟨w.heap.size,j,none⟩=#[Value.int .i64 0,.slice none 0 0,.slice none 0 0,.int .i64 0,.int .i64 0,.int .i64 0,.bool false,.slice none 0 0,.slice none 0 0,.slice none 0 0][j]?/\w1.frozen? ⟨w.heap.size,j,none⟩=false:=fun j hj =>
  ⟨(x1.cell (p:=⟨w.heap.size,j,none⟩) (by show w.heap.size < _; omega)).trans (HZ.out j hj).1,(x1.frozen (p:=⟨w.heap.size,j,none⟩) (by show w.heap.size < _; omega)).trans (HZ.out j hj).2⟩
 have z0:w1.cell? ⟨w.heap.size,0,none⟩=some (.int .i64 0):=(hz 0 (by omega)).1;have z1:w1.cell? ⟨w.heap.size,1,none⟩=some (.slice none 0 0):=(hz 1 (by omega)).1;have z2:w1.cell? ⟨w.heap.size,2,none⟩=some (.slice none 0 0):=(hz 2 (by omega)).1;have z3:w1.cell? ⟨w.heap.size,3,none⟩=some (.int .i64 0):=(hz 3 (by omega)).1;have z4:w1.cell? ⟨w.heap.size,4,none⟩=some (.int .i64 0):=(hz 4 (by omega)).1;have z5:w1.cell? ⟨w.heap.size,5,none⟩=some (.int .i64 0):=(hz 5 (by omega)).1;have z6:w1.cell? ⟨w.heap.size,6,none⟩=some (.bool false):=(hz 6 (by omega)).1;have z7:w1.cell? ⟨w.heap.size,7,none⟩=some (.slice none 0 0):=(hz 7 (by omega)).1;have z8:w1.cell? ⟨w.heap.size,8,none⟩=some (.slice none 0 0):=(hz 8 (by omega)).1;have z9:w1.cell? ⟨w.heap.size,9,none⟩=some (.slice none 0 0):=(hz 9 (by omega)).1;have q0:=(hz 0 (by omega)).2;have q1:=(hz 1 (by omega)).2;have q2:=(hz 2 (by omega)).2;have q3:=(hz 3 (by omega)).2;have q4:=(hz 4 (by omega)).2;have q5:=(hz 5 (by omega)).2;have q6:=(hz 6 (by omega)).2;have q7:=(hz 7 (by omega)).2;have q8:=(hz 8 (by omega)).2;have q9:=(hz 9 (by omega)).2;have hgl:w.heap.size < w1.heap.size:=by omega
 have HX10:Hid (Ext w (gaw w1 w.heap.size (.int .i64 0) (.slice none 0 0) (.slice none 0 0) (.int .i64 0) (.int .i64 0) (.int .i64 0) (.bool false) (.slice none 0 0) (.slice none 0 0) (.slice none 0 0))):=Lib.hid (by
  rw [yav]
  exact gat (Nat.le_refl _) _ 0 _ HWF.out)
 unfold gaw at HX10;clear x1 hz HZ HWX HN;go_wp2_with fail;clear q0 q1 q2 q3 q4 q5 q6 q7 q8 q9;exact bodyPost_ret (v:=.tuple #[zbx,.int .i64 ne]) (by simp [results,Tryz.results9,go_sem,z0,z1,z2,z3,z4,z5,z6,z7,z8,z9,zbx,hgl]) rfl ⟨rfl,HX10.out⟩
end Go.Proofs.YtheefiaoimbeiaaGreatDoor

/- The plain law of products at equal levels: what is known of the parts that are added. No program in sight. -/
namespace Go.Proofs.YtheefiaoimbeiaaGreatDoor
open Go.RowKit
theorem ja9 {p:Pl} {E D:Nat} (hp:Fit p E D) (h0:0 < p.lv) (i:Nat):Fit (Pl.at_ p.cs i) E D:=by
 unfold Pl.at_;rw [List.getD_eq_getElem?_getD];rcases Nat.lt_or_ge i p.cs.length with h | h
 · rw [List.getElem?_eq_getElem h];obtain ⟨l,n,d,cs⟩:=p;exact hp.kid h0 (List.getElem_mem h)
 · rw [List.getElem?_eq_none h];exact Fit.zero
theorem jbw {p q:Pl} {E D F G:Nat} (hp:Fit p E D) (hq:Fit q F G) (h0:0 < p.lv) (h0':0 < q.lv) (hlp:p.cs.length<=901) (hlq:q.cs.length<=901) (k:Nat) :
 (∀ r ∈ zq p.cs q.cs (zu (prs p.cs p.cs.length) (prs q.cs q.cs.length)) k,r.Can/\r.ex (E+F))/\lnr (zq p.cs q.cs (zu (prs p.cs p.cs.length) (prs q.cs q.cs.length)) k) < B32 ^ (D+G)/\(zq p.cs q.cs (zu (prs p.cs p.cs.length) (prs q.cs q.cs.length)) k).length<=1000000:=by
 refine ⟨fun r hr=>?_,?_,?_⟩
 · unfold zq at hr;obtain ⟨x,-,rfl⟩:=List.mem_map.1 hr;have h:=(ja9 hp h0 x.1).mul (ja9 hq h0' x.2);exact ⟨h.can,h.ex⟩
 · have h1:=zcd (fun i=>(ja9 hp h0 i).can) (fun i=>(ja9 hq h0' i).can) k (prs p.cs p.cs.length) (prs q.cs q.cs.length);have h2:=xbr p.cs p.cs.length (Nat.le_refl _);have h3:=xbr q.cs q.cs.length (Nat.le_refl _);rw [List.take_length] at h2 h3;have h4:wab p.cs < B32 ^ D:=by
    have:=hp.nr;obtain ⟨l,n,d,cs⟩:=p;rw [Pl.nr,if_neg (by simp only [Pl.lv] at h0; omega)] at this;exact this
   have h5:wab q.cs < B32 ^ G:=by
    have:=hq.nr;obtain ⟨l,n,d,cs⟩:=q;rw [Pl.nr,if_neg (by simp only [Pl.lv] at h0'; omega)] at this;exact this
   rw [Nat.pow_add];refine Nat.lt_of_le_of_lt h1 (Nat.lt_of_le_of_lt (Nat.mul_le_mul h2 h3) ?_);exact Nat.mul_lt_mul'' h4 h5
 · refine Nat.le_trans (ubd _ _ _ _) ?_;rw [wa7];have h1:=uav p.cs p.cs.length;have h2:=uav q.cs q.cs.length;exact Nat.le_trans (Nat.mul_le_mul (Nat.le_trans h1 hlp) (Nat.le_trans h2 hlq)) (by decide)
end Go.Proofs.YtheefiaoimbeiaaGreatDoor
