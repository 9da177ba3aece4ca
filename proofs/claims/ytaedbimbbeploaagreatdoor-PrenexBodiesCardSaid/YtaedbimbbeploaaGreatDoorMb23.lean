/- Layer 4 (decimal): how many digits a number has. -/
import Derived.Test.YtaedbimbbeploaaGreatDoorMb22
import Derived.Test.YtaedbimbbeploaaGreatDoorMb5
import Derived.Maps.AppendAt
import Derived.Deep.AppendLies
import Derived.Test.YtaedbimbbeploaaGreatDoorMb18
import Derived.Lib.MinMax
import Derived.Test.YtaedbimbbeploaaGreatDoorMb17
set_option linter.unusedSimpArgs false
set_option linter.unusedVariables false

namespace Go.Proofs.YtaedbimbbeploaaGreatDoor
open Go.RowKit
end Go.Proofs.YtaedbimbbeploaaGreatDoor

/- How many decimal digits a number has. No program in sight. -/
namespace Go.Proofs.YtaedbimbbeploaaGreatDoor
def qo (n:Nat):Nat:=if _h:n < 10 then 1 else qo (n / 10)+1
termination_by n
decreasing_by omega
theorem kaw {n:Nat} (h:n < 10):qo n=1:=by rw [qo]; simp [h]
theorem vbc {n:Nat} (h:10<=n):qo n=qo (n / 10)+1:=by rw [qo]; simp [show ¬ n < 10 by omega]
theorem qbo (n:Nat):1<=qo n:=by
 rcases Nat.lt_or_ge n 10 with h | h
 · rw [kaw h]; omega
 · rw [vbc h]; omega
def more (n:Nat):Nat:=if n=0 then 0 else qo n
theorem ybg:more 0=0:=rfl
theorem zay {n:Nat} (h:n ≠ 0):more n=qo n:=if_neg h
theorem xbg {n:Nat} (h:n ≠ 0):more n=more (n / 10)+1:=by
 rw [zay h];rcases Nat.lt_or_ge n 10 with h1 | h1
 · rw [kaw h1,Nat.div_eq_of_lt h1,ybg]
 · rw [vbc h1,zay (by omega)]
theorem jct (n k:Nat) (h:n < 10 ^ k):more n<=k:=by
 induction k generalizing n with
 | zero => have : n = 0 := by simpa using h
           subst this; simp [more]
 | succ k ih =>
   by_cases hn:n=0
   · subst hn; simp [more]
   · rw [xbg hn];have:n / 10 < 10 ^ k:=by
      rw [Nat.div_lt_iff_lt_mul (by omega)];rw [Nat.pow_succ] at h;exact h
     have:=ih _ this;omega
end Go.Proofs.YtaedbimbbeploaaGreatDoor

/- Layer 4 (decimal): Format, its length; Digits. -/
namespace Go.Proofs.YtaedbimbbeploaaGreatDoor
open Go.RowKit
end Go.Proofs.YtaedbimbbeploaaGreatDoor

/- Layer 4 (decimal): Format and Digits. -/
namespace Go.Proofs.YtaedbimbbeploaaGreatDoor
open Go.RowKit
end Go.Proofs.YtaedbimbbeploaaGreatDoor

/- Layer 34: formula.Weight; evaluate.large. -/
set_option maxRecDepth 100000
set_option maxHeartbeats 8000000
namespace Go.Proofs.YtaedbimbbeploaaGreatDoor
open Go.RowKit
attribute [local go_sem] yac uz uac wab jac qac zac jw wz xac vac yaf ul kac kw
def Tm.wt : Tm -> Int
 | .num z=>uf (qo z.natAbs:Nat)
 | .name _=>1
 | .add a b=>uf (je a.wt b.wt+1)
 | .sub a b=>uf (je a.wt b.wt+1)
 | .mul a b=>uf (a.wt+b.wt)
 | .neg a=>a.wt
 | .pow a e=>xal (je e 1) a.wt
theorem qah {n:Int} (h:1<=n):1<=uf n/\uf n<=2147483647:=by unfold uf; split <;> omega
theorem jb8 {a b:Int} (h:1<=a) (k:1<=b):1<=xal a b/\xal a b<=2147483647:=by
 have h1:=qah h;have h2:=qah k;have:=Int.mul_le_mul h1.1 h2.1 (by omega) (by omega);exact qah (by simpa using this)
theorem Tm.wt_bd (t:Tm):1<=t.wt/\t.wt<=2147483647:=by
 induction t with
 | num z=>exact qah (by have:=qbo z.natAbs; omega)
 | name s=>simp [Tm.wt]
 | add a b iha ihb=>have:=vaw iha.1 iha.2 ihb.1 ihb.2; exact qah (by omega)
 | sub a b iha ihb=>have:=vaw iha.1 iha.2 ihb.1 ihb.2; exact qah (by omega)
 | mul a b iha ihb=>exact qah (by omega)
 | neg a iha=>exact iha
 | pow a e iha=>exact jb8 (by unfold je; split <;> omega) iha.1
theorem jcp {w0 w:World} {L:Nat} {s:ByteArray} {v:Value} (h:TmV w0 L (.name s) v):Calls Tryz.prog 151 #[v] w (waa 1 w):=by
 obtain rfl:=h;go_enter Tryz.func151,Tryz.ntmps151;go_wp2_with fail;go_ret;exact ⟨rfl,Ext.refl _⟩
end Go.Proofs.YtaedbimbbeploaaGreatDoor

/- Layer 38: what prenex.Of computes, plain. No program in sight. -/
namespace Go.Proofs.YtaedbimbbeploaaGreatDoor
def kbd (r:Int):Int:=if r=1 then 5 else if r=2 then 6 else if r=4 then 3 else if r=5 then 1 else if r=6 then 2 else 4
def Pl.var (n:Int):Pl:=if 1<=n/\n<=4 then .mk n false [] [Pl.zero,Pl.const 1] else Pl.zero
theorem Pl.var_can (n:Int):(Pl.var n).Can:=by
 unfold Pl.var
 split
 · rename_i h;refine ua0 (by omega) h.2 (by simp) (wag fun c hc=>?_) (by
    have h1:=vaf (n:=1) (by decide);simp [Pl.const,Pl.zero];intro e;rw [e] at h1
    simp at h1)
   simp only [List.mem_cons,List.not_mem_nil,or_false] at hc;rcases hc with rfl | rfl
   · exact ⟨by simp [Pl.zero,Pl.lv]; omega,Pl.zero_can⟩
   · exact ⟨by simp [Pl.const,Pl.lv]; omega,kad 1⟩
 · exact Pl.zero_can
theorem Pl.var_fit (n:Int):Fit (Pl.var n) 1 1/\(Pl.var n).nr<=1:=by
 have h1:(Pl.var n).ex 1/\(Pl.var n).nr<=1:=by
  unfold Pl.var
  split
  · rename_i h;have hk:∀ c ∈ [Pl.zero,Pl.const 1],c.ex 1:=fun c hc=>by
     simp only [List.mem_cons,List.not_mem_nil,or_false] at hc;rcases hc with rfl | rfl
     · exact (Fit.zero (D:=1)).ex
     · exact (Fit.const (D:=1) (by decide)).ex
    refine ⟨by rw [Pl.ex]; exact .inr ⟨by simp,gbw hk⟩,?_⟩
    · rw [Pl.nr,if_neg (by omega),xab,xab,xab,Pl.const_nr];simp [Pl.zero,Pl.nr,sgn,val]
  · exact ⟨(Fit.zero (D:=1)).ex,by simp [Pl.zero,Pl.nr,sgn,val]⟩
 exact ⟨⟨Pl.var_can n, h1.1, by have := h1.2; have : 1 < B32 ^ 1 := by decide
                                omega⟩,h1.2⟩
theorem Pl.add_nr {p q:Pl} (hp:p.Can) (hq:q.Can):(p.add q).nr<=p.nr+q.nr:=by
 refine Nat.le_trans (Pl.ofS_nr _) ?_;rw [wah,Pl.terms_nr p _ hp,Pl.terms_nr q _ hq];exact Nat.le_refl _
theorem Pl.opp_nr {p:Pl} (hp:p.Can):p.opp.nr<=p.nr:=by
 have:=Pl.mul_nr hp (kad (-1));rw [Pl.const_nr] at this;simpa [Pl.opp] using this
theorem Pl.pow_nr {p:Pl} (hp:p.Can) (n:Nat):(p.pow n).nr<=p.nr ^ n:=by
 induction n with
 | zero=>rw [Pl.pow,Pl.const_nr]; simp
 | succ n ih=>exact Nat.le_trans (Pl.mul_nr (Pl.pow_can p n) hp) (by rw [Nat.pow_succ]; exact Nat.mul_le_mul_right _ ih)
def xh (g : ByteArray -> Int) : Tm -> Pl
 | .num z=>Pl.const z
 | .name s=>Pl.var (g s)
 | .add a b=>(xh g a).add (xh g b)
 | .sub a b=>(xh g a).add (xh g b).opp
 | .mul a b=>(xh g a).mul (xh g b)
 | .neg a=>(xh g a).opp
 | .pow a e=>(xh g a).pow e.toNat
theorem qch (g:ByteArray->Int) (t:Tm):(xh g t).Can:=by
 cases t
 · exact kad _
 · exact Pl.var_can _
 · exact Pl.add_can _ _
 · exact Pl.add_can _ _
 · exact Pl.mul_can _ _
 · exact Pl.opp_can _
 · exact Pl.pow_can _ _
theorem qci (k:Nat):∀ n,n < k->n < 10 ^ qo n:=by
 induction k with
 | zero=>intro n h; omega
 | succ k ih =>
   intro n h
   by_cases h1:n < 10
   · rw [kaw h1]; omega
   · rw [vbc (by omega),Nat.pow_succ];have:=ih (n / 10) (by omega);omega
def Bd (p:Pl) (W:Nat):Prop:=p.Can/\p.ex W/\p.nr<=10 ^ W
theorem Bd.fit {p:Pl} {W:Nat} (h:Bd p W):Fit p W (W+1):=⟨h.1,h.2.1,Nat.lt_of_le_of_lt h.2.2 (Nat.lt_of_lt_of_le (Nat.pow_lt_pow_right (by decide) (Nat.lt_succ_self W)) (Nat.pow_le_pow_left (by decide) _))⟩
theorem Bd.mono {p:Pl} {W V:Nat} (h:Bd p W) (hl:W<=V):Bd p V:=⟨h.1,Pl.ex_mono hl _ h.2.1,Nat.le_trans h.2.2 (Nat.pow_le_pow_right (by decide) hl)⟩
theorem Bd.add {p q:Pl} {W:Nat} (h:Bd p W) (k:Bd q W):Bd (p.add q) (W+1):=by
 refine ⟨Pl.add_can _ _,Pl.ex_mono (by omega) _ (h.fit.add k.fit).ex,Nat.le_trans (Pl.add_nr h.1 k.1) ?_⟩;have:=h.2.2; have:=k.2.2;rw [Nat.pow_succ];omega
theorem Bd.mul {p q:Pl} {W V:Nat} (h:Bd p W) (k:Bd q V):Bd (p.mul q) (W+V):=
 ⟨Pl.mul_can _ _,(h.fit.mul k.fit).ex,Nat.le_trans (Pl.mul_nr h.1 k.1) (by rw [Nat.pow_add]; exact Nat.mul_le_mul h.2.2 k.2.2)⟩
theorem Bd.opp {p:Pl} {W:Nat} (h:Bd p W):Bd p.opp W:=⟨Pl.opp_can _,h.fit.opp.ex,Nat.le_trans (Pl.opp_nr h.1) h.2.2⟩
theorem Bd.pow {p:Pl} {W:Nat} (h:Bd p W) (n:Nat):Bd (p.pow n) (n * W):=
 ⟨Pl.pow_can _ _,(h.fit.pow n).ex,Nat.le_trans (Pl.pow_nr h.1 n) (by rw [Nat.mul_comm,Nat.pow_mul]; exact Nat.pow_le_pow_left h.2.2 n)⟩
theorem xak {n:Int} (h:uf n<=400):uf n=n:=by unfold uf at *; split at h <;> (try split) <;> omega
theorem zbe {a:Tm} {e:Int} (h:(Tm.pow a e).wt<=400):(Tm.pow a e).wt=je e 1 * a.wt/\a.wt<=400/\1<=je e 1/\e<=je e 1/\je e 1<=400:=by
 have ha:=a.wt_bd;have he:1<=je e 1/\e<=je e 1:=by unfold je; split <;> omega
 have h1:=qah he.1;have h2:=qah ha.1
 change xal (je e 1) a.wt<=400 at h
 change xal (je e 1) a.wt=_/\_
 unfold xal at h ⊢;have h3:=xak h;rw [h3] at h ⊢;have h4:uf (je e 1) * 1<=uf (je e 1) * uf a.wt:=Int.mul_le_mul_of_nonneg_left h2.1 (by omega);have h5:1 * uf a.wt<=uf (je e 1) * uf a.wt:=Int.mul_le_mul_of_nonneg_right h1.1 (by omega);have e1:=xak (n:=je e 1) (by omega);have e2:=xak (n:=a.wt) (by omega);rw [e1,e2] at h h4 h5 ⊢;exact ⟨rfl,by omega,he.1,he.2,by omega⟩
theorem zai (g:ByteArray->Int) (t:Tm) (h:t.wt<=400):Bd (xh g t) t.wt.toNat:=by
 induction t with
 | num z =>
   have h1:=xak h;refine ⟨kad z,(Fit.const (D:=z.natAbs+1) (Nat.lt_of_lt_of_le (Nat.lt_pow_self (by decide)) (Nat.pow_le_pow_right (by decide) (Nat.le_succ _)))).ex,?_⟩;have h2:(Tm.num z).wt.toNat=qo z.natAbs:=by show (uf _).toNat=_; rw [h1]; rfl
   rw [h2];show (Pl.const z).nr<=_;rw [Pl.const_nr];exact Nat.le_of_lt (qci (z.natAbs+1) _ (by omega))
 | name s =>
   have:=Pl.var_fit (g s);exact ⟨this.1.can,this.1.ex,Nat.le_trans this.2 (Nat.pow_pos (by decide))⟩
 | add a b iha ihb =>
   have h1:(Tm.add a b).wt=je a.wt b.wt+1:=xak h;have hm:a.wt<=je a.wt b.wt/\b.wt<=je a.wt b.wt:=by unfold je; split <;> omega
   have:=a.wt_bd; have:=b.wt_bd;rw [h1] at h ⊢;rw [show (je a.wt b.wt+1).toNat=(je a.wt b.wt).toNat+1 by omega];exact ((iha (by omega)).mono (by omega)).add ((ihb (by omega)).mono (by omega))
 | sub a b iha ihb =>
   have h1:(Tm.sub a b).wt=je a.wt b.wt+1:=xak h;have hm:a.wt<=je a.wt b.wt/\b.wt<=je a.wt b.wt:=by unfold je; split <;> omega
   have:=a.wt_bd; have:=b.wt_bd;rw [h1] at h ⊢;rw [show (je a.wt b.wt+1).toNat=(je a.wt b.wt).toNat+1 by omega];exact ((iha (by omega)).mono (by omega)).add ((ihb (by omega)).mono (by omega)).opp
 | mul a b iha ihb =>
   have h1:(Tm.mul a b).wt=a.wt+b.wt:=xak h;have:=a.wt_bd; have:=b.wt_bd;rw [h1] at h ⊢;rw [show (a.wt+b.wt).toNat=a.wt.toNat+b.wt.toNat by omega];exact (iha (by omega)).mul (ihb (by omega))
 | neg a iha=>exact (iha h).opp
 | pow a e iha =>
   obtain ⟨h1,h2,h3,h4,h5⟩:=zbe h;rw [h1];have ha:=a.wt_bd;refine ((iha h2).pow e.toNat).mono ?_;have h6:e.toNat * a.wt.toNat<=(je e 1).toNat * a.wt.toNat:=Nat.mul_le_mul_right _ (by omega);have h7:(je e 1 * a.wt).toNat=(je e 1).toNat * a.wt.toNat:=by
    obtain ⟨m,hm⟩:∃ m:Nat,je e 1=m:=⟨(je e 1).toNat,by omega⟩;obtain ⟨n,hn⟩:∃ n:Nat,a.wt=n:=⟨a.wt.toNat,by omega⟩;rw [hm,hn];exact Int.toNat_natCast (m * n)
   omega
structure PSt where
 names:List ByteArray
 all:List Bool
 lev:ByteArray->Int
def PSt.bind (s:PSt) (a:Bool) (nm:ByteArray):PSt:=⟨s.names ++ [nm],s.all ++ [a],fun t=>if t=nm then (s.names.length+1:Nat) else s.lev t⟩
def gab (k:Int) (a b:Mx):Mx:=.mk k 0 Pl.zero [a,b]
def wax (b:Bool):Mx:=.mk (if b then 1 else 0) 0 Pl.zero []
def ubc (r:Int) (p:Pl):Mx:=.mk 2 r p []
def Fm.noIff : Fm -> Bool
 | .truth _=>true
 | .atom _ _ _=>true
 | .not f=>f.noIff
 | .and f g=>f.noIff && g.noIff
 | .or f g=>f.noIff && g.noIff
 | .imp f g=>f.noIff && g.noIff
 | .iff _ _=>false
 | .quant _ _ f=>f.noIff
def xy : Fm -> Bool -> PSt -> Mx × PSt
 | .truth b,pos,s=>(wax (b == pos),s)
 | .atom l r k,pos,s=>(ubc (if pos then zad r else kbd (zad r)) ((xh s.lev l).add (xh s.lev k).opp),s)
 | .not f,pos,s=>xy f (!pos) s
 | .and f g,pos,s=>(gab (if pos then 3 else 4) (xy f pos s).1 (xy g pos (xy f pos s).2).1,(xy g pos (xy f pos s).2).2)
 | .or f g,pos,s=>(gab (if pos then 4 else 3) (xy f pos s).1 (xy g pos (xy f pos s).2).1,(xy g pos (xy f pos s).2).2)
 | .imp f g,pos,s=>(gab (if pos then 4 else 3) (xy f (!pos) s).1 (xy g pos (xy f (!pos) s).2).1,(xy g pos (xy f (!pos) s).2).2)
 | .iff _ _,_,s=>(wax false,s)
 | .quant a nm f,pos,s=>xy f pos (s.bind (a == pos) nm)
def Fm.light : Fm -> Prop
 | .truth _=>True
 | .atom l _ k=>l.wt<=320/\k.wt<=320
 | .not f=>f.light
 | .and f g=>f.light/\g.light
 | .or f g=>f.light/\g.light
 | .imp f g=>f.light/\g.light
 | .iff f g=>f.light/\g.light
 | .quant _ _ f=>f.light
end Go.Proofs.YtaedbimbbeploaaGreatDoor
