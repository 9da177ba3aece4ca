/- Layer 41: collins.Required where it refuses; the levels of the required polynomials. -/
import Derived.Test.YtcepajijiabkmaaGreatMp50
import Derived.Test.YtcepajijiabkmaaGreatMp49
set_option linter.unusedSimpArgs false
set_option linter.unusedVariables false

namespace Go.Proofs.YtcepajijiabkmaaGreat
open Go.RowKit
theorem vcu {l:Int} {fs:List Pl}:(dF l fs).length<=(elems l fs).length:=by
 have:=wbd (elems l fs) [];rw [r8,rh] at this;exact this
section
variable {h f g:Pl} (hh:h.Can/\h.lv < 4) (hf:f.Can/\f.lv < 4) (hg:g.Can/\g.lv < 4) (h0:h ≠ Pl.zero)
include hh hf hg h0
end
section
variable {f g:Pl} (hf:f.Can/\f.lv < 4) (hg:g.Can/\g.lv < 4)
include hf hg
end
section
variable {h f g:Pl} (hh:h.Can/\h.lv < 4) (hf:f.Can/\f.lv < 4) (hg:g.Can/\g.lv < 4) (h0:h ≠ Pl.zero)
include hh hf hg h0
end
section
variable {l:Int} (hl:1<=l) (ag:l<=4) {c:Int} (hc:c ≠ 0)
include hl ag
end
section
variable {l:Int} (hl:1<=l) (ag:l<=4)
end
theorem zby (x : Sp) : ∀ l : List Sp, (uap x l).length <= l.length + 1
 | []=>by simp [uap]
 | y :: r=>by
   have:=zby x r;unfold uap
   repeat' split
   all_goals simp only [pL] at *; omega
theorem xbz : ∀ l : List Sp, (xao l).length <= l.length
 | []=>pj _
 | x :: r=>by
   have h1:=xbz r;have h2:=zby x (xao r);have e:xao (x :: r)=uap x (xao r):=rfl;rw [e,pL]; omega
theorem zcz (ps:List Pl):(uad ps).length<=ps.length:=by
 unfold uad jas;rw [px];refine py (xbz _) ?_;rw [px];refine py (uc _ _) ?_;rw [px]; omega
theorem ycz {ps:List Pl} {E D:Nat} (h:∀ p ∈ ps,Fit p E D):∀ p ∈ uad ps,Fit p E D:=fun p hp=>by
 obtain ⟨y,hy,rfl,-⟩:=yaq.1 (wcy.1 hp);exact ual (h y hy)
theorem ycp (a b:List Pl):uad (a ++ b)=uad (b ++ a):=gcy (fun p hp _=>⟨p,by simp only [rj] at hp ⊢; exact Or.comm.1 hp,rfl⟩) fun p hp _=>⟨p,by simp only [rj] at hp ⊢; exact Or.comm.1 hp,rfl⟩
section
variable {l:Int} (hl:1<=l) (ag:l<=4)
include hl ag
end
def zac (l:Int) (ps:List Pl):List Pl:=ps.filter fun p=>decide (p.lv=l)
def uag (l:Int) (ps:List Pl):List Pl:=ps.filter fun p=>decide (p.lv < l)
end Go.Proofs.YtcepajijiabkmaaGreat
