/- How many digits sums, differences, products and powers of fractions have; values of terms. No program in sight. -/
import Derived.Test.YtcfcjabgkfehlaaGreatMf19
import Derived.Test.YtcfcjabgkfehlaaGreatWt
import Derived.Test.YtcfcjabgkfehlaaGreatFirst
set_option linter.unusedSimpArgs false
set_option linter.unusedVariables false

namespace Go.Proofs.YtcfcjabgkfehlaaGreat
open Go.RowKit
theorem jbb (n:Int) (d:Nat) (h:d ≠ 0):(Rat.normalize n d h).num.natAbs<=n.natAbs/\(Rat.normalize n d h).den<=d:=by
 rw [Rat.normalize_eq];exact ⟨by show (n / _).natAbs<=_; exact Int.natAbs_ediv_le_natAbs _ _,Nat.div_le_self _ _⟩
theorem ybb {q:Rat} {n d K:Nat} (hn:q.num.natAbs<=n) (hd:q.den<=d) (h1:(dg n).length<=K) (h2:(dg d).length<=K):rlen q<=K:=by
 have:=Nat.le_trans (jl hn) h1;have:=Nat.le_trans (jl hd) h2;unfold rlen;omega
theorem zat (q:Rat):(dg q.num.natAbs).length<=rlen q:=Nat.le_max_left _ _
theorem yam (q:Rat):(dg q.den).length<=rlen q:=Nat.le_max_right _ _
theorem uw (q:Rat):1<=rlen q:=Nat.le_trans (yar q.den_nz) (yam q)
theorem gbe (a b:Rat):(dg (a.num.natAbs * b.den)).length<=rlen a+rlen b:=Nat.le_trans (gal _ _) (Nat.add_le_add (zat a) (yam b))
theorem xbu (a b:Rat):(dg (a.den * b.den)).length<=rlen a+rlen b:=Nat.le_trans (gal _ _) (Nat.add_le_add (yam a) (yam b))
theorem ya6 (a b:Rat):rlen (a+b)<=rlen a+rlen b+1:=by
 rw [Rat.add_def];have h:=jbb (a.num * b.den+b.num * a.den) (a.den * b.den) (Nat.mul_ne_zero a.den_nz b.den_nz);have h1:(a.num * b.den+b.num * a.den).natAbs<=a.num.natAbs * b.den+b.num.natAbs * a.den:=by
  refine Nat.le_trans (Int.natAbs_add_le _ _) ?_;rw [Int.natAbs_mul,Int.natAbs_mul,Int.natAbs_natCast,Int.natAbs_natCast];exact Nat.le_refl _
 refine ybb (Nat.le_trans h.1 h1) h.2 ?_ (Nat.le_trans (xbu a b) (by omega));have h2:=wal (a.num.natAbs * b.den) (b.num.natAbs * a.den);have h3:=gbe a b;have h4:=gbe b a;omega
theorem zbj (a:Rat):rlen (-a)=rlen a:=by unfold rlen; rw [Rat.neg_num,Rat.neg_den,Int.natAbs_neg]
theorem ycd (a b:Rat):rlen (a - b)<=rlen a+rlen b+1:=by
 rw [Rat.sub_eq_add_neg];have:=ya6 a (-b)
 rwa [zbj] at this
theorem gaw (a b:Rat):rlen (a * b)<=rlen a+rlen b:=by
 rw [Rat.mul_def];have h:=jbb (a.num * b.num) (a.den * b.den) (Nat.mul_ne_zero a.den_nz b.den_nz);rw [Int.natAbs_mul] at h;exact ybb h.1 h.2 (Nat.le_trans (gal _ _) (Nat.add_le_add (zat a) (zat b))) (xbu a b)
theorem ua9:(dg 1).length=1:=by rw [jap (by decide) (by decide)]; rfl
theorem uag (z:Int) {L:Nat} (h:(dg z.natAbs).length<=L) (hL:1<=L):rlen (z:Rat)<=L:=by
 unfold rlen;rw [Rat.num_intCast,Rat.den_intCast,ua9];omega
theorem xcd:rlen (1:Rat)=1:=by
 have h:=uag 1 (L:=1) (by show (dg 1).length<=1; rw [ua9]; exact Nat.le_refl _) (by omega);have:=uw (1:Rat);have h':rlen (1:Rat)<=1:=by simpa using h
 omega
theorem wbi (a:Rat) (n:Nat):rlen (a ^ n)<=max n 1 * rlen a:=by
 have hp:=uw a
 induction n with
 | zero=>rw [Rat.pow_zero,xcd]; simpa using hp
 | succ n ih =>
   cases n with
   | zero=>rw [Rat.pow_succ,Rat.pow_zero,Rat.one_mul]; simp
   | succ n =>
     rw [Rat.pow_succ];have h1:=gaw (a ^ (n+1)) a;rw [show max (n+1+1) 1=n+1+1 by omega,Nat.succ_mul (n+1)];rw [show max (n+1) 1=n+1 by omega] at ih;omega
def Tm.val (g : ByteArray -> Option Rat) : Tm -> Rat
 | .num z=>(z:Rat)
 | .name s=>(g s).getD 0
 | .add a b=>a.val g+b.val g
 | .sub a b=>a.val g - b.val g
 | .mul a b=>a.val g * b.val g
 | .neg a=>-a.val g
 | .pow a e=>a.val g ^ e.toNat
def Tm.bt (L : Nat) : Tm -> Nat
 | .num _=>L
 | .name _=>L
 | .add a b=>a.bt L+b.bt L+1
 | .sub a b=>a.bt L+b.bt L+1
 | .mul a b=>a.bt L+b.bt L
 | .neg a=>a.bt L
 | .pow a e=>max e.toNat 1 * a.bt L
def Tm.covered (g : ByteArray -> Option Rat) : Tm -> Prop
 | .num _=>True
 | .name s=>(g s).isSome=true
 | .add a b=>a.covered g/\b.covered g
 | .sub a b=>a.covered g/\b.covered g
 | .mul a b=>a.covered g/\b.covered g
 | .neg a=>a.covered g
 | .pow a _=>a.covered g
theorem Tm.bt_pos (L:Nat) (hL:1<=L) (t:Tm):1<=t.bt L:=by
 induction t with
 | num z=>exact hL
 | name s=>exact hL
 | add a b iha ihb=>simp only [Tm.bt]; omega
 | sub a b iha ihb=>simp only [Tm.bt]; omega
 | mul a b iha ihb=>simp only [Tm.bt]; omega
 | neg a iha=>exact iha
 | pow a e iha=>simp only [Tm.bt]; exact Nat.le_trans iha (Nat.le_mul_of_pos_left _ (by omega))
theorem qw.rlen_le {w:World} {x:Value} {q:Rat} {L:Nat} (h:qw w x q L) (hL:1<=L):rlen q<=L:=by
 obtain ⟨neg,s1,s2,ds,es,e,h1,h2,rfl,h4,h5⟩:=h
 by_cases h0:val es=0
 · rw [h0,Rat.mkRat_zero];have:=uag 0 (L:=L) (by show (dg 0).length<=L; rw [jk]; simp) hL;simpa using this
 · rw [<- Rat.normalize_eq_mkRat h0];have h:=jbb (sgn neg (val ds)) (val es) h0;rw [jr] at h;exact ybb h.1 h.2 (Nat.le_trans (ve h1.digs) h4) (Nat.le_trans (ve h2.digs) h5)
theorem kah {w:World} {L:Nat} (hL:1<=L) {g:ByteArray->Option Rat} (hg:∀ s q,g s=some q->rlen q<=L) {t:Tm} {v:Value} (h:TmV w L t v) (hc:t.covered g):rlen (t.val g)<=t.bt L:=by
 induction t generalizing v with
 | num z=>obtain ⟨x,e,h⟩:=h; exact uag z h.len hL
 | name s =>
   simp only [Tm.covered] at hc;simp only [Tm.val,Tm.bt];cases hh:g s with
   | none=>rw [hh] at hc; cases hc
   | some q=>exact hg s q hh
 | add a b iha ihb =>
   obtain ⟨x,y,e,h,k⟩:=h;have h1:=iha h hc.1;have h2:=ihb k hc.2;have h3:=ya6 (a.val g) (b.val g);simp only [Tm.val,Tm.bt]; omega
 | sub a b iha ihb =>
   obtain ⟨x,y,e,h,k⟩:=h;have h1:=iha h hc.1;have h2:=ihb k hc.2;have h3:=ycd (a.val g) (b.val g);simp only [Tm.val,Tm.bt]; omega
 | mul a b iha ihb =>
   obtain ⟨x,y,e,h,k⟩:=h;have h1:=iha h hc.1;have h2:=ihb k hc.2;have h3:=gaw (a.val g) (b.val g);simp only [Tm.val,Tm.bt]; omega
 | neg a iha =>
   obtain ⟨x,e,h⟩:=h;have h1:=iha h hc;simp only [Tm.val,Tm.bt]; rw [zbj]; exact h1
 | pow a n iha =>
   obtain ⟨x,e,h⟩:=h;have h1:=iha h hc;have h2:=wbi (a.val g) n.toNat;simp only [Tm.val,Tm.bt];exact Nat.le_trans h2 (Nat.mul_le_mul_left _ h1)
end Go.Proofs.YtcfcjabgkfehlaaGreat
