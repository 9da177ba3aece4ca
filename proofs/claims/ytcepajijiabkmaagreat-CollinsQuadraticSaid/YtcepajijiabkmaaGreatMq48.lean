/- Layers 24 and 25: pseudo.Exact and subresultant.quotient where the division is exact. -/
import Derived.Test.YtcepajijiabkmaaGreatMq47
set_option linter.unusedSimpArgs false
set_option linter.unusedVariables false

namespace Go.Proofs.YtcepajijiabkmaaGreat
open Go.RowKit
theorem jh.zero (l:Int):jh l Pl.zero:=fun ρ ρ' _=>by rw [Pl.zero_val,Pl.zero_val]
theorem qcm {l i:Int} (hl:1<=l) (aj:l<=4) (hi:0<=i) {p:Pl} (h:p.Can) {cs:List Pl} (hc:∀ c ∈ cs,jh l c) (hv:∀ ρ,qf ρ l cs=p.val ρ) (ρ:Int->Rat):(ji l i p).val ρ=(cs.getD i.toNat Pl.zero).val ρ:=by
 unfold ji;rw [if_neg (by omega)];exact ga5 (kac hl aj h) hc (fun ρ=>by rw [(Pl.cfL_coefs hl aj h).val,hv]) _ ρ
theorem kbf {l : Int} {g : List Pl} (hg : ∀ c ∈ g, jh l c) : ∀ (k : Nat) (rest : List Pl), (∀ c ∈ rest, jh l c) -> ∀ c ∈ zu g k rest, jh l c
 | 0,rest,h=>h
 | k+1,rest,h=>kbf hg k (kaa g k rest) fun c hc=>by
   obtain ⟨j,-,rfl⟩:=List.mem_map.1 hc;have h1:=(xaf (P:=jh l) (jh.zero l) h j).mul (xaf (P:=jh l) (jh.zero l) hg (g.length - 1))
   split
   · exact h1.sub ((xaf (P:=jh l) (jh.zero l) h (g.length - 1+k)).mul (xaf (P:=jh l) (jh.zero l) hg (j - k)))
   · exact h1
theorem zc5 {g:Pl} (hg:g.Can) (h:g ≠ Pl.zero):g.opp ≠ Pl.zero:=fun e=>h (by rw [<- Pl.opp_opp hg,e]; exact Pl.opp_zero)
theorem ucg {l:Int} (hl:1<=l) (aj:l<=4) {f g:Pl} (hg:g.Can) (iy:g ≠ Pl.zero) (ρ:Int->Rat):qf ρ l (zu ((g.cfL l).map Pl.opp) ((f.cfL l).length - ((g.cfL l).length - 1)) (f.cfL l))=(ul l f g).val ρ:=by
 have hz:g.opp.isZ=false:=by
  cases e:g.opp.isZ
  · rfl
  · exact absurd ((Pl.zero_isZ (Pl.opp_can g)).1 e) (zc5 hg iy)
 unfold ul wae;rw [if_pos ⟨hl,aj⟩,hz,if_neg (by simp),jac hl aj,jbj hl aj hg,List.length_map]
theorem gcg {l i:Int} (hl:1<=l) (aj:l<=4) (hi:0<=i) {f g:Pl} (hf:f.Can) (hg:g.Can) (iy:g ≠ Pl.zero) (ρ:Int->Rat):(ji l i (ul l f g)).val ρ=((zu ((g.cfL l).map Pl.opp) ((f.cfL l).length - ((g.cfL l).length - 1)) (f.cfL l)).getD i.toNat Pl.zero).val ρ:=by
 refine qcm hl aj hi (yah l f g) (kbf (fun c hc=>?_) _ _ (kac hl aj hf)) (ucg hl aj hg iy) ρ;obtain ⟨d,hd,rfl⟩:=List.mem_map.1 hc;exact (kac hl aj hg d hd).opp
section
variable {l:Int} (hl:1<=l) (aj:l<=4) {f g f0 f1 f2 g0 g1 g2:Pl} (hf:f.Can) (hg:g.Can)
include hl aj hf hg
theorem jc4 (ef:f.cfL l=[f0,f1,f2]) (eg:g.cfL l=[g0,g1]) (ρ:Int->Rat):(ji l 0 (ul l f g)).val ρ=f0.val ρ * g1.val ρ * g1.val ρ - f1.val ρ * g1.val ρ * g0.val ρ+f2.val ρ * g0.val ρ * g0.val ρ:=by
 rw [gcg hl aj (by omega) hf hg (kat (l:=l) (by unfold mdg; rw [eg]; simp)),ef,eg];simp [zu,kaa,Pl.mul_val,Pl.sub_val,Pl.opp_val,Pl.zero_val,List.range_succ]
 grind
end
section
variable {l:Int} (hl:1<=l) (aj:l<=4) {f g:Pl} (hf:f.Can) (hg:g.Can) (nO:mdg l f=2) (dL:mdg l g=2)
include hl aj hf hg nO dL
end
end Go.Proofs.YtcepajijiabkmaaGreat
