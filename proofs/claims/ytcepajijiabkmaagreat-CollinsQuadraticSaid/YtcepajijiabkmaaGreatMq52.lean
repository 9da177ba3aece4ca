/- Layer 41: collins.Required where it refuses; the levels of the required polynomials. -/
import Derived.Test.YtcepajijiabkmaaGreatMq50
import Derived.Test.YtcepajijiabkmaaGreatMq49
set_option linter.unusedSimpArgs false
set_option linter.unusedVariables false

namespace Go.Proofs.YtcepajijiabkmaaGreat
open Go.RowKit
theorem wcq {l:Int} {fs:List Pl}:(df l fs).length<=(elems l fs).length:=by
 have:=ybc (elems l fs) [];rw [List.length_nil,Nat.zero_add] at this;exact this
theorem ka4 {l:Int} (hl:1<=l) (aj:l<=4) {cs:List Pl} (hc:∀ c ∈ cs,c.Can/\c.lv < l) (h0:cs.getLast? ≠ some Pl.zero):(joinL l cs).cfL l=cs:=
 (Pl.cfL_coefs hl aj (jad l cs)).uniq ⟨fun c h=>(hc c h).1,fun c h=>kah (hc c h).1 (hc c h).2,fun ρ=>(jac hl aj ρ cs).symm,h0⟩
theorem gat (z:Int):(Pl.const z).Can/\(Pl.const z).lv < 4:=⟨ut z,by show (0:Int) < 4; omega⟩
theorem xc1 {p:Pl} (hp:p.Can) (h:p ≠ Pl.zero) {z:Int} (hz:z ≠ 0):p.mul (Pl.const z) ≠ Pl.zero:=fun e=>by
 rcases Pl.mul_zero hp (ut z) (fun ρ=>by rw [<- Pl.mul_val,e,Pl.zero_val]) with h1 | h1
 · exact h h1
 · have h2:=Pl.const_val (fun _=>0) z;rw [h1,Pl.zero_val] at h2;exact hz (by exact_mod_cast h2.symm)
def qdF (h f g:Pl):Pl:=joinL 4 [g,f,h]
section
variable {h f g:Pl} (hh:h.Can/\h.lv < 4) (hf:f.Can/\f.lv < 4) (hg:g.Can/\g.lv < 4) (h0:h ≠ Pl.zero)
include hh hf hg h0
theorem xas:(qdF h f g).cfL 4=[g,f,h]:=ka4 (by omega) (by omega) (fun c hc=>by
 simp only [List.mem_cons,List.not_mem_nil,or_false] at hc;rcases hc with rfl | rfl | rfl
 · exact hg
 · exact hf
 · exact hh) (by simpa using h0)
theorem yas:mdg 4 (qdF h f g)=2:=by unfold mdg; rw [xas hh hf hg h0]; rfl
theorem zbc:wu 4 (qdF h f g)=h:=by unfold wu; rw [xas hh hf hg h0]; rfl
theorem yb6:kag 4 (qdF h f g)=joinL 4 [g,f]:=by unfold kag; rw [xas hh hf hg h0]; rfl
theorem xb6:(uo 4 (qdF h f g)).cfL 4=[f.mul (Pl.const 1),h.mul (Pl.const 2)]:=by
 unfold uo;rw [if_pos ⟨by omega,by omega⟩,xas hh hf hg h0];show (joinL 4 [f.mul (Pl.const 1),h.mul (Pl.const 2)]).cfL 4=_;refine ka4 (by omega) (by omega) (fun c hc=>?_) (by simpa using xc1 hh.1 h0 (by omega));simp only [List.mem_cons,List.not_mem_nil,or_false] at hc;have hm:∀ (p:Pl) (z:Int),p.Can/\p.lv < 4->(p.mul (Pl.const z)).Can/\(p.mul (Pl.const z)).lv < 4:=fun p z hp=>⟨Pl.mul_can _ _,by have:=Pl.mul_lv (n:=3) hp.1 (ut z) (by omega) (by have:=(gat z).2; omega) (by omega); omega⟩
 rcases hc with rfl | rfl
 · exact hm _ _ hf
 · exact hm _ _ hh
theorem kb1:mdg 4 (uo 4 (qdF h f g))=1:=by unfold mdg; rw [xb6 hh hf hg h0]; rfl
theorem kc0:jy 4 (qdF h f g) (uo 4 (qdF h f g))=[ji 4 0 (ul 4 (qdF h f g) (uo 4 (qdF h f g)))]:=by
 unfold jy;rw [yas hh hf hg h0,kb1 hh hf hg h0,if_neg (by omega),if_pos rfl]
theorem zb6 (ρ:Int->Rat):(ji 4 0 (ul 4 (qdF h f g) (uo 4 (qdF h f g)))).val ρ=h.val ρ * (4 * (h.val ρ * g.val ρ) - f.val ρ * f.val ρ):=by
 rw [jc4 (f:=qdF h f g) (by omega) (by omega) (jad _ _) (kbd _ _) (xas hh hf hg h0) (xb6 hh hf hg h0),Pl.mul_val,Pl.mul_val,Pl.const_val,Pl.const_val]
 push_cast
 grind
theorem kbl:uk 4 (qdF h f g)=qdF h f g :: (if h.lv=0 then [] else kz 4 1 (joinL 4 [g,f])):=by
 unfold uk;rw [yas hh hf hg h0];show kz 4 (1+1) _=_;rw [vaj (by rw [yas hh hf hg h0]; omega),zbc hh hf hg h0,yb6 hh hf hg h0]
theorem ycb:uaf 4 (qdF h f g)=if h.lv=0 then true else xad 4 1 (joinL 4 [g,f]):=by
 unfold uaf;rw [yas hh hf hg h0];show xad 4 (1+1) _=_;rw [yap (by rw [yas hh hf hg h0]; omega),zbc hh hf hg h0,yb6 hh hf hg h0]
end
theorem wbu {f g:Pl} (hg:g.Can/\g.lv < 4) (h:f=Pl.zero):joinL 4 [g,f]=g:=Pl.val_uniq (jad _ _) hg.1 fun ρ=>by
 rw [jac (by omega) (by omega),h];simp only [qf,Pl.zero_val]
 grind
theorem wbj {g:Pl} (hg:g.Can/\g.lv < 4):mdg 4 g<=0:=by
 by_cases h:g=Pl.zero
 · rw [(gbc hg.1).2 h]; omega
 · unfold mdg; rw [jc3 (by omega) (by omega) hg.1 h hg.2]; simp
section
variable {f g:Pl} (hf:f.Can/\f.lv < 4) (hg:g.Can/\g.lv < 4)
include hf hg
theorem qas (h:f ≠ Pl.zero):(joinL 4 [g,f]).cfL 4=[g,f]:=ka4 (by omega) (by omega) (fun c hc=>by
 simp only [List.mem_cons,List.not_mem_nil,or_false] at hc;rcases hc with rfl | rfl
 · exact hg
 · exact hf) (by simpa using h)
theorem zb7:kz 4 1 (joinL 4 [g,f])=if f.isZ=true then [] else [joinL 4 [g,f]]:=by
 by_cases hz:f.isZ=true
 · have h:=(Pl.zero_isZ hf.1).1 hz;rw [if_pos hz,wbu hg h,vaw (by have:=wbj hg; omega)]
 · have h:f ≠ Pl.zero:=fun e=>hz ((Pl.zero_isZ hf.1).2 e)
   rw [if_neg hz];have hm:mdg 4 (joinL 4 [g,f])=1:=by unfold mdg; rw [qas hf hg h]; rfl
   show kz 4 (0+1) _=_;rw [vaj (by rw [hm]; omega)];simp [kz]
theorem vct:xad 4 1 (joinL 4 [g,f])=if f.isZ=true then false else decide (f.lv=0):=by
 by_cases hz:f.isZ=true
 · have h:=(Pl.zero_isZ hf.1).1 hz;rw [if_pos hz,wbu hg h,ua8 (by have:=wbj hg; omega)]
 · have h:f ≠ Pl.zero:=fun e=>hz ((Pl.zero_isZ hf.1).2 e)
   rw [if_neg hz];have hm:mdg 4 (joinL 4 [g,f])=1:=by unfold mdg; rw [qas hf hg h]; rfl
   have hd:wu 4 (joinL 4 [g,f])=f:=by unfold wu; rw [qas hf hg h]; rfl
   show xad 4 (0+1) _=_;rw [yap (by rw [hm]; omega),hd]
   by_cases h1:f.lv=0
   · simp [h1]
   · simp [h1,xad]
theorem uc1 (h:f ≠ Pl.zero):wab 4 (joinL 4 [g,f])=[f]:=by
 have hd:wu 4 (joinL 4 [g,f])=f:=by unfold wu; rw [qas hf hg h]; rfl
 have hD:mdg 4 (uo 4 (joinL 4 [g,f]))<=0:=by
  have he:uo 4 (joinL 4 [g,f])=f:=Pl.val_uniq (kbd _ _) hf.1 fun ρ=>by
   unfold uo;rw [if_pos ⟨by omega,by omega⟩,jac (by omega) (by omega),qas hf hg h];simp only [List.tail_cons,uag,qf,Pl.mul_val,Pl.const_val]
   push_cast
   grind
  rw [he];exact wbj hf
 unfold wab jy;rw [hd,if_pos (.inr hD)]
end
section
variable {h f g:Pl} (hh:h.Can/\h.lv < 4) (hf:f.Can/\f.lv < 4) (hg:g.Can/\g.lv < 4) (h0:h ≠ Pl.zero)
include hh hf hg h0
theorem gcr:wab 4 (qdF h f g)=[h,ji 4 0 (ul 4 (qdF h f g) (uo 4 (qdF h f g)))]:=by
 unfold wab;rw [zbc hh hf hg h0,kc0 hh hf hg h0]
theorem zav:elems 4 [qdF h f g]=[h,ji 4 0 (ul 4 (qdF h f g) (uo 4 (qdF h f g)))] ++ if h.lv=0 then [] else if f.isZ=true then [g] else if f.lv=0 then [f] else [f,g]:=by
 have hp:∀ L:List Pl,ybj 4 [L]=[]:=fun L=>by simp [ybj,List.range_succ]
 have nS:ji 4 0 (qdF h f g)=g:=by unfold ji; rw [if_neg (by omega),xas hh hf hg h0]; rfl
 have e:elems 4 [qdF h f g]=jal 4 (qdF h f g):=by unfold elems; simp [hp]
 rw [e];unfold jal;rw [kbl hh hf hg h0,ycb hh hf hg h0,zb7 hf hg,vct hf hg];have hs:=gcr hh hf hg h0
 by_cases h1:h.lv=0
 · simp [h1,hs]
 · by_cases h2:f.isZ=true
   · simp [h1,h2,hs,nS]
   · have hl:=uc1 hf hg (fun e=>h2 ((Pl.zero_isZ hf.1).2 e))
     by_cases h3:f.lv=0
     · simp [h1,h2,h3,hs,hl]
     · simp [h1,h2,h3,hs,hl,nS]
theorem kbo:∀ p ∈ elems 4 [qdF h f g],p.Can:=by
 rw [zav hh hf hg h0];intro p hp;have hS:(ji 4 0 (ul 4 (qdF h f g) (uo 4 (qdF h f g)))).Can:=wa5 (yah _ _ _);rcases List.mem_append.1 hp with hp | hp
 · simp only [List.mem_cons,List.not_mem_nil,or_false] at hp;rcases hp with rfl | rfl
   · exact hh.1
   · exact hS
 · split at hp
   · cases hp
   · split at hp
     · rw [List.mem_singleton.1 hp]; exact hg.1
     · split at hp
       · rw [List.mem_singleton.1 hp]; exact hf.1
       · simp only [List.mem_cons,List.not_mem_nil,or_false] at hp;rcases hp with rfl | rfl
         · exact hf.1
         · exact hg.1
end
theorem vcr {f g d:Pl} (hf:f.Can/\f.lv < 4) (hg:g.Can/\g.lv < 4) (hd:d.Can) (hv:∀ ρ,d.val ρ=f.val ρ * f.val ρ - 4 * g.val ρ):df 4 [qdF (Pl.const 1) f g]=xu [d]:=by
 have hh:=gat 1;have h0:Pl.const 1 ≠ Pl.zero:=fun e=>by
  have h2:=Pl.const_val (fun _=>0) 1;rw [e,Pl.zero_val] at h2;exact absurd h2 (by decide)
 have dY:(Pl.const 1).lv=0:=rfl;have hS:=zb6 hh hf hg h0;have LJ:(ji 4 0 (ul 4 (qdF (Pl.const 1) f g) (uo 4 (qdF (Pl.const 1) f g)))).Can:=wa5 (yah _ _ _);unfold df;rw [zav hh hf hg h0,if_pos dY,List.append_nil];generalize ji 4 0 (ul 4 (qdF (Pl.const 1) f g) (uo 4 (qdF (Pl.const 1) f g)))=S at hS LJ;have e1:putA [] [Pl.const 1,S]=putL [] S:=by
  unfold putA;simp only [List.foldl_cons,List.foldl_nil];have:putL [] (Pl.const 1)=[]:=by unfold putL; rw [if_pos dY]
  rw [this]
 have mF:snP S=snP d:=ybb (z:=-1) (by omega) LJ fun ρ=>by
  rw [hS,hv,Pl.const_val]; push_cast; grind
 have dJ:S.lv=d.lv:=by rw [<- kax LJ,mF,kax hd]
 rw [e1,gbw hd];unfold putL;rw [dJ,mF]
 split
 · rfl
 · simp
theorem kci {h f g d:Pl} (hh:h.Can/\h.lv < 4) (hf:f.Can/\f.lv < 4) (hg:g.Can/\g.lv < 4) (h1:h.lv ≠ 0) (hd:d.Can) (hv:∀ ρ,d.val ρ=h.val ρ * (f.val ρ * f.val ρ - 4 * (h.val ρ * g.val ρ))) :
 xu (df 4 [qdF h f g])=xu ([h,d,f] ++ if 0 < f.lv\/f.isZ=true then [g] else []):=by
 have h0:h ≠ Pl.zero:=fun e=>h1 (by rw [e]; rfl)
 have hS:=zb6 hh hf hg h0;have LJ:(ji 4 0 (ul 4 (qdF h f g) (uo 4 (qdF h f g)))).Can:=wa5 (yah _ _ _);have hr:=kcv (ps:=[]) (kbo hh hf hg h0);rw [List.append_nil,List.append_nil] at hr;rw [hr,zav hh hf hg h0,if_neg h1];generalize ji 4 0 (ul 4 (qdF h f g) (uo 4 (qdF h f g)))=S at hS LJ;have mF:snP S=snP d:=ybb (z:=-1) (by omega) LJ fun ρ=>by
  rw [hS,hv]; push_cast; grind
 have qK:=hf.1.lv_nonneg.1;have DJ:f.isZ=true->¬ 0 < (snP f).lv:=fun e=>by rw [kax hf.1,(Pl.zero_isZ hf.1).1 e]; show ¬ (0:Int) < 0; omega
 by_cases h2:f.isZ=true
 · rw [if_pos h2,if_pos (.inr h2)];refine ga1 (fun p hp h=>?_) fun p hp h=>?_
   · simp only [List.cons_append,List.nil_append,List.mem_cons,List.not_mem_nil,or_false] at hp;rcases hp with rfl | rfl | rfl
     · exact ⟨p,by simp,rfl⟩
     · exact ⟨d,by simp,mF.symm⟩
     · exact ⟨p,by simp,rfl⟩
   · simp only [List.cons_append,List.nil_append,List.mem_cons,List.not_mem_nil,or_false] at hp;rcases hp with rfl | rfl | rfl | rfl
     · exact ⟨p,by simp,rfl⟩
     · exact ⟨S,by simp,mF⟩
     · exact absurd h (DJ h2)
     · exact ⟨p,by simp,rfl⟩
 · rw [if_neg h2]
   by_cases h3:f.lv=0
   · have KZ:¬ (0 < f.lv\/f.isZ=true):=fun h=>by
      rcases h with h | h
      · omega
      · exact h2 h
     rw [if_pos h3,if_neg KZ];refine ga1 (fun p hp h=>?_) fun p hp h=>?_
     · simp only [List.cons_append,List.nil_append,List.mem_cons,List.not_mem_nil,or_false] at hp;rcases hp with rfl | rfl | rfl
       · exact ⟨p,by simp,rfl⟩
       · exact ⟨d,by simp,mF.symm⟩
       · exact ⟨p,by simp,rfl⟩
     · simp only [List.append_nil,List.mem_cons,List.not_mem_nil,or_false] at hp;rcases hp with rfl | rfl | rfl
       · exact ⟨p,by simp,rfl⟩
       · exact ⟨S,by simp,mF⟩
       · exact ⟨p,by simp,rfl⟩
   · rw [if_neg h3,if_pos (.inl (by omega))];refine ga1 (fun p hp h=>?_) fun p hp h=>?_
     · simp only [List.cons_append,List.nil_append,List.mem_cons,List.not_mem_nil,or_false] at hp;rcases hp with rfl | rfl | rfl | rfl
       · exact ⟨p,by simp,rfl⟩
       · exact ⟨d,by simp,mF.symm⟩
       · exact ⟨p,by simp,rfl⟩
       · exact ⟨p,by simp,rfl⟩
     · simp only [List.cons_append,List.nil_append,List.mem_cons,List.not_mem_nil,or_false] at hp;rcases hp with rfl | rfl | rfl | rfl
       · exact ⟨p,by simp,rfl⟩
       · exact ⟨S,by simp,mF⟩
       · exact ⟨p,by simp,rfl⟩
       · exact ⟨p,by simp,rfl⟩
open Go.RowKit in
theorem gbl {w:World} {qa qb qc:Nat->Prop} {p q r:Pl} {A0 A1 B0 B1 C0 C1:Option Addr} {n0 c0 c1 m0 d0 d1 k0 e0 e1:Nat} (hp:PlV w qa p (plV p (.slice A0 n0 c0) (.slice A1 p.cs.length c1))) (hq:PlV w qb q (plV q (.slice B0 m0 d0) (.slice B1 q.cs.length d1))) (hr:PlV w qc r (plV r (.slice C0 k0 e0) (.slice C1 r.cs.length e1))) (T:TypeId) :
 jd (w.alloc (.cells #[.int .i64 p.lv,.bool p.neg,.slice A0 n0 c0,.slice A1 p.cs.length c1,.int .i64 q.lv,.bool q.neg,.slice B0 m0 d0,.slice B1 q.cs.length d1,.int .i64 r.lv,.bool r.neg,.slice C0 k0 e0,.slice C1 r.cs.length e1] T)) (fun _=>True) [p,q,r] (some ⟨w.heap.size,0,none⟩) 0:=by
 refine ⟨⟨⟨w.heap.size,0,none⟩,_,_,rfl,by simp,trivial,?_,(hp.ext ((Ext.refl w).alloc _)).mono fun _ _=>trivial⟩,⟨⟨w.heap.size,0,none⟩,_,_,rfl,by simp,trivial,?_,(hq.ext ((Ext.refl w).alloc _)).mono fun _ _=>trivial⟩,⟨⟨w.heap.size,0,none⟩,_,_,rfl,by simp,trivial,?_,(hr.ext ((Ext.refl w).alloc _)).mono fun _ _=>trivial⟩,trivial⟩
 · refine ⟨?_,?_,?_,?_⟩ <;> simp [go_sem,uq]
 · refine ⟨?_,?_,?_,?_⟩ <;> simp [go_sem,uq]
 · refine ⟨?_,?_,?_,?_⟩ <;> simp [go_sem,uq]
theorem zcs (l:Int) (f g:Pl):(jy l f g).length<=2:=by
 unfold jy
 split
 · simp
 · split
   · simp
   · split <;> simp
section
variable {h f g:Pl} (hh:h.Can/\h.lv < 4) (hf:f.Can/\f.lv < 4) (hg:g.Can/\g.lv < 4) (h0:h ≠ Pl.zero) (kh:Fit h 3 5) (kf:Fit f 3 5) (kg:Fit g 3 5)
include hh hf hg kh kf kg
theorem vci:∀ c ∈ [g,f,h],c.Can/\c.lv < 4/\Fit c 3 5:=fun c hc=>by
 simp only [List.mem_cons,List.not_mem_nil,or_false] at hc;rcases hc with rfl | rfl | rfl
 · exact ⟨hg.1,hg.2,kg⟩
 · exact ⟨hf.1,hf.2,kf⟩
 · exact ⟨hh.1,hh.2,kh⟩
theorem va6:Fit (qdF h f g) 3 6:=by
 refine uav (fun c hc=>?_) (by simp) ?_
 · obtain ⟨h1,h2,h3⟩:=vci hh hf hg kh kf kg c hc;exact ⟨h1,kah h1 h2,h3.ex⟩
 · have a:=kh.nr;have b:=kf.nr;have c:=kg.nr;have e:B32 ^ 6=B32 ^ 5 * B32:=Nat.pow_succ ..;have hB:B32=4294967296:=rfl;simp only [ql];rw [e];generalize B32 ^ 5=X at *;rw [hB];omega
include h0
theorem ucr:∀ r ∈ uk 4 (qdF h f g),Fit r 3 9/\0 < mdg 4 r/\mdg 4 r<=2:=fun r hr=>by
 have hF:=va6 hh hf hg kh kf kg;have hm:=yas hh hf hg h0;obtain ⟨h1,h2⟩:=xbf (l:=4) (n:=(mdg 4 (qdF h f g)).toNat) hF (by have:B32=4294967296:=rfl; omega) r hr;refine ⟨h1.mono (Nat.le_refl _) (by omega),h2,?_⟩;rw [kbl hh hf hg h0] at hr;rcases List.mem_cons.1 hr with rfl | hr
 · omega
 · split at hr
   · cases hr
   · rw [zb7 hf hg] at hr
     split at hr
     · cases hr
     · rename_i hz;rw [List.mem_singleton] at hr;subst hr;have FB:f ≠ Pl.zero:=fun e=>hz (by rw [e]; rfl)
       unfold mdg;rw [qas hf hg FB];simp
theorem wc4:ja7 4 [qdF h f g]:=fun r s Dk=>by
 rcases Dk with ⟨p,hp,hr,rfl⟩ | ⟨i,j,hi,hj,oL,-⟩
 · rw [List.mem_singleton] at hp;subst hp;obtain ⟨h1,h2,h3⟩:=ucr hh hf hg h0 kh kf kg r hr;have hd:=uc2 (l:=4) (by omega) (by omega) h1.can h2;have hdf:=wa1 (l:=4) h1 (by have:B32=4294967296:=rfl; omega);refine ⟨by have:=zcs 4 r (uo 4 r); omega,fun W' v0 v1 q0 q1 k0 k1=>?_⟩;exact qb6 v0 v1 (by omega) (by omega) k0 k1 (h1.mono (F:=3) (G:=11) (by omega) (by omega)) hdf (by omega) (by omega) (by omega) (by omega) (by omega)
 · simp at hi hj; omega
theorem zbt:(∀ p ∈ elems 4 [qdF h f g],Fit p 18 60)/\(elems 4 [qdF h f g]).length<=4:=by
 have hF:=va6 hh hf hg kh kf kg;have hB:B32=4294967296:=rfl;have hS:Fit (ji 4 0 (ul 4 (qdF h f g) (uo 4 (qdF h f g)))) 18 60:=jcm ((gaz (l:=4) (by omega) (by omega) hF (wa1 hF (by omega)) (by omega)).mono (by omega) (by omega));have mh:=kh.mono (F:=18) (G:=60) (by omega) (by omega);have mf:=kf.mono (F:=18) (G:=60) (by omega) (by omega);have mg:=kg.mono (F:=18) (G:=60) (by omega) (by omega);rw [zav hh hf hg h0];generalize ji 4 0 (ul 4 (qdF h f g) (uo 4 (qdF h f g)))=S at *
 constructor
 · intro p hp;rcases List.mem_append.1 hp with hp | hp
   · simp only [List.mem_cons,List.not_mem_nil,or_false] at hp;rcases hp with rfl | rfl
     · exact mh
     · exact hS
   · revert hp
     repeat' split
     all_goals
      intro hp;simp only [List.mem_cons,List.not_mem_nil,or_false] at hp
     · exact hp ▸ mg
     · exact hp ▸ mf
     · rcases hp with rfl | rfl
       · exact mf
       · exact mg
 · rw [List.length_append]
   repeat' split
   all_goals simp
end
section
variable {h f g:Pl} (hh:h.Can/\h.lv < 4) (hf:f.Can/\f.lv < 4) (hg:g.Can/\g.lv < 4) (kh:Fit h 3 5) (kf:Fit f 3 5) (kg:Fit g 3 5)
include hh hf hg kh kf kg
theorem wb5 {w:World} {q:Nat->Prop} {A:Option Addr} {c:Nat} (hA:jd w q [g,f,h] A 0) (hc:3<=c) (dw:c<=9223372036854775807):Calls Tryz.prog 13 #[.slice A 3 c,.int .i64 4] w (zg (fun b=>w.heap.size<=b) (qdF h f g) w):=by
 have iC:∀ x ∈ [g,f,h],Fit x 3 5:=fun x hx=>(vci hh hf hg kh kf kg x hx).2.2
 have hF:=va6 hh hf hg kh kf kg;exact kav (L:=[g,f,h]) (by omega) (by omega) hA hc dw (za7 iC (by simp) (by omega)) (Nat.le_trans (ka0 iC) (by omega)) (hF.copy_ (by omega))
theorem wa8 {w:World} {q:Nat->Prop} {A:Option Addr} {c:Nat} (h0:h ≠ Pl.zero) (hA:jd w q [qdF h f g] A 0) (hc:1<=c) (dw:c<=9223372036854775807):Calls Tryz.prog 12 #[.slice A 1 c,.int .i64 4] w (qa7 (fun _=>True) (df 4 [qdF h f g]) 0 w):=by
 have hF:=va6 hh hf hg kh kf kg;obtain ⟨h1,h2⟩:=zbt hh hf hg h0 kh kf kg;exact ga3 (fs:=[qdF h f g]) (E:=3) (D:=6) (E2:=18) (D2:=60) (by omega) (by omega) hA hc dw (by simp) (fun x hx=>by rw [List.mem_singleton.1 hx]; exact hF) (by omega) (by omega) (Lib.hid (wc4 hh hf hg h0 kh kf kg)) h1 (by omega) (by omega) (by omega) (fun x hx=>by rw [List.mem_singleton.1 hx]; exact hF.can.lv_nonneg.2)
end
theorem qbv (x : Sp) : ∀ l : List Sp, (jam x l).length <= l.length + 1
 | []=>by simp [jam]
 | y :: r=>by
   have:=qbv x r;unfold jam
   repeat' split
   all_goals simp only [List.length_cons] at *; omega
theorem ubw : ∀ l : List Sp, (jaj l).length <= l.length
 | []=>Nat.le_refl _
 | x :: r=>by
   have h1:=ubw r;have h2:=qbv x (jaj r);have e:jaj (x :: r)=jam x (jaj r):=rfl;rw [e,List.length_cons]; omega
theorem wbw (ps:List Pl):(xu ps).length<=ps.length:=by
 unfold xu yao;rw [List.length_map];refine Nat.le_trans (ubw _) ?_;rw [List.length_map];refine Nat.le_trans (List.length_filter_le _ _) ?_;rw [List.length_map]; omega
theorem zbx {ps:List Pl} {E D:Nat} (h:∀ p ∈ ps,Fit p E D):∀ p ∈ xu ps,Fit p E D:=fun p hp=>by
 obtain ⟨y,hy,rfl,-⟩:=zao.1 (vcv.1 hp);exact jai (h y hy)
theorem yh.built {W:World} {q:Nat->Prop} (rs:List (Pl × Value × Value)) (h:∀ r ∈ rs,(∃ A0 n0 c0 A1 n1 c1,r.2=(.slice A0 n0 c0,.slice A1 n1 c1))/\PlV W q r.1 (plV r.1 r.2.1 r.2.2)) (hn:rs.length<=1000) :
 yh W.heap.size q (W.alloc (.cells (yl rs).toArray 33)) (.slice (some ⟨W.heap.size,0,none⟩) rs.length rs.length) (rs.map fun r=>r.1):=by
 have hb:(W.alloc (.cells (yl rs).toArray 33)).heap[W.heap.size]?=some (.cells (yl rs).toArray 33 (0,0)):=heap_alloc_new W _;refine ⟨rs,rfl,⟨⟨yu rs,.inr ⟨W.heap.size,rs.length,_,rfl,Nat.le_refl _,hb,Nat.le_refl _,by unfold maxLen; omega,by rw [List.size_toArray,yu],?_⟩⟩,?_⟩,fun r hr=>⟨(h r hr).1,?_⟩⟩
 · rw [<- yu,List.take_length]
 · intro R cur T fr e hc u hu;injection e with e
   rw [<- e,hb] at hc;injection hc with hc
   injection hc with bZ dw hc3
   rw [<- bZ] at hu;simp only [yl,List.mem_flatMap] at hu;obtain ⟨r,hr,hu⟩:=hu;obtain ⟨⟨A0,n0,c0,A1,n1,c1,er⟩,-⟩:=h r hr;simp only [plC,er,List.mem_cons,List.not_mem_nil,or_false] at hu;rcases hu with rfl | rfl | rfl | rfl <;> rfl
 · refine PlV.turn_ (by simp) (fun v ds hv=>hv.ext ((Ext.refl W).alloc _)) (fun b hb hq=>⟨⟨fun e=>?_,hq⟩,((Ext.refl W).alloc _).below.block b hb⟩) (h r hr).2;injection e with e
   simp only at e;omega
end Go.Proofs.YtcepajijiabkmaaGreat
