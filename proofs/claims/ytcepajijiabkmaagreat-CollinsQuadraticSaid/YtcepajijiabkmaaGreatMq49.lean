/- Layer 25: descend where both degrees are 2. -/
import Derived.Test.YtcepajijiabkmaaGreatMq48
set_option linter.unusedSimpArgs false
set_option linter.unusedVariables false

namespace Go.Proofs.YtcepajijiabkmaaGreat
open Go.RowKit
theorem gcv {l:Int}:∀ (k:Int) (cs:List Pl),(∀ c ∈ cs,c.Can/\jh l c)->∀ c ∈ uag k cs,c.Can/\jh l c:=fun k cs h c hc=>by
 obtain ⟨d,hd,i,hi,rfl⟩:=vbd hc;exact ⟨Pl.mul_can _ _,(h d hd).2.mul (jh.const l _)⟩
theorem gc2 {l:Int} (hl:1<=l) (aj:l<=4) {p:Pl} (h:p.Can) (h0:0 < mdg l p):(uo l p).cfL l=uag 1 (p.cfL l).tail:=by
 unfold uo;rw [if_pos ⟨hl,aj⟩];have hn:p.cfL l ≠ []:=fun e=>by unfold mdg at h0; rw [e] at h0; simp at h0
 have dC:=kar (Pl.cfL_coefs hl aj h).last hn;have iC:∀ c ∈ uag 1 (p.cfL l).tail,c.Can/\jh l c:=gcv 1 _ fun c hc=>⟨jao h c (vas hc),kac hl aj h c (vas hc)⟩
 refine (Pl.cfL_coefs hl aj (jad l _)).uniq ⟨fun c hc=>(iC c hc).1,fun c hc=>(iC c hc).2,fun ρ=>(jac hl aj ρ _).symm,fun e=>?_⟩;obtain ⟨n,lM⟩:∃ n,(p.cfL l).length=n+2:=⟨(p.cfL l).length - 2,by unfold mdg at h0; omega⟩;have nP:(uag 1 (p.cfL l).tail).length=n+1:=by rw [gah,List.length_tail,lM]; rfl
 rw [List.getLast?_eq_getElem?,nP,Nat.add_sub_cancel,List.getElem?_eq_getElem (by omega)] at e;injection e with e
 rw [za2 1 _ n (by rw [List.length_tail]; omega) (by omega),List.getElem_tail] at e;rw [lM,List.getD_eq_getElem?_getD,show n+2 - 1=n+1 by omega,List.getElem?_eq_getElem (by omega)] at dC;rcases Pl.mul_zero (jao h _ (List.getElem_mem (by omega:n+1 < (p.cfL l).length))) (ut _) (fun ρ=>by rw [<- Pl.mul_val,e,Pl.zero_val]) with h1 | h1
 · exact dC h1
 · have h2:=Pl.const_val (fun _=>0) (1+(n:Int));rw [h1,Pl.zero_val] at h2;have h3:(1+(n:Int))=0:=by exact_mod_cast h2.symm
   omega
theorem uc2 {l:Int} (hl:1<=l) (aj:l<=4) {p:Pl} (h:p.Can) (h0:0 < mdg l p):mdg l (uo l p)=mdg l p - 1:=by
 have h1:=gc2 hl aj h h0;unfold mdg at h0 ⊢;rw [h1,gah,List.length_tail];omega
section
variable {l:Int} (hl:1<=l) (aj:l<=4) {fs:List Pl} {D:Nat} (hfs:∀ f ∈ fs,Fit f 2 D)
include hl aj hfs
end
open Go.Shelf Go.Sort
structure Tot {α : Type} (c : α -> α -> Int) : Prop where
 zero:∀ x y,c x y=0 ↔ x=y
 anti:∀ x y,c y x=- c x y
 trans:∀ x y z,c x y < 0->c y z < 0->c x z < 0
theorem Tot.refl {α:Type} {c:α->α->Int} (h:Tot c) (x:α):c x x=0:=(h.zero x x).2 rfl
theorem Tot.swo {α : Type} {c : α -> α -> Int} (h : Tot c) : SWO (ltOf c) where
 irrefl x:=by unfold ltOf; simp [h.refl]
 trans x y z h1 h2:=by
  unfold ltOf at *;simp only [decide_eq_true_eq] at *;exact h.trans x y z h1 h2
 ntrans x y z h1 h2:=by
  unfold ltOf at *;simp only [decide_eq_false_iff_not] at *;intro h3;have a1:=h.anti x y;have a2:=h.anti y z;have a3:=h.anti x z
  by_cases e1:c x y=0
  · rw [(h.zero x y).1 e1] at h3; exact h2 h3
  · by_cases e2:c y z=0
    · rw [<- (h.zero y z).1 e2] at h3; exact h1 h3
    · have:=h.trans z y x (by omega) (by omega);omega
theorem gbd : Tot xh where
 zero x y:=by unfold xh; split <;> (try split) <;> omega
 anti x y:=by unfold xh; split <;> (try split) <;> (try split) <;> omega
 trans x y z:=by unfold xh; split <;> (try split) <;> (try split) <;> (try split) <;> (try split) <;> (try split) <;> omega
theorem ubd {m n:Mo}:jae m n < 0 ↔ m.lt n:=by
 unfold jae
 split
 · simp_all
 · split <;> simp_all
theorem jaw : Tot jae where
 zero m n:=by
  constructor
  · intro h;unfold jae at h
    split at h
    · omega
    · split at h
      · omega
      · rename_i h1 h2;rcases Mo.tri m n with h | h | h
        · exact absurd h h1
        · exact h
        · exact absurd h h2
  · rintro rfl;unfold jae;rw [if_neg (Mo.lt_irrefl _),if_neg (Mo.lt_irrefl _)]
 anti m n:=by
  unfold jae
  by_cases h1:m.lt n
  · have h2:¬ n.lt m:=fun h2=>Mo.lt_irrefl _ (Mo.lt_trans h1 h2)
    simp [h1,h2]
  · by_cases h2:n.lt m
    · simp [h1,h2]
    · simp [h1,h2]
 trans m n k h1 h2:=ubd.2 (Mo.lt_trans (ubd.1 h1) (ubd.1 h2))
def gaa (x y:Int × Mo):Int:=if x.2=y.2 then xh x.1 y.1 else jae x.2 y.2
theorem yal : Tot gaa where
 zero x y:=by
  obtain ⟨a,m⟩:=x;obtain ⟨b,n⟩:=y;unfold gaa;simp only
  by_cases h:m=n
  · subst h; rw [if_pos rfl,gbd.zero]; simp
  · rw [if_neg h,jaw.zero]; simp [h]
 anti x y:=by
  unfold gaa
  by_cases h:x.2=y.2
  · rw [if_pos h,if_pos h.symm,gbd.anti]
  · rw [if_neg h,if_neg (fun e=>h e.symm),jaw.anti]
 trans x y z h1 h2:=by
  unfold gaa at *
  by_cases a:x.2=y.2
  · rw [if_pos a] at h1
    by_cases b:y.2=z.2
    · rw [if_pos b] at h2; rw [if_pos (a.trans b)]; exact gbd.trans _ _ _ h1 h2
    · rw [if_neg b] at h2; rw [if_neg (fun e=>b (a.symm.trans e)),a]; exact h2
  · rw [if_neg a] at h1
    by_cases b:y.2=z.2
    · rw [if_pos b] at h2; rw [if_neg (fun e=>a (e.trans b.symm)),<- b]; exact h1
    · rw [if_neg b] at h2;have h3:=jaw.trans _ _ _ h1 h2;rw [if_neg (fun e=>by rw [e,jaw.refl] at h3; omega)];exact h3
theorem xcw (x y:Int × Mo):-1<=gaa x y/\gaa x y<=1:=by
 unfold gaa
 split
 · exact yaj _ _
 · unfold jae; split <;> (try split) <;> omega
def qi : Sp -> Sp -> Int
 | [],[]=>0
 | [],_ :: _=>-1
 | _ :: _,[]=>1
 | x :: r,y :: s=>if gaa x y=0 then qi r s else gaa x y
theorem ka2 : ∀ l m : Sp, qi l m = 0 ↔ l = m
 | [],[]=>by simp [qi]
 | [],_ :: _=>by simp [qi]
 | _ :: _,[]=>by simp [qi]
 | x :: r,y :: s=>by
   unfold qi
   split
   · rename_i h; rw [ka2 r s,(yal.zero x y).1 h]; simp
   · rename_i h;have h2:x ≠ y:=fun e=>h ((yal.zero x y).2 e)
     simp [h,h2]
theorem jbh : ∀ l m : Sp, qi m l = - qi l m
 | [],[]=>by simp [qi]
 | [],_ :: _=>by simp [qi]
 | _ :: _,[]=>by simp [qi]
 | x :: r,y :: s=>by
   unfold qi;have h:=yal.anti x y
   by_cases e:gaa x y=0
   · rw [if_pos e,if_pos (by omega),jbh r s]
   · rw [if_neg e,if_neg (by omega),h]
theorem jba : ∀ l m k : Sp, qi l m < 0 -> qi m k < 0 -> qi l k < 0
 | [],[],k,h,_=>by simp [qi] at h
 | [],_ :: _,[],_,h=>by simp [qi] at h
 | [],_ :: _,_ :: _,_,_=>by simp [qi]
 | _ :: _,[],k,h,_=>by simp [qi] at h
 | _ :: _,_ :: _,[],_,h=>by simp [qi] at h
 | x :: r,y :: s,z :: t,h1,h2=>by
   unfold qi at *
   by_cases a:gaa x y=0
   · rw [if_pos a] at h1;have e:=(yal.zero x y).1 a;subst e
     by_cases b:gaa x z=0
     · rw [if_pos b] at h2 ⊢; exact jba r s t h1 h2
     · rw [if_neg b] at h2 ⊢; exact h2
   · rw [if_neg a] at h1
     by_cases b:gaa y z=0
     · have e:=(yal.zero y z).1 b;subst e;rw [if_neg a]; exact h1
     · rw [if_neg b] at h2;have h3:=yal.trans _ _ _ h1 h2;rw [if_neg (by omega)]; exact h3
theorem vz:Tot qi:=⟨ka2,jbh,jba⟩
theorem zce {l m:Sp} (k:Nat) (hl:k < l.length) (hm:k < m.length):qi (l.drop k) (m.drop k)=if gaa l[k] m[k]=0 then qi (l.drop (k+1)) (m.drop (k+1)) else gaa l[k] m[k]:=by
 rw [List.drop_eq_getElem_cons hl,List.drop_eq_getElem_cons hm,qi]
def AscS (l:List Sp):Prop:=l.Pairwise fun a b=>qi a b < 0
theorem ybe : ∀ {a b : List Sp}, AscS a -> AscS b -> (∀ x, x ∈ a ↔ x ∈ b) -> a = b
 | [],[],_,_,_=>rfl
 | [],y :: s,_,_,h=>absurd ((h y).2 (by simp)) (by simp)
 | x :: r,[],_,_,h=>absurd ((h x).1 (by simp)) (by simp)
 | x :: r,y :: s,ha,hb,h=>by
   unfold AscS at ha hb;rw [List.pairwise_cons] at ha hb;have Hl:x=y:=by
    rcases List.mem_cons.1 ((h x).1 (by simp)) with e | h1
    · exact e
    · rcases List.mem_cons.1 ((h y).2 (by simp)) with e | h2
      · exact e.symm
      · have a1:=hb.1 x h1;have a2:=ha.1 y h2;have:=vz.anti x y;omega
   subst Hl;rw [ybe (a:=r) (b:=s) ha.2 hb.2 fun z=>?_]
   constructor
   · intro hz;rcases List.mem_cons.1 ((h z).1 (by simp [hz])) with e | h1
     · subst e; have:=ha.1 z hz; rw [vz.refl] at this; omega
     · exact h1
   · intro hz;rcases List.mem_cons.1 ((h z).2 (by simp [hz])) with e | h1
     · subst e; have:=hb.1 z hz; rw [vz.refl] at this; omega
     · exact h1
def jam (x : Sp) : List Sp -> List Sp
 | []=>[x]
 | y :: r=>if qi x y < 0 then x :: y :: r else if qi x y=0 then y :: r else y :: jam x r
theorem xbd {x z : Sp} : ∀ {l : List Sp}, z ∈ jam x l ↔ z = x \/ z ∈ l
 | []=>by simp [jam]
 | y :: r=>by
   unfold jam
   split
   · simp
   · split
     · rename_i h;have:=(vz.zero x y).1 h;subst this; simp
     · simp only [List.mem_cons,xbd (l:=r)]
       constructor
       · rintro (h | h | h)
         · exact .inr (.inl h)
         · exact .inl h
         · exact .inr (.inr h)
       · rintro (h | h | h)
         · exact .inr (.inl h)
         · exact .inl h
         · exact .inr (.inr h)
theorem jbv {x : Sp} : ∀ {l : List Sp}, AscS l -> AscS (jam x l)
 | [],_=>by simp [jam,AscS]
 | y :: r,h=>by
   unfold AscS at h ⊢;rw [List.pairwise_cons] at h;unfold jam
   split
   · rename_i h1;rw [List.pairwise_cons,List.pairwise_cons];refine ⟨fun z hz=>?_,h⟩;rcases List.mem_cons.1 hz with rfl | hz
     · exact h1
     · exact vz.trans _ _ _ h1 (h.1 z hz)
   · split
     · rw [List.pairwise_cons]; exact h
     · rw [List.pairwise_cons];refine ⟨fun z hz=>?_,jbv h.2⟩;rcases xbd.1 hz with rfl | hz
       · have:=vz.anti y z; omega
       · exact h.1 z hz
def jaj (l:List Sp):List Sp:=l.foldr jam []
theorem ua1 : ∀ l : List Sp, AscS (jaj l)
 | []=>List.Pairwise.nil
 | x :: r=>jbv (ua1 r)
theorem wan {z : Sp} : ∀ {l : List Sp}, z ∈ jaj l ↔ z ∈ l
 | []=>by simp [jaj]
 | x :: r=>by
   have:jaj (x :: r)=jam x (jaj r):=rfl;rw [this,xbd,wan (l:=r)]; simp
theorem gcc {a b:List Sp} (h:∀ x,x ∈ a ↔ x ∈ b):jaj a=jaj b:=ybe (ua1 a) (ua1 b) fun x=>by rw [wan,wan,h]
def yao (ps:List Pl):List Pl:=(ps.map snP).filter fun p=>decide (0 < p.lv)
def xu (ps:List Pl):List Pl:=(jaj ((yao ps).map Pl.sp)).map Pl.ofS
theorem wbk (z : Int) : ∀ (l : Sp) (a : Nat), (zac z l).foldl (fun a x => Nat.gcd a x.1.natAbs) (z.natAbs * a) = z.natAbs * l.foldl (fun a x => Nat.gcd a x.1.natAbs) a
 | [],a=>rfl
 | x :: r,a=>by
   have e:zac z (x :: r)=(x.1 * z,x.2) :: zac z r:=rfl;rw [e,List.foldl_cons,List.foldl_cons];have e2:Nat.gcd (z.natAbs * a) (x.1 * z).natAbs=z.natAbs * Nat.gcd a x.1.natAbs:=by
    rw [Int.natAbs_mul,Nat.mul_comm x.1.natAbs,Nat.gcd_mul_left]
   rw [e2,wbk z r]
theorem wch {z:Int} (hz:z ≠ 0) {l:Sp} (hl:∀ x ∈ l,x.1 ≠ 0) (au:l ≠ []):sdv (zac z l)=z * sdv l:=by
 have hs:snc (zac z l)=z.natAbs * snc l:=by
  have:=wbk z l 0;rw [Nat.mul_zero] at this;exact this
 cases l with
 | nil=>exact absurd rfl au
 | cons x r =>
   have e:zac z (x :: r)=(x.1 * z,x.2) :: zac z r:=rfl;have h1:sdv (zac z (x :: r))=if x.1 * z < 0 then -(snc (zac z (x :: r)):Int) else (snc (zac z (x :: r)):Int):=by rw [e]; rfl
   have h2:sdv (x :: r)=if x.1 < 0 then -(snc (x :: r):Int) else (snc (x :: r):Int):=rfl
   rw [h1,h2,hs];have hx:=hl x List.mem_cons_self;generalize snc (x :: r)=n;obtain ⟨a,ha⟩:=n_m (x.1);rw [ha] at hx ⊢;have kZ:(z.natAbs:Int)=if z < 0 then -z else z:=by split <;> omega
   rw [Int.natCast_mul,kZ];rcases Int.lt_or_gt_of_ne hz with hz | hz <;> rcases Int.lt_or_gt_of_ne hx with hx | hx
   · have:=Int.mul_pos_of_neg_of_neg hx hz;rw [if_pos hz,if_neg (by omega),if_pos hx]; grind
   · have:=Int.mul_neg_of_pos_of_neg hx hz;rw [if_pos hz,if_pos (by omega),if_neg (by omega)]; grind
   · have:=Int.mul_neg_of_neg_of_pos hx hz;rw [if_neg (show ¬ z < 0 by omega),if_pos (show a * z < 0 by omega),if_pos hx]; grind
   · have:=Int.mul_pos hx hz;rw [if_neg (show ¬ z < 0 by omega),if_neg (show ¬ a * z < 0 by omega),if_neg (show ¬ a < 0 by omega)]
theorem vcg {z:Int} (hz:z ≠ 0) {l:Sp} (h:qp l):ssn (zac z l)=ssn l:=by
 by_cases au:l=[]
 · rw [au]; rfl
 unfold ssn;rw [wch hz (zas l h) au];have hd:=gbr (zas l h);have hm:∀ m:Sp,(∀ x ∈ m,sdv l ∣ x.1)->zx (z * sdv l) (zac z m)=zx (sdv l) m:=by
  intro m
  induction m with
  | nil=>intro _; rfl
  | cons x r ih =>
    intro hx;have e1:zx (z * sdv l) (zac z (x :: r))=((x.1 * z).tdiv (z * sdv l),x.2) :: zx (z * sdv l) (zac z r):=rfl;have e2:zx (sdv l) (x :: r)=(x.1.tdiv (sdv l),x.2) :: zx (sdv l) r:=rfl;rw [e1,e2,ih fun y hy=>hx y (List.mem_cons_of_mem _ hy)];obtain ⟨k,hk⟩:=hx x List.mem_cons_self;rw [hk,show sdv l * k * z=(z * sdv l) * k by grind,Int.mul_tdiv_cancel_left _ (Int.mul_ne_zero hz hd),Int.mul_tdiv_cancel_left _ hd]
 exact hm l ka6
theorem ybb {p q:Pl} {z:Int} (hz:z ≠ 0) (hq:q.Can) (h:∀ ρ,q.val ρ=p.val ρ * (z:Rat)):snP q=snP p:=by
 have hqp:q=p.mul (Pl.const z):=Pl.val_uniq hq (Pl.mul_can _ _) fun ρ=>by rw [h,Pl.mul_val,Pl.const_val]
 unfold snP;rw [hqp,<- Pl.sp_scale p hz,vcg hz p.sp_can]
theorem vbr {p:Pl} (h:p.Can):snP (snP p)=snP p:=(ybb (uch p) h fun ρ=>(war ρ p).symm).symm
theorem wcr {acc:List Pl} {p x:Pl}:x ∈ putL acc p ↔ x ∈ acc\/(p.lv ≠ 0/\x=snP p):=by
 unfold putL
 split
 · rename_i h; simp [h]
 · rename_i h
   split
   · rename_i ha;obtain ⟨y,hy,e⟩:=List.any_eq_true.1 ha;have e:=ya7.1 e
     constructor
     · exact .inl
     · rintro (h1 | ⟨-,rfl⟩)
       · exact h1
       · rw [e]; exact hy
   · rw [List.mem_append,List.mem_singleton]; simp [h]
theorem va4 {x : Pl} : ∀ {M acc : List Pl}, x ∈ putA acc M ↔ x ∈ acc \/ ∃ p ∈ M, p.lv ≠ 0 /\ x = snP p
 | [],acc=>by simp [putA]
 | p :: M,acc=>by
   have e:putA acc (p :: M)=putA (putL acc p) M:=rfl;rw [e,va4 (M:=M),wcr]
   constructor
   · rintro ((h | h) | ⟨y,hy,h⟩)
     · exact .inl h
     · exact .inr ⟨p,List.mem_cons_self,h⟩
     · exact .inr ⟨y,List.mem_cons_of_mem _ hy,h⟩
   · rintro (h | ⟨y,hy,h⟩)
     · exact .inl (.inl h)
     · rcases List.mem_cons.1 hy with rfl | hy
       · exact .inl (.inr h)
       · exact .inr ⟨y,hy,h⟩
theorem ubb {x:Pl} {l:Int} {fs:List Pl}:x ∈ df l fs ↔ ∃ p ∈ elems l fs,p.lv ≠ 0/\x=snP p:=by
 unfold df;rw [va4]; simp
theorem zao {x:Pl} {ps:List Pl}:x ∈ yao ps ↔ ∃ p ∈ ps,x=snP p/\0 < x.lv:=by
 unfold yao;rw [List.mem_filter,List.mem_map]
 constructor
 · rintro ⟨⟨p,hp,rfl⟩,h⟩;exact ⟨p,hp,rfl,of_decide_eq_true h⟩
 · rintro ⟨p,hp,rfl,h⟩;exact ⟨⟨p,hp,rfl⟩,decide_eq_true h⟩
theorem wcc {a b:List Pl} (h:∀ x,x ∈ yao a ↔ x ∈ yao b):xu a=xu b:=by
 unfold xu;rw [gcc (a:=(yao a).map Pl.sp) (b:=(yao b).map Pl.sp) fun s=>?_];simp only [List.mem_map]
 constructor <;> rintro ⟨x,hx,rfl⟩
 · exact ⟨x,(h x).1 hx,rfl⟩
 · exact ⟨x,(h x).2 hx,rfl⟩
theorem ga1 {a b:List Pl} (h1:∀ p ∈ a,0 < (snP p).lv->∃ q ∈ b,snP q=snP p) (h2:∀ p ∈ b,0 < (snP p).lv->∃ q ∈ a,snP q=snP p):xu a=xu b:=wcc fun x=>by
 rw [zao,zao]
 constructor
 · rintro ⟨p,hp,rfl,h⟩;obtain ⟨q,hq,e⟩:=h1 p hp h;exact ⟨q,hq,e.symm,h⟩
 · rintro ⟨p,hp,rfl,h⟩;obtain ⟨q,hq,e⟩:=h2 p hp h;exact ⟨q,hq,e.symm,h⟩
theorem kcv {l:Int} {fs ps:List Pl} (hc:∀ p ∈ elems l fs,p.Can):xu (df l fs ++ ps)=xu (elems l fs ++ ps):=by
 refine ga1 (fun x hx h=>?_) fun x hx h=>?_
 · rcases List.mem_append.1 hx with hx | hx
   · obtain ⟨p,hp,h0,rfl⟩:=ubb.1 hx;exact ⟨p,List.mem_append_left _ hp,(vbr (hc p hp)).symm⟩
   · exact ⟨x,List.mem_append_right _ hx,rfl⟩
 · rcases List.mem_append.1 hx with hx | hx
   · rw [kax (hc x hx)] at h;exact ⟨snP x,List.mem_append_left _ (ubb.2 ⟨x,hx,by omega,rfl⟩),vbr (hc x hx)⟩
   · exact ⟨x,List.mem_append_right _ hx,rfl⟩
theorem gbw {p:Pl} (h:p.Can):xu [p]=if p.lv=0 then [] else [snP p]:=by
 have h0:=h.lv_nonneg;unfold xu yao
 by_cases hl:p.lv=0
 · rw [if_pos hl];have:¬ 0 < (snP p).lv:=by rw [kax h]; omega
   simp [this,jaj]
 · rw [if_neg hl];have:0 < (snP p).lv:=by rw [kax h]; omega
   simp [this,jaj,jam,Pl.sp_ofS (kai p)]
theorem vcv {x:Pl} {ps:List Pl}:x ∈ xu ps ↔ x ∈ yao ps:=by
 unfold xu;rw [List.mem_map]
 constructor
 · rintro ⟨s,hs,rfl⟩;obtain ⟨y,hy,rfl⟩:=List.mem_map.1 (wan.1 hs);obtain ⟨p,hp,rfl,h⟩:=zao.1 hy;rw [Pl.sp_ofS (kai p)]; exact hy
 · intro hx;obtain ⟨p,hp,rfl,h⟩:=zao.1 hx;exact ⟨_,wan.2 (List.mem_map.2 ⟨_,hx,rfl⟩),Pl.sp_ofS (kai p)⟩
end Go.Proofs.YtcepajijiabkmaaGreat
