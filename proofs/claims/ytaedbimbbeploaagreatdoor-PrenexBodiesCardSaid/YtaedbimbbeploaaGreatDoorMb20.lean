/- Layer 20: sparse.negative, cmp.Compare, sparse.CompareMono. -/
import Derived.Test.YtaedbimbbeploaaGreatDoorMb12
import Derived.Sort.Grow
import Derived.Test.YtaedbimbbeploaaGreatDoorMb5
import Derived.Shelf.SlSortCmp.WholeK
import Derived.Test.YtaedbimbbeploaaGreatDoorMb13
set_option linter.unusedSimpArgs false
set_option linter.unusedVariables false
set_option maxRecDepth 100000
set_option maxHeartbeats 8000000
namespace Go.Proofs.YtaedbimbbeploaaGreatDoor
open Go.RowKit Go.Sort
theorem vck (a b c d:Int) (w:World):(Instr.index 188 (.agg #[.int .i64 a,.int .i64 b,.int .i64 c,.int .i64 d]) (.int .i64 0)).run Tryz.prog w=.ok (.int .i64 a) w/\(Instr.index 188 (.agg #[.int .i64 a,.int .i64 b,.int .i64 c,.int .i64 d]) (.int .i64 1)).run Tryz.prog w=.ok (.int .i64 b) w/\(Instr.index 188 (.agg #[.int .i64 a,.int .i64 b,.int .i64 c,.int .i64 d]) (.int .i64 2)).run Tryz.prog w=.ok (.int .i64 c) w/\(Instr.index 188 (.agg #[.int .i64 a,.int .i64 b,.int .i64 c,.int .i64 d]) (.int .i64 3)).run Tryz.prog w=.ok (.int .i64 d) w:=
 ⟨by kernel_rfl,by kernel_rfl,by kernel_rfl,by kernel_rfl⟩
theorem qat (m:Mo) (w:World):Calls Tryz.prog 172 #[moV m] w fun e w'=>e=.returned (.bool (decide (¬ m.nonneg)))/\Ext w w':=by
 have HX:Hid (∀ o,Ext w (w.alloc o)):=fun o=>(Ext.refl w).alloc o
 obtain ⟨W,hW⟩:∃ W,w.alloc (.cells #[.int .i64 m.a,.int .i64 m.b,.int .i64 m.c,.int .i64 m.d] 188)=W:=⟨_,rfl⟩;have HWX:Hid (Ext w W):=by
  have:Ext w W:=by rw [<- hW]; exact HX.out _
  exact this
 obtain ⟨d0,d1,d2,d3⟩:qx W w.heap.size m:=by rw [<- hW]; exact qx.new w m _
 obtain ⟨i0,i1,i2,i3⟩:=vck m.a m.b m.c m.d W;unfold moV
 by_cases h0:m.a < 0
 · have HR:Hid (decide (¬ m.nonneg)=true):=by
    have:decide (¬ m.nonneg)=true:=decide_eq_true (by unfold Mo.nonneg; omega);exact this
   have q0:decide (m.a < 0)=true:=decide_eq_true h0;go_enter Tryz.func172,Tryz.ntmps172;go_wp2_with fail;refine wp_loop_rounds 1 ?_;rw [rounds_succ];go_wp2_with fail;go_ret;exact ⟨by rw [HR.out]; rfl,HWX.out⟩
 · have q0:decide (m.a < 0)=false:=decide_eq_false h0
   by_cases h1:m.b < 0
   · have HR:Hid (decide (¬ m.nonneg)=true):=by
      have:decide (¬ m.nonneg)=true:=decide_eq_true (by unfold Mo.nonneg; omega);exact this
     have q1:decide (m.b < 0)=true:=decide_eq_true h1;go_enter Tryz.func172,Tryz.ntmps172;go_wp2_with fail;refine wp_loop_rounds 2 ?_;rw [rounds_succ];go_wp2_with fail;rw [rounds_succ];go_wp2_with fail;go_ret;exact ⟨by rw [HR.out]; rfl,HWX.out⟩
   · have q1:decide (m.b < 0)=false:=decide_eq_false h1
     by_cases h2:m.c < 0
     · have HR:Hid (decide (¬ m.nonneg)=true):=by
        have:decide (¬ m.nonneg)=true:=decide_eq_true (by unfold Mo.nonneg; omega);exact this
       have q2:decide (m.c < 0)=true:=decide_eq_true h2;go_enter Tryz.func172,Tryz.ntmps172;go_wp2_with fail;refine wp_loop_rounds 3 ?_;rw [rounds_succ];go_wp2_with fail;rw [rounds_succ];go_wp2_with fail;rw [rounds_succ];go_wp2_with fail;go_ret;exact ⟨by rw [HR.out]; rfl,HWX.out⟩
     · have q2:decide (m.c < 0)=false:=decide_eq_false h2
       by_cases h3:m.d < 0
       · have HR:Hid (decide (¬ m.nonneg)=true):=by
          have:decide (¬ m.nonneg)=true:=decide_eq_true (by unfold Mo.nonneg; omega);exact this
         have q3:decide (m.d < 0)=true:=decide_eq_true h3;go_enter Tryz.func172,Tryz.ntmps172;go_wp2_with fail;refine wp_loop_rounds 4 ?_;rw [rounds_succ];go_wp2_with fail;rw [rounds_succ];go_wp2_with fail;rw [rounds_succ];go_wp2_with fail;rw [rounds_succ];go_wp2_with fail;go_ret;exact ⟨by rw [HR.out]; rfl,HWX.out⟩
       · have HR:Hid (decide (¬ m.nonneg)=false):=by
          have:decide (¬ m.nonneg)=false:=decide_eq_false (by unfold Mo.nonneg; omega);exact this
         have q3:decide (m.d < 0)=false:=decide_eq_false h3;go_enter Tryz.func172,Tryz.ntmps172;go_wp2_with fail;refine wp_loop_rounds 5 ?_;rw [rounds_succ];go_wp2_with fail;rw [rounds_succ];go_wp2_with fail;rw [rounds_succ];go_wp2_with fail;rw [rounds_succ];go_wp2_with fail;rw [rounds_succ];go_wp2_with fail;go_ret;exact ⟨by rw [HR.out]; rfl,HWX.out⟩
theorem qam (a:Int) (w:World):Calls Tryz.prog 221 #[.int .i64 a] w fun e w'=>e=.returned (.bool false)/\w'=w:=by
 go_enter Tryz.func221,Tryz.ntmps221;go_wp2_with fail;go_ret;simp
theorem ku (a b:Int) (w:World):Calls Tryz.prog 199 #[.int .i64 a,.int .i64 b] w fun e w'=>e=.returned (.int .i64 (vg a b))/\w'=w:=by
 rcases Int.lt_trichotomy a b with h | h | h
 · have q1:decide (a < b)=true:=decide_eq_true h;have HR:=Lib.hid (xai h);go_enter Tryz.func199,Tryz.ntmps199;go_wp2_with fail;refine (qam _ _).mono ?_;rintro e w1 ⟨rfl,rfl⟩;go_wp2_with fail;refine (qam _ _).mono ?_;rintro e w1 ⟨rfl,rfl⟩;go_wp2_with fail;go_ret;exact ⟨by rw [HR.out]; rfl,rfl⟩
 · have q1:decide (a < b)=false:=decide_eq_false (by omega);have q2:decide (a > b)=false:=decide_eq_false (by omega);have HR:=Lib.hid (uaa h);go_enter Tryz.func199,Tryz.ntmps199;go_wp2_with fail;refine (qam _ _).mono ?_;rintro e w1 ⟨rfl,rfl⟩;go_wp2_with fail;refine (qam _ _).mono ?_;rintro e w1 ⟨rfl,rfl⟩;go_wp2_with fail;go_ret;exact ⟨by rw [HR.out]; rfl,rfl⟩
 · have q1:decide (a < b)=false:=decide_eq_false (by omega);have q2:decide (a > b)=true:=decide_eq_true (by omega);have HR:=Lib.hid (yas h);go_enter Tryz.func199,Tryz.ntmps199;go_wp2_with fail;refine (qam _ _).mono ?_;rintro e w1 ⟨rfl,rfl⟩;go_wp2_with fail;refine (qam _ _).mono ?_;rintro e w1 ⟨rfl,rfl⟩;go_wp2_with fail;go_ret;exact ⟨by rw [HR.out]; rfl,rfl⟩
def kay (m n:Mo):Int:=if m.lt n then -1 else if n.lt m then 1 else 0
theorem vcm (m n:Mo):kay m n=if m.d ≠ n.d then vg m.d n.d else if m.c ≠ n.c then vg m.c n.c else if m.b ≠ n.b then vg m.b n.b else vg m.a n.a:=by
 unfold kay vg Mo.lt
 repeat' split
 all_goals first | rfl | omega
theorem zax {a b:Int} (h:a ≠ b):(vg a b != 0)=true:=by
 unfold vg; split
 · rfl
 · split
   · rfl
   · omega
theorem qcc (a:Int):vg a a=0:=uaa rfl
theorem zbb (m n:Mo) (w:World):Calls Tryz.prog 175 #[moV m,moV n] w fun e w'=>e=.returned (.int .i64 (kay m n))/\∃ q os,w'=grow (w.drewN q) os:=by
 have HG:Hid (∀ o o' q,∃ q' os,(((w.alloc o).alloc o').drewN q)=grow (w.drewN q') os):=fun o o' q=>⟨q,#[o] ++ #[o'],by rw [alloc_eq_grow,alloc_eq_grow,grow_grow]; rfl⟩
 obtain ⟨W,hW⟩:∃ W,(w.alloc (.cells #[.int .i64 m.a,.int .i64 m.b,.int .i64 m.c,.int .i64 m.d] 188)).alloc (.cells #[.int .i64 n.a,.int .i64 n.b,.int .i64 n.c,.int .i64 n.d] 188)=W:=⟨_,rfl⟩;have HGW:Hid (∀ q,∃ q' os,W.drewN q=grow (w.drewN q') os):=fun q=>by rw [<- hW]; exact HG.out _ _ q
 have hm:qx W w.heap.size m:=by rw [<- hW]; exact (qx.new w m _).ext ((Ext.refl _).alloc _) (by simp)
 have hn:qx W (w.heap.size+1) n:=by
  have:=qx.new (w.alloc (.cells #[.int .i64 m.a,.int .i64 m.b,.int .i64 m.c,.int .i64 m.d] 188)) n 188;rw [hW] at this;simpa using this
 obtain ⟨d0,d1,d2,d3⟩:=hm;obtain ⟨e0,e1,e2,e3⟩:=hn;have HC:=Lib.hid (vcm m n);generalize kay m n=r at *;unfold moV
 by_cases h3:m.d=n.d
 · by_cases h2:m.c=n.c
   · by_cases h1:m.b=n.b
     · by_cases h0:m.a=n.a
       · have HR:Hid (r=0):=by
          have:r=0:=by rw [HC.out,if_neg (fun h=>h h3),if_neg (fun h=>h h2),if_neg (fun h=>h h1),h0,qcc]
          exact this
         have z3:vg m.d n.d=0:=uaa h3;have z2:vg m.c n.c=0:=uaa h2;have z1:vg m.b n.b=0:=uaa h1;have z0:vg m.a n.a=0:=uaa h0;clear h3 h2 h1 h0;go_enter Tryz.func175,Tryz.ntmps175;go_wp2_with fail;refine wp_loop_rounds 5 ?_;rw [rounds_succ];go_wp2_with fail
         go_region_held3 (fun W'=>W'=W.drew) (first | rfl | assumption) ((go_at_call 199; refine (ku _ _ _).mono ?_; rintro e v1 ⟨rfl,hv1⟩))
         all_goals
          subst hv1;go_wp2_with fail;rw [rounds_succ];go_wp2_with fail
          go_region_held3 (fun W'=>W'=W.drew.drew) (first | rfl | assumption) ((go_at_call 199; refine (ku _ _ _).mono ?_; rintro e v1 ⟨rfl,hv1⟩))
          all_goals
           subst hv1;go_wp2_with fail;rw [rounds_succ];go_wp2_with fail
           go_region_held3 (fun W'=>W'=W.drew.drew.drew) (first | rfl | assumption) ((go_at_call 199; refine (ku _ _ _).mono ?_; rintro e v1 ⟨rfl,hv1⟩))
           all_goals
            subst hv1;go_wp2_with fail;rw [rounds_succ];go_wp2_with fail
            go_region_held3 (fun W'=>W'=W.drew.drew.drew.drew) (first | rfl | assumption) ((go_at_call 199; refine (ku _ _ _).mono ?_; rintro e v1 ⟨rfl,hv1⟩))
            all_goals
             subst hv1;go_wp2_with fail;rw [rounds_succ];go_wp2_with fail;go_ret;exact ⟨by rw [HR.out]; rfl,HGW.out 4⟩
       · have HR:Hid (r=vg m.a n.a):=by
          have:r=vg m.a n.a:=by rw [HC.out,if_neg (fun h=>h h3),if_neg (fun h=>h h2),if_neg (fun h=>h h1)]
          exact this
         have q0:=zax h0;have z3:vg m.d n.d=0:=uaa h3;have z2:vg m.c n.c=0:=uaa h2;have z1:vg m.b n.b=0:=uaa h1;clear h3 h2 h1;go_enter Tryz.func175,Tryz.ntmps175;go_wp2_with fail;refine wp_loop_rounds 4 ?_;rw [rounds_succ];go_wp2_with fail
         go_region_held3 (fun W'=>W'=W.drew) (first | rfl | assumption) ((go_at_call 199; refine (ku _ _ _).mono ?_; rintro e v1 ⟨rfl,hv1⟩))
         all_goals
          subst hv1;go_wp2_with fail;rw [rounds_succ];go_wp2_with fail
          go_region_held3 (fun W'=>W'=W.drew.drew) (first | rfl | assumption) ((go_at_call 199; refine (ku _ _ _).mono ?_; rintro e v1 ⟨rfl,hv1⟩))
          all_goals
           subst hv1;go_wp2_with fail;rw [rounds_succ];go_wp2_with fail
           go_region_held3 (fun W'=>W'=W.drew.drew.drew) (first | rfl | assumption) ((go_at_call 199; refine (ku _ _ _).mono ?_; rintro e v1 ⟨rfl,hv1⟩))
           all_goals
            subst hv1;go_wp2_with fail;rw [rounds_succ];go_wp2_with fail
            go_region_held3 (fun W'=>W'=W.drew.drew.drew.drew) (first | rfl | assumption) ((go_at_call 199; refine (ku _ _ _).mono ?_; rintro e v1 ⟨rfl,hv1⟩))
            all_goals
             subst hv1;go_wp2_with fail;go_ret;exact ⟨by rw [HR.out]; rfl,HGW.out 4⟩
     · have HR:Hid (r=vg m.b n.b):=by
        have:r=vg m.b n.b:=by rw [HC.out,if_neg (fun h=>h h3),if_neg (fun h=>h h2),if_pos h1]
        exact this
       have q1:=zax h1;have z3:vg m.d n.d=0:=uaa h3;have z2:vg m.c n.c=0:=uaa h2;clear h3 h2;go_enter Tryz.func175,Tryz.ntmps175;go_wp2_with fail;refine wp_loop_rounds 3 ?_;rw [rounds_succ];go_wp2_with fail
       go_region_held3 (fun W'=>W'=W.drew) (first | rfl | assumption) ((go_at_call 199; refine (ku _ _ _).mono ?_; rintro e v1 ⟨rfl,hv1⟩))
       all_goals
        subst hv1;go_wp2_with fail;rw [rounds_succ];go_wp2_with fail
        go_region_held3 (fun W'=>W'=W.drew.drew) (first | rfl | assumption) ((go_at_call 199; refine (ku _ _ _).mono ?_; rintro e v1 ⟨rfl,hv1⟩))
        all_goals
         subst hv1;go_wp2_with fail;rw [rounds_succ];go_wp2_with fail
         go_region_held3 (fun W'=>W'=W.drew.drew.drew) (first | rfl | assumption) ((go_at_call 199; refine (ku _ _ _).mono ?_; rintro e v1 ⟨rfl,hv1⟩))
         all_goals
          subst hv1;go_wp2_with fail;go_ret;exact ⟨by rw [HR.out]; rfl,HGW.out 3⟩
   · have HR:Hid (r=vg m.c n.c):=by
      have:r=vg m.c n.c:=by rw [HC.out,if_neg (fun h=>h h3),if_pos h2]
      exact this
     have q2:=zax h2;have z3:vg m.d n.d=0:=uaa h3;clear h3;go_enter Tryz.func175,Tryz.ntmps175;go_wp2_with fail;refine wp_loop_rounds 2 ?_;rw [rounds_succ];go_wp2_with fail
     go_region_held3 (fun W'=>W'=W.drew) (first | rfl | assumption) ((go_at_call 199; refine (ku _ _ _).mono ?_; rintro e v1 ⟨rfl,hv1⟩))
     all_goals
      subst hv1;go_wp2_with fail;rw [rounds_succ];go_wp2_with fail
      go_region_held3 (fun W'=>W'=W.drew.drew) (first | rfl | assumption) ((go_at_call 199; refine (ku _ _ _).mono ?_; rintro e v1 ⟨rfl,hv1⟩))
      all_goals
       subst hv1;go_wp2_with fail;go_ret;exact ⟨by rw [HR.out]; rfl,HGW.out 2⟩
 · have HR:Hid (r=vg m.d n.d):=by
    have:r=vg m.d n.d:=by rw [HC.out,if_pos h3]
    exact this
   have q3:=zax h3;go_enter Tryz.func175,Tryz.ntmps175;go_wp2_with fail;refine wp_loop_rounds 1 ?_;rw [rounds_succ];go_wp2_with fail
   go_region_held3 (fun W'=>W'=W.drew) (first | rfl | assumption) ((go_at_call 199; refine (ku _ _ _).mono ?_; rintro e v1 ⟨rfl,hv1⟩))
   all_goals
    subst hv1;go_wp2_with fail;go_ret;exact ⟨by rw [HR.out]; rfl,HGW.out 1⟩
/- Layer 20: (*gather).add: the terms collected by their monomials. -/
set_option maxRecDepth 100000
set_option maxHeartbeats 8000000
def zae (c : Int) (m : Mo) : Sp -> Sp
 | []=>[(c,m)]
 | (d,n) :: r=>if m=n then (d+c,n) :: r else (d,n) :: zae c m r
theorem jcb (c:Int) (m:Mo) (l:Sp) (k:Mo):qc (zae c m l) k=qc l k+if m=k then c else 0:=by
 induction l with
 | nil=>simp [zae,qc]
 | cons x r ih =>
   obtain ⟨d,n⟩:=x;unfold zae
   by_cases h:m=n
   · rw [if_pos h]; subst h; simp only [qc]; split <;> omega
   · rw [if_neg h]; simp only [qc,ih]; omega
theorem wck (c:Int) (m:Mo) (l:Sp):qf (zae c m l)<=qf l+c.natAbs:=by
 induction l with
 | nil=>simp [zae,qf]
 | cons x r ih =>
   obtain ⟨d,n⟩:=x;unfold zae
   by_cases h:m=n
   · rw [if_pos h]; simp only [qf]; omega
   · rw [if_neg h]; simp only [qf]; omega
theorem zcl (c:Int) (m:Mo) (l:Sp):(zae c m l).length<=l.length+1:=by
 induction l with
 | nil=>simp [zae]
 | cons x r ih =>
   obtain ⟨d,n⟩:=x;unfold zae
   by_cases h:m=n
   · rw [if_pos h]; simp
   · rw [if_neg h]; simp; omega
theorem zbq {c:Int} {m:Mo} {l:Sp} {x:Int × Mo} (h:x ∈ zae c m l):x.2=m\/∃ y ∈ l,y.2=x.2:=by
 induction l with
 | nil=>left; rw [List.mem_singleton.1 h]
 | cons y r ih =>
   obtain ⟨d,n⟩:=y;unfold zae at h
   split at h
   · rcases List.mem_cons.1 h with rfl | h
     · exact .inr ⟨_,List.mem_cons_self,rfl⟩
     · exact .inr ⟨x,List.mem_cons_of_mem _ h,rfl⟩
   · rcases List.mem_cons.1 h with rfl | h
     · exact .inr ⟨_,List.mem_cons_self,rfl⟩
     · rcases ih h with h | ⟨y,hy,e⟩
       · exact .inl h
       · exact .inr ⟨y,List.mem_cons_of_mem _ hy,e⟩
def Apart (l:Sp):Prop:=l.Pairwise fun x y=>x.2 ≠ y.2
theorem jb3 (c:Int) (m:Mo) (l:Sp) (h:Apart l):Apart (zae c m l):=by
 induction l with
 | nil=>exact List.pairwise_singleton _ _
 | cons x r ih =>
   obtain ⟨d,n⟩:=x;unfold Apart at h ih ⊢;rw [List.pairwise_cons] at h;unfold zae
   by_cases hm:m=n
   · rw [if_pos hm,List.pairwise_cons]; exact h
   · rw [if_neg hm,List.pairwise_cons];refine ⟨fun y hy=>?_,ih h.2⟩;rcases zbq hy with e | ⟨z,hz,e⟩
     · rw [e]; exact fun e'=>hm e'.symm
     · rw [<- e]; exact h.1 z hz
def xaf (i : Nat) : Sp -> List (Mo × Value)
 | []=>[]
 | (_,m) :: r=>(m,.int .i64 i) :: xaf (i+1) r
theorem qb3 (c:Int) (m:Mo) (l:Sp):∀ i,(mog (xaf i l) m=none/\zae c m l=l ++ [(c,m)]/\∀ z,mop (xaf i l) m (.int .i64 (i+l.length:Nat))=xaf i (l ++ [(z,m)])) \/
 ∃ k,∃ hk:k < l.length,mog (xaf i l) m=some (.int .i64 (i+k:Nat))/\l[k].2=m/\zae c m l=l.set k (l[k].1+c,m)/\xaf i (l.set k (l[k].1+c,m))=xaf i l:=by
 induction l with
 | nil=>intro i; exact .inl ⟨rfl,rfl,fun z=>by simp [xaf,mop]⟩
 | cons x r ih =>
   intro i;obtain ⟨d,n⟩:=x
   by_cases hm:m=n
   · subst hm;exact .inr ⟨0,by simp,by simp [xaf,mog],rfl,by simp [zae],by simp [xaf]⟩
   · rcases ih (i+1) with ⟨h1,h2,h3⟩ | ⟨k,hk,h1,h2,h3,h4⟩
     · refine .inl ⟨by simp [xaf,mog,hm,h1],by simp [zae,hm,h2],fun z=>?_⟩;have:=h3 z;simp only [xaf,mop,List.cons_append,List.length_cons,if_neg hm];rw [<- this,show i+1+r.length=i+(r.length+1) by omega]
     · refine .inr ⟨k+1,by simpa using hk,?_,by simpa using h2,by simp [zae,hm,h3],by simp [xaf,h4]⟩;simp only [xaf,mog,if_neg hm,h1];rw [show i+1+k=i+(k+1) by omega]
def GaV (base:Nat) (w:World) (G M:Nat) (v:Value) (l:Sp):Prop:=
 w.cell? ⟨G,0,none⟩=some (.map (some M))/\w.cell? ⟨G,1,none⟩=some v/\(∀ i,w.frozen? ⟨G,i,none⟩=false)/\qaf w M (xaf 0 l)/\TsV none base w v l/\(base<=G/\base<=M/\G ≠ M/\G < w.heap.size)/\∀ R,v.ownBlock=some R->R ≠ G/\R ≠ M
theorem GaV.ext {base:Nat} {w w':World} {G M:Nat} {v:Value} {l:Sp} (h:GaV base w G M v l) (hx:Ext w w'):GaV base w' G M v l:=by
 obtain ⟨h1,h2,h3,h4,h5,h6,h7⟩:=h;exact ⟨(hx.cell (p:=⟨G,0,none⟩) h6.2.2.2).trans h1,(hx.cell (p:=⟨G,1,none⟩) h6.2.2.2).trans h2,fun i=>(hx.frozen (p:=⟨G,i,none⟩) h6.2.2.2).trans (h3 i),h4.ext hx,h5.ext hx,⟨h6.1,h6.2.1,h6.2.2.1,Nat.lt_of_lt_of_le h6.2.2.2 hx.size⟩,h7⟩
def yb5 (G M:Nat) (v v':Value) (w w':World):Prop:=(∀ b,b < w.heap.size->b ≠ G->b ≠ M->v.ownBlock ≠ some b->w'.heap[b]?=w.heap[b]?)/\(v'.ownBlock=v.ownBlock\/∃ R,v'.ownBlock=some R/\w.heap.size<=R)
def waq (base:Nat) (G M:Nat) (v:Value) (l:Sp) (w:World) (e:Ending) (w':World):Prop:=e=.returned (.tuple #[])/\∃ v',GaV base w' G M v' l/\Below base w w'/\(∀ v ds,jb w v ds->jb w' v ds)/\yb5 G M v v' w w'
theorem kcl {base G M:Nat} {l':Sp} {w w4:World} {v0 v v':Value} (hfar:yb5 G M v0 v' w w4) (hbl:Below base w w4) (hn:∀ x ds,jb w x ds->jb w4 x ds) (h0:w4.cell? ⟨G,0,none⟩=some (.map (some M))) (h1:w4.cell? ⟨G,1,none⟩=some v) (hd:yaa v=false) (hf:∀ i,w4.frozen? ⟨G,i,none⟩=false) (hm:qaf w4 M (xaf 0 l')) (ht:TsV none base w4 v' l') (hb:base<=G/\base<=M/\G ≠ M/\G < w4.heap.size) (ho:∀ R,v'.ownBlock=some R->R ≠ G/\R ≠ M):waq base G M v0 l' w (.returned (.tuple #[])) (w4.setCell ⟨G,1,none⟩ v'):=by
 have hnn:∀ x ds,jb w4 x ds->jb (w4.setCell ⟨G,1,none⟩ v') x ds:=fun x ds hx=>hx.box h1 hd _
 refine ⟨rfl,v',⟨?_,World.cell?_setCell_same _ _ _ h1,fun i=>?_,hm.block (Below.heap_setCell _ _ _ M (Ne.symm hb.2.2.1)),ht.turn (fun R hR=>Below.heap_setCell _ _ _ R (ho R hR).1) hnn,⟨hb.1,hb.2.1,hb.2.2.1,by simpa [World.setCell] using hb.2.2.2⟩,ho⟩,Below.setCell hbl hb.1 _,fun x ds hx=>hnn x ds (hn x ds hx),fun b h1 h2 h3 h4=>(Below.heap_setCell _ _ _ b h2).trans (hfar.1 b h1 h2 h3 h4),hfar.2⟩
 · rw [World.cell?_setCell_other _ _ _ _ (by simp)]; exact h0
 · rw [World.frozen?_setCell]; exact hf i
theorem jbo {w w':World} {M:Nat} {l:List (Mo × Value)} {v:Value} {ds:List Nat} (hv:jb w v ds) (hm:qaf w M l) (ho:Only M w w'):jb w' v ds:=by
 obtain ⟨A,c,e,h1,h2,h3,h4⟩:=hv;refine ⟨A,c,e,h1,h2,h3,fun hd=>?_⟩;obtain ⟨ad,e4,hlt,hc⟩:=h4 hd;refine ⟨ad,e4,Nat.lt_of_lt_of_le hlt ho.size,fun j hj=>?_⟩;have hne:ad.block ≠ M:=fun e=>by
  obtain ⟨es,clock,hb,-⟩:=hm;have h0:=hc 0 hd;rw [World.cell?,ja,e,hb] at h0;cases h0
 exact (ho.cell (p:=ad.add j) (by rw [ja]; exact hlt) (by rw [ja]; exact hne)).trans (hc j hj)
theorem qcl {base G M:Nat} {v:Value} {l:Sp} {w:World} (h:GaV base w G M v l) (m:Mo) (x:Value) (k:Option Nat) (z:Int) (hc:Cf w k x z) (hm:¬ m.nonneg) (hb:base<=w.heap.size):Calls Tryz.prog 126 #[.pointer (some ⟨G,0,none⟩),moV m,x] w (waq base G M v l w):=by
 obtain ⟨b,B,n,c,rfl⟩:=hc.unpack;have HQ:Hid (decide (¬ m.nonneg)=true):=by
  have:decide (¬ m.nonneg)=true:=decide_eq_true hm;exact this
 have H:=Lib.hid h;obtain ⟨W,hW⟩:∃ W,(w.alloc (.cells #[.int .i64 m.a,.int .i64 m.b,.int .i64 m.c,.int .i64 m.d] 188)).alloc (.cells #[.bool b,.slice B n c] 25)=W:=⟨_,rfl⟩;have hWx:Ext w W:=by rw [<- hW]; exact ((Ext.refl w).alloc _).alloc _
 obtain ⟨d0,d1,d2,d3⟩:qx W w.heap.size m:=by rw [<- hW]; exact (qx.new w m _).ext ((Ext.refl _).alloc _) (by simp)
 have HWX:=Lib.hid hWx;clear h hc hWx;unfold moV;go_enter Tryz.func126,Tryz.ntmps126;go_wp2_with fail;refine (qat m W).mono ?_;rintro e w1 ⟨rfl,x1⟩;rw [HQ.out];have X1:=Lib.hid (HWX.out.trans x1);clear x1;go_wp2_with fail;exact bodyPost_ret (results_none rfl _ _ _) rfl ⟨rfl,v,H.out.ext X1.out,Below.mono X1.out (by omega),fun v ds hv=>hv.ext X1.out,fun b hb _ _ _=>X1.out.below.block b hb,.inl rfl⟩
theorem xcl {base G M:Nat} {v:Value} {l:Sp} {w:World} (h:GaV base w G M v l) (m:Mo) (x:Value) (L:Nat) (z:Int) (hc:xq w x z L) (hL:L<=35184372088832) (hm:m.nonneg) (hb:base<=w.heap.size) (hlen:l.length < 1099511627776) (hn:mog (xaf 0 l) m=none) (hp:∀ z,mop (xaf 0 l) m (.int .i64 (0+l.length:Nat))=xaf 0 (l ++ [(z,m)])):Calls Tryz.prog 126 #[.pointer (some ⟨G,0,none⟩),moV m,x] w (waq base G M v (l ++ [(z,m)]) w):=by
 have HC:=Lib.hid hc;obtain ⟨b,B,n,c,rfl⟩:=hc.unpack;have HQ:Hid (decide (¬ m.nonneg)=false):=by
  have:decide (¬ m.nonneg)=false:=decide_eq_false (fun h=>h hm);exact this
 have H:=Lib.hid h;obtain ⟨W,hW⟩:∃ W,(w.alloc (.cells #[.int .i64 m.a,.int .i64 m.b,.int .i64 m.c,.int .i64 m.d] 188)).alloc (.cells #[.bool b,.slice B n c] 25)=W:=⟨_,rfl⟩;have hWx:Ext w W:=by rw [<- hW]; exact ((Ext.refl w).alloc _).alloc _
 have hWs:W.heap.size=w.heap.size+1+1:=by rw [<- hW]; simp
 have hmx:qx W w.heap.size m:=by rw [<- hW]; exact (qx.new w m _).ext ((Ext.refl _).alloc _) (by simp)
 have hc0:W.cell? ⟨w.heap.size+1,0,none⟩=some (.bool b):=by rw [<- hW]; simp [go_sem]
 have hc1:W.cell? ⟨w.heap.size+1,1,none⟩=some (.slice B n c):=by rw [<- hW]; simp [go_sem]
 obtain ⟨d0,d1,d2,d3⟩:=id hmx;have HMX:=Lib.hid hmx;have HC0:=Lib.hid hc0;have HC1:=Lib.hid hc1;have HWX:=Lib.hid hWx;have HN:=Lib.hid hn;have HP:=Lib.hid hp;clear h hc hWx hmx hn hp hc0 hc1;unfold moV;go_enter Tryz.func126,Tryz.ntmps126;go_wp2_with fail;refine (qat m W).mono ?_;rintro e w1 ⟨rfl,x1⟩;rw [HQ.out];have h1:=H.out.ext (HWX.out.trans x1);have hw1:=x1.size;obtain ⟨d0,d1,d2,d3⟩:=HMX.out.ext x1 (by omega);have c0:=(x1.cell (p:=⟨w.heap.size+1,0,none⟩) (by show w.heap.size+1 < _; omega)).trans HC0.out;have c1:=(x1.cell (p:=⟨w.heap.size+1,1,none⟩) (by show w.heap.size+1 < _; omega)).trans HC1.out;have X1:=Lib.hid (HWX.out.trans x1);obtain ⟨g0,g1,gf,gm,gt,⟨gb1,gb2,gne,glt⟩,gown⟩:=h1;have hlook:=qaf.look (w:=w1.drew) gm m true;rw [HN.out] at hlook;simp only [Option.getD_none,Option.isSome_none,if_true,moV] at hlook;obtain ⟨At,ct,rfl,-,-⟩:=gt.len;have GM:=Lib.hid gm;have GT:=Lib.hid gt;have GOWN:=Lib.hid gown;clear gm gt gown x1 hW;go_upto_region 2 with fail
 go_region
 all_goals
  clear hlook;have hMlt:=H.out.2.2.2.1.lt;have hGlt:=H.out.2.2.2.2.2.1.2.2.2;obtain ⟨W5,hput,gm5,ho5⟩:=qaf.put (w:=w1.drew.drew) GM.out m (.int .i64 (0+l.length:Nat));rw [HP.out z] at gm5;simp only [moV,Nat.zero_add] at hput;have hs5:w1.heap.size<=W5.heap.size:=ho5.size;have hb5:∀ b,b < w1.heap.size->b ≠ M->W5.heap[b]?=w1.heap[b]?:=fun b hb hne=>ho5.block hb hne
  have k5:∀ b i,b < w1.heap.size->b ≠ M->W5.cell? ⟨b,i,none⟩=w1.cell? ⟨b,i,none⟩:=fun b i hb hne=>World.cell?_of_block (a:=⟨b,i,none⟩) (hb5 b hb hne)
  have G0:=(k5 G 0 glt gne).trans g0;have G1:=(k5 G 1 glt gne).trans g1;have D0:=(k5 w.heap.size 0 (by omega) (by omega)).trans d0;have D1:=(k5 w.heap.size 1 (by omega) (by omega)).trans d1;have D2:=(k5 w.heap.size 2 (by omega) (by omega)).trans d2;have D3:=(k5 w.heap.size 3 (by omega) (by omega)).trans d3;have C0:=(k5 (w.heap.size+1) 0 (by omega) (by omega)).trans c0;have C1:=(k5 (w.heap.size+1) 1 (by omega) (by omega)).trans c1;have HK5:=Lib.hid k5;have HB5:=Lib.hid hb5;have HO5:=Lib.hid ho5;have GM5:=Lib.hid gm5;clear k5 hb5 ho5 gm5;go_upto_region 5 with fail
  go_region
  all_goals
   clear hput d0 d1 d2 d3 c0 c1 g0 g1;have ho5':Only M w1 W5:=by
    obtain ⟨q1,q2,q3,q4,q5⟩:=HO5.out.g;exact ⟨q1,q2,q3,q4,q5⟩
   have x05:Below base w W5:=Below.grown (Below.mono X1.out hb) ho5' (by have:=X1.out.size; omega) (fun k e=>by injection e with e; omega);have n05:∀ v ds,jb w v ds->jb W5 v ds:=fun v ds hv=>jbo (hv.ext X1.out) GM.out ho5'
   have gt5:TsV none base W5 (.slice At l.length ct) l:=GT.out.turn (fun R hR=>HB5.out R (GT.out.own hR).2 (GOWN.out R hR).2) (fun v ds hv=>jbo hv GM.out ho5');have GT5:=Lib.hid gt5;have N05:=Lib.hid n05;have X05:=Lib.hid x05;clear gt5 n05 x05 ho5';go_upto_region 6 with fail;have HSTEP:Hid (∀ (w3:World) (A3:Option Addr) (c3:Nat),jb w3 (.slice A3 (dg z.natAbs).length c3) (dg z.natAbs)->Ext W5.drew w3->∃ w4 A4 c4,(Builtin.append_ #[66,66] 66 #[.slice At l.length ct,.slice (some ⟨w3.heap.size,0,none⟩) 1 1]).run Tryz.prog (w3.alloc (.cells #[.bool (decide (z < 0)),.slice A3 (dg z.natAbs).length c3,.int .i64 m.a,.int .i64 m.b,.int .i64 m.c,.int .i64 m.d] 190))=.ok (.slice A4 (l.length+1) c4) w4/\(w3.cell? ⟨w.heap.size,0,none⟩=some (.int .i64 m.a)/\w3.cell? ⟨w.heap.size,1,none⟩=some (.int .i64 m.b)/\w3.cell? ⟨w.heap.size,2,none⟩=some (.int .i64 m.c)/\w3.cell? ⟨w.heap.size,3,none⟩=some (.int .i64 m.d))/\(w3.cell? ⟨G,0,none⟩=some (.map (some M))/\w3.cell? ⟨G,1,none⟩=some (.slice At l.length ct))/\(G < w3.heap.size/\w.heap.size < w3.heap.size/\w.heap.size+1 < w3.heap.size)/\w4.cell? ⟨G,1,none⟩=some (.slice At l.length ct)/\(∀ i,w4.frozen? ⟨G,i,none⟩=false)/\waq base G M (.slice At l.length ct) (l ++ [(z,m)]) w (.returned (.tuple #[])) (w4.setCell ⟨G,1,none⟩ (.slice A4 (l.length+1) c4))):=by
    intro w3 A3 c3 n3 x3;have y3:Ext W5 w3:=Ext.trans ((Ext.refl W5).drew) x3;obtain ⟨v4,w4,hrun,t4,gg4,nn4,oo4⟩:=(GT5.out.ext y3).push (by have:=y3.size; omega) (k:=none) (z:=z) (b:=decide (z < 0)) (s:=.slice A3 (dg z.natAbs).length c3) ⟨_,rfl,n3⟩ m hlen 66;obtain ⟨A4,c4,e4,-,-⟩:=t4.len;rw [show (l ++ [(z,m)]).length=l.length+1 by simp] at e4;subst e4;have e3:∀ b i,b < w1.heap.size->w3.cell? ⟨b,i,none⟩=W5.cell? ⟨b,i,none⟩:=fun b i hb=>y3.cell (p:=⟨b,i,none⟩) (by show b < _; omega)
    have E0:=(e3 w.heap.size 0 (by omega)).trans D0;have E1:=(e3 w.heap.size 1 (by omega)).trans D1;have E2:=(e3 w.heap.size 2 (by omega)).trans D2;have E3:=(e3 w.heap.size 3 (by omega)).trans D3;have F0:=(e3 G 0 glt).trans G0;have F1:=(e3 G 1 glt).trans G1;have y3s:=y3.size;have hG3:G < w3.heap.size:=by omega
    have hB3:w.heap.size < w3.heap.size:=by omega
    have hC3:w.heap.size+1 < w3.heap.size:=by omega
    have gblk:∀ b,b < w1.heap.size->(Value.slice At l.length ct).ownBlock ≠ some b->w4.heap[b]?=w3.heap[b]?:=fun b hb hne=>World.grownBy.block gg4 b (by omega) (fun e=>hne e.symm)
    have gG:=gblk G glt (fun e=>(GOWN.out G e).1 rfl);have H1:w4.cell? ⟨G,1,none⟩=some (.slice At l.length ct):=(World.cell?_of_block (a:=⟨G,1,none⟩) gG).trans F1;have HF:∀ i,w4.frozen? ⟨G,i,none⟩=false:=fun i=>(World.frozen?_of_block (a:=⟨G,i,none⟩) gG).trans ((y3.frozen (p:=⟨G,i,none⟩) (by show G < _; omega)).trans ((World.frozen?_of_block (a:=⟨G,i,none⟩) (HB5.out G glt gne)).trans (gf i)))
    have hown4:∀ R,(Value.slice A4 (l.length+1) c4).ownBlock=some R->R ≠ G/\R ≠ M:=fun R hR=>by
     rcases oo4 with o | o
     · exact GOWN.out R (o.symm.trans hR)
     · rw [o] at hR; injection hR with hR; omega
    have HFIN:Hid (waq base G M (.slice At l.length ct) (l ++ [(z,m)]) w (.returned (.tuple #[])) (w4.setCell ⟨G,1,none⟩ (.slice A4 (l.length+1) c4))):=by
     have gg4s:=gg4.size;have hX1:=X1.out;have hX1s:=hX1.size;have hfar:yb5 G M (.slice At l.length ct) (.slice A4 (l.length+1) c4) w w4:=⟨fun b h1 h2 h3 h4=>(gblk b (by omega) h4).trans ((y3.below.block b (by omega)).trans ((HB5.out b (by omega) h3).trans (hX1.below.block b h1))),oo4.imp id (fun h=>⟨_,h,by omega⟩)⟩;exact kcl (v:=.slice At l.length ct) hfar (Below.grown (Below.trans X05.out (Below.mono y3 (by omega))) gg4 (by omega) (fun b hb=>(GT5.out.own hb).1)) (fun x ds hx=>nn4 x ds ((N05.out x ds hx).ext y3)) ((World.cell?_of_block (a:=⟨G,0,none⟩) gG).trans F0) H1 rfl HF (GM5.out.block ((gblk M (by omega) (fun e=>(GOWN.out M e).2 rfl)).trans (y3.below.block M (by omega)))) t4 ⟨gb1,gb2,gne,by omega⟩ hown4
    exact ⟨w4,A4,c4,hrun,⟨E0,E1,E2,E3⟩,⟨F0,F1⟩,⟨hG3,hB3,hC3⟩,H1,HF,HFIN.out⟩
   have HARG:=Lib.hid (Cf.turn (k:=some L) (w:=w) HC.out (fun v ds hv=>(N05.out v ds hv).ext ((Ext.refl W5).drew)));clear GT5 N05 X05 GM5 HB5 HO5 HK5 GOWN HC GM GT H HP HN HWX X1 HMX HC0 HC1
   go_region_law (first
    | (go_simp
       go_at_call 57
       refine (zak _ z L _ HARG.out hL).mono ?_;rintro e w3 ⟨v3,rfl,⟨s3,rfl,n3⟩,x3⟩;obtain ⟨A3,c3,rfl,-⟩:=id n3;obtain ⟨w4,A4,c4,hrun,⟨E0,E1,E2,E3⟩,⟨F0,F1⟩,⟨hG3,hB3,hC3⟩,H1,HF,hfin⟩:=HSTEP.out _ _ _ n3 x3;have HFIN:=Lib.hid hfin
       clear n3 x3 hfin)
    | (refine yab rfl (.tmp 51) (.tmp 56) _ _ rfl _ _ _ _ (by simp [Act.eval,Act.put]) (by simp [Act.eval,Act.put]) hrun ?_))
   all_goals
    clear hrun E0 E1 E2 E3 F0 F1 H1 HF
    go_end0
    exact HFIN.out
/- Layer 20: a coefficient of a row of terms is overwritten. -/
theorem zh.set_ {T k base:Nat} {W:World} {g c n:Nat} {xs:List Value} (h:zh T k base W (.slice (some ⟨g,0,none⟩) n c) n xs) (j:Nat) (hj:j < n * k) (u:Value) (hu:yaa u=false) :
 zh T k base (W.setCell ⟨g,j,none⟩ u) (.slice (some ⟨g,0,none⟩) n c) n (xs.set j u):=by
 obtain ⟨⟨h1,h2⟩,h3⟩:=h;rcases h2 with ⟨h2,-⟩ | ⟨g',cap,cur,e,hb,hg,hc,hm,hs,ht⟩
 · cases h2
 injection e with e1 e2 e3
 injection e1 with e1
 injection e1 with e1
 subst e1 e3;have hheap:(W.setCell ⟨g,j,none⟩ u).heap[g]?=some (.cells (cur.setIfInBounds j u) T (0,0)):=by
  simp [World.setCell,Array.getElem?_modify,hg]
 refine ⟨⟨by rw [List.length_set]; exact h1,.inr ⟨g,c,cur.setIfInBounds j u,rfl,hb,hheap,hc,hm,by simpa using hs,?_⟩⟩,?_⟩
 · rw [Array.toList_setIfInBounds,List.take_set,ht]
 · intro R cur' T' fr e hb' u' hu';have hR:g=R:=by simpa [Value.ownBlock] using e
   rw [<- hR,hheap] at hb';injection hb' with hb'
   injection hb' with hb'
   rw [<- hb',Array.toList_setIfInBounds] at hu';rcases List.mem_or_eq_of_mem_set hu' with hu' | rfl
   · exact h3 g cur T (0,0) rfl hg u' hu'
   · exact hu
theorem vcb (rs:List (Bool × Value × Int × Mo)):∀ (k:Nat) (hk:k < rs.length) (b:Bool) (s:Value) (z:Int),van (rs.set k (b,s,z,rs[k].2.2.2))=((van rs).set (k * 6) (.bool b)).set (k * 6+1) s:=by
 induction rs with
 | nil=>intro k hk; simp at hk
 | cons r rs ih =>
   intro k hk b s z;have hl:(tmC r.1 r.2.1 r.2.2.2).length=6:=rfl;cases k with
   | zero=>simp [van,tmC]
   | succ k =>
     have:=ih k (by simpa using hk) b s z;simp only [List.set_cons_succ,List.getElem_cons_succ,van,List.flatMap_cons] at this ⊢;rw [this,List.set_append_right _ _ (by rw [hl]; omega),List.set_append_right _ _ (by rw [hl]; omega),hl]
     congr 3 <;> omega
theorem TsV.set_ {base:Nat} {W:World} {g c:Nat} {l:Sp} (h:TsV none base W (.slice (some ⟨g,0,none⟩) l.length c) l) (k:Nat) (hk:k < l.length) {b:Bool} {A:Option Addr} {n d:Nat} {z:Int} (hc:Cf W none (.agg #[.bool b,.slice A n d]) z) :
 TsV none base ((W.setCell ⟨g,k * 6,none⟩ (.bool b)).setCell ⟨g,k * 6+1,none⟩ (.slice A n d)) (.slice (some ⟨g,0,none⟩) l.length c) (l.set k (z,l[k].2))/\(∀ v ds,jb W v ds->jb ((W.setCell ⟨g,k * 6,none⟩ (.bool b)).setCell ⟨g,k * 6+1,none⟩ (.slice A n d)) v ds):=by
 obtain ⟨rs,rfl,h2,h3⟩:=h;rw [List.length_map] at hk;simp only [List.length_map] at h2 ⊢;have q0:=h2.cell (k * 6) (by omega);have q1:=h2.cell (k * 6+1) (by omega);have f0:=wau rs k hk 0 (by omega);have f1:=wau rs k hk 1 (by omega);rw [Nat.add_zero] at f0;rw [f0] at q0;rw [f1] at q1;obtain ⟨b',B',n',c',e'⟩:=(h3 rs[k] (List.getElem_mem hk)).unpack;simp only [Value.agg.injEq,Array.mk.injEq,List.cons.injEq,and_true] at e';have q1':W.cell? ⟨g,k * 6+1,none⟩=some (.slice B' n' c'):=by rw [q1,<- e'.2]; rfl
 have hnat:∀ v ds,jb W v ds->jb ((W.setCell ⟨g,k * 6,none⟩ (.bool b)).setCell ⟨g,k * 6+1,none⟩ (.slice A n d)) v ds:=fun v ds hv =>
  (hv.box q0 rfl _).box (u:=.slice B' n' c') (by rw [World.cell?_setCell_other _ _ _ _ (by simp)]; exact q1') rfl _
 refine ⟨⟨rs.set k (b,.slice A n d,z,rs[k].2.2.2),?_,?_,fun r hr=>?_⟩,hnat⟩
 · rw [List.map_set]; simp
 · rw [List.length_set,vcb rs k hk];exact (h2.set_ (k * 6) (by omega) _ rfl).set_ (k * 6+1) (by omega) _ rfl
 · rcases List.mem_or_eq_of_mem_set hr with hr | rfl
   · exact (h3 r hr).turn hnat
   · exact hc.turn hnat
/- Layer 20: (*gather).add of a monomial that is there; the whole. -/
set_option maxRecDepth 100000
set_option maxHeartbeats 8000000
theorem ycl {base G M:Nat} {v:Value} {l:Sp} {w:World} (h:GaV base w G M v l) (m:Mo) (x:Value) (L:Nat) (z:Int) (hc:xq w x z L) (hm:m.nonneg) (hb:base<=w.heap.size) (k:Nat) (hk:k < l.length) (hL:L+(dg l[k].1.natAbs).length<=35184372088000) (hlen:l.length < 1099511627776) (hn:mog (xaf 0 l) m=some (.int .i64 (0+k:Nat))) (hlk:l[k].2=m) (hge:xaf 0 (l.set k (l[k].1+z,m))=xaf 0 l):Calls Tryz.prog 126 #[.pointer (some ⟨G,0,none⟩),moV m,x] w (waq base G M v (l.set k (l[k].1+z,m)) w):=by
 have HC:=Lib.hid hc;obtain ⟨b,B,n,c,rfl⟩:=hc.unpack;have HQ:Hid (decide (¬ m.nonneg)=false):=by
  have:decide (¬ m.nonneg)=false:=decide_eq_false (fun h=>h hm);exact this
 have H:=Lib.hid h;obtain ⟨W,hW⟩:∃ W,(w.alloc (.cells #[.int .i64 m.a,.int .i64 m.b,.int .i64 m.c,.int .i64 m.d] 188)).alloc (.cells #[.bool b,.slice B n c] 25)=W:=⟨_,rfl⟩;have hWx:Ext w W:=by rw [<- hW]; exact ((Ext.refl w).alloc _).alloc _
 have hWs:W.heap.size=w.heap.size+1+1:=by rw [<- hW]; simp
 have hmx:qx W w.heap.size m:=by rw [<- hW]; exact (qx.new w m _).ext ((Ext.refl _).alloc _) (by simp)
 have hc0:W.cell? ⟨w.heap.size+1,0,none⟩=some (.bool b):=by rw [<- hW]; simp [go_sem]
 have hc1:W.cell? ⟨w.heap.size+1,1,none⟩=some (.slice B n c):=by rw [<- hW]; simp [go_sem]
 obtain ⟨d0,d1,d2,d3⟩:=id hmx;have HMX:=Lib.hid hmx;have HC0:=Lib.hid hc0;have HC1:=Lib.hid hc1;have HWX:=Lib.hid hWx;have HN:=Lib.hid hn;have HLK:=Lib.hid hlk;have HGE:=Lib.hid hge;clear h hc hWx hmx hn hc0 hc1 hlk hge;unfold moV;go_enter Tryz.func126,Tryz.ntmps126;go_wp2_with fail;refine (qat m W).mono ?_;rintro e w1 ⟨rfl,x1⟩;rw [HQ.out];have h1:=H.out.ext (HWX.out.trans x1);have hw1:=x1.size;obtain ⟨d0,d1,d2,d3⟩:=HMX.out.ext x1 (by omega);have c0:=(x1.cell (p:=⟨w.heap.size+1,0,none⟩) (by show w.heap.size+1 < _; omega)).trans HC0.out;have c1:=(x1.cell (p:=⟨w.heap.size+1,1,none⟩) (by show w.heap.size+1 < _; omega)).trans HC1.out;have X1:=Lib.hid (HWX.out.trans x1);obtain ⟨g0,g1,gf,gm,gt,⟨gb1,gb2,gne,glt⟩,gown⟩:=h1;have hlook:=qaf.look (w:=w1.drew) gm m true;rw [HN.out] at hlook;simp only [Option.getD_some,Option.isSome_some,if_true,moV,Nat.zero_add] at hlook;obtain ⟨At,ct,rfl,-,-⟩:=gt.len;have hsp:=gt.sp;obtain ⟨A',c',e',-,-,hat⟩:=hsp;injection e' with e1 e2 e3
 subst e1 e3;obtain ⟨ad,b1,B1,n1,c2,rfl,hadb,htm,hcf⟩:=hat k hk;obtain ⟨rs,hrs,hgr,hrc⟩:=id gt;have hrl:rs.length=l.length:=by rw [<- hrs,List.length_map]
 rw [hrl] at hgr;obtain ⟨R,cR,eR,-,-,hbR,hltR,hfrR⟩:=hgr.pos (by omega);injection eR with eR1 eR2 eR3
 injection eR1 with eR1
 subst eR1;have hRne:=gown R rfl;rw [gp,Nat.zero_add] at htm;obtain ⟨t0,t1,-⟩:=htm;simp only at t0 t1;have GM:=Lib.hid gm;have GT:=Lib.hid gt;have GOWN:=Lib.hid gown;have HCF:=Lib.hid hcf;clear gm gt gown x1 hW hgr hrc hrs hcf hat;go_upto_region 2 with fail
 go_region
 all_goals
  clear hlook d0 d1 d2 d3;have HSTEP:Hid (∀ (w3:World) (x3:Value),xae w3 x3 (l[k].1+z)->Ext w1.drew.drew w3->∃ A3 n3 c3,x3=.agg #[.bool (decide (l[k].1+z < 0)),.slice A3 n3 c3]/\(w3.cell? ⟨G,0,none⟩=some (.map (some M))/\w3.cell? ⟨G,1,none⟩=some (.slice (some ⟨R,0,none⟩) l.length ct))/\(w3.cell? ⟨R,k * 6,none⟩=some (.bool b1)/\w3.cell? ⟨R,k * 6+1,none⟩=some (.slice B1 n1 c2)/\(∀ i,w3.frozen? ⟨R,i,none⟩=false))/\waq base G M (.slice (some ⟨R,0,none⟩) l.length ct) (l.set k (l[k].1+z,m)) w (.returned (.tuple #[])) ((w3.setCell ⟨R,k * 6,none⟩ (.bool (decide (l[k].1+z < 0)))).setCell ⟨R,k * 6+1,none⟩ (.slice A3 n3 c3))):=by
   intro w3 x3 n3 y3;obtain ⟨s3,rfl,nv⟩:=id n3;obtain ⟨A3,c3,rfl,-⟩:=id nv;have y3':Ext w1 w3:=Ext.trans (((Ext.refl w1).drew).drew) y3;have hs3:=y3'.size;have ev:∀ bb i,bb < w1.heap.size->w3.cell? ⟨bb,i,none⟩=w1.cell? ⟨bb,i,none⟩:=fun bb i h=>y3'.cell (p:=⟨bb,i,none⟩) h
   refine ⟨A3,_,c3,rfl,⟨(ev G 0 glt).trans g0,(ev G 1 glt).trans g1⟩,⟨(ev R _ hltR).trans t0,(ev R _ hltR).trans t1,fun i=>(y3'.frozen (p:=⟨R,i,none⟩) hltR).trans (hfrR i)⟩,?_⟩;obtain ⟨ts,tn⟩:=(GT.out.ext y3').set_ k hk (b:=decide (l[k].1+z < 0)) (A:=A3) (d:=c3) n3;rw [HLK.out] at ts;refine ⟨rfl,.slice (some ⟨R,0,none⟩) l.length ct,⟨?_,?_,fun i=>?_,?_,?_,⟨gb1,gb2,gne,?_⟩,GOWN.out⟩,?_,fun x ds hx=>tn x ds ((hx.ext X1.out).ext y3'),fun b h1 h2 h3 h4=>?_,.inl rfl⟩
   · rw [World.cell?_setCell_other _ _ _ _ (by intro e; injection e with e; exact hRne.1 e),World.cell?_setCell_other _ _ _ _ (by intro e; injection e with e; exact hRne.1 e)]; exact (ev G 0 glt).trans g0
   · rw [World.cell?_setCell_other _ _ _ _ (by intro e; injection e with e; exact hRne.1 e),World.cell?_setCell_other _ _ _ _ (by intro e; injection e with e; exact hRne.1 e)]; exact (ev G 1 glt).trans g1
   · rw [World.frozen?_setCell,World.frozen?_setCell]; exact (y3'.frozen (p:=⟨G,i,none⟩) glt).trans (gf i)
   · rw [HGE.out];exact (GM.out.ext y3').block ((Below.heap_setCell _ _ _ M (fun e=>hRne.2 e.symm)).trans (Below.heap_setCell _ _ _ M (fun e=>hRne.2 e.symm)))
   · have:(l.set k (l[k].1+z,m)).length=l.length:=List.length_set;exact ts
   · simp only [World.setCell,Array.size_modify]; omega
   · exact Below.setCell (Below.setCell (Below.mono (X1.out.trans y3') hb) hbR _) hbR _
   · have hbR':b ≠ R:=fun e=>h4 (by rw [e]; rfl)
     exact ((Below.heap_setCell _ _ _ b hbR').trans (Below.heap_setCell _ _ _ b hbR')).trans ((X1.out.trans y3').below.block b h1)
  have hnew:∀ w3 x3,xae w3 x3 (l[k].1+z)->Ext w1.drew.drew w3->True:=fun _ _ _ _=>trivial
  have HARG1:=Lib.hid (HCF.out.ext (((Ext.refl w1).drew).drew));have HARG2:=Lib.hid (HC.out.ext (X1.out.trans (((Ext.refl w1).drew).drew)));have hq:(⟨R,0,none⟩:Addr).add (k * 6)=⟨R,k * 6,none⟩:=by rw [gp,Nat.zero_add]
  clear GM GT GOWN HCF HC HGE HLK HN HWX X1 HMX HC0 HC1 H;go_upto_region 4 with fail
  go_region_law (first
   | (go_simp
      go_at_call 160
      refine (qby _ _ (l[k].1) z _ L _ (xae.raw HARG1.out) HARG2.out (by omega)).mono ?_;rintro e w3 ⟨x3,rfl,n3,y3⟩;obtain ⟨A3,n3',c3,rfl,⟨G0,G1⟩,⟨T0,T1,TF⟩,hfin⟩:=HSTEP.out _ _ n3 y3;have HFIN:=Lib.hid hfin
      clear n3 y3 hfin))
  all_goals
   clear G0 G1 T0 T1 TF;go_wp2_with fail;exact bodyPost_ret (results_none rfl _ _ _) rfl HFIN.out
theorem jcl {base G M:Nat} {v:Value} {l:Sp} {w:World} (h:GaV base w G M v l) (m:Mo) (x:Value) (L:Nat) (z:Int) (hc:xq w x z L) (hb:base<=w.heap.size) (hL:L+(dg (qf l)).length<=35184372088000) (hlen:l.length < 1099511627776):Calls Tryz.prog 126 #[.pointer (some ⟨G,0,none⟩),moV m,x] w (waq base G M v (if m.nonneg then zae z m l else l) w):=by
 by_cases hm:m.nonneg
 · rw [if_pos hm];rcases qb3 z m l 0 with ⟨h1,h2,h3⟩ | ⟨k,hk,h1,h2,h3,h4⟩
   · rw [h2]; exact xcl h m x L z hc (by omega) hm hb hlen h1 h3
   · rw [h3];have hd:=jh (kas (List.getElem_mem hk));exact ycl h m x L z hc hm hb k hk (by omega) hlen h1 h2 h4
 · rw [if_neg hm]; exact qcl h m x (some L) z hc hm hb
/- The library's sort at terms: the kit's contract of slices.pdqsortCmpFunc laid at this program. (The lines of sortTm are those that the kit's laying command writes.) -/
def qar:Go.Shelf.Ren:=⟨fun | 14=>197 | 20=>211 | 21=>212 | 22=>213 | 23=>214 | 24=>215 | 25=>216 | 26=>217 | 27=>218 | 46=>229 | 47=>230 | 48=>231 | 49=>232 | 50=>233 | 15=>198 | 57=>248 | 28=>219 | 29=>220 | n=>n,fun | 24=>190 | 22=>65 | 3=>3 | 25=>235 | 4=>4 | 0=>0 | 46=>268 | 45=>267 | 50=>112 | 66=>283 | 39=>179 | 55=>178 | 70=>287 | 76=>303 | 77=>304 | 53=>180 | 5=>5 | 9=>9 | n=>n,fun | n=>n⟩
theorem vbl : Go.Proofs.SlLaysF0.n14 Tryz.prog qar := {
 mixed:=by kernel_rfl,
 f14:=⟨Tryz.f197.name,by decide,Tryz.func197.trans (congrArg some (by kernel_rfl))⟩,
 f15:=Tryz.func198.trans (congrArg some (by kernel_rfl)),
 f20:=⟨Tryz.f211.name,by decide,Tryz.func211.trans (congrArg some (by kernel_rfl))⟩,
 f21:=⟨Tryz.f212.name,by decide,Tryz.func212.trans (congrArg some (by kernel_rfl))⟩,
 f22:=⟨Tryz.f213.name,by decide,Tryz.func213.trans (congrArg some (by kernel_rfl))⟩,
 f23:=⟨Tryz.f214.name,by decide,Tryz.func214.trans (congrArg some (by kernel_rfl))⟩,
 f24:=⟨Tryz.f215.name,by decide,Tryz.func215.trans (congrArg some (by kernel_rfl))⟩,
 f25:=⟨Tryz.f216.name,by decide,Tryz.func216.trans (congrArg some (by kernel_rfl))⟩,
 f26:=⟨Tryz.f217.name,by decide,Tryz.func217.trans (congrArg some (by kernel_rfl))⟩,
 f27:=⟨Tryz.f218.name,by decide,Tryz.func218.trans (congrArg some (by kernel_rfl))⟩,
 f28:=Tryz.func219.trans (congrArg some (by kernel_rfl)),
 f29:=Tryz.func220.trans (congrArg some (by kernel_rfl)),
 f46:=⟨Tryz.f229.name,by decide,Tryz.func229.trans (congrArg some (by kernel_rfl))⟩,
 f47:=Tryz.func230.trans (congrArg some (by kernel_rfl)),
 f48:=Tryz.func231.trans (congrArg some (by kernel_rfl)),
 f49:=⟨Tryz.f232.name,by decide,Tryz.func232.trans (congrArg some (by kernel_rfl))⟩,
 f50:=⟨Tryz.f233.name,by decide,Tryz.func233.trans (congrArg some (by kernel_rfl))⟩,
 f57:=⟨Tryz.f248.name,by decide,Tryz.func248.trans (congrArg some (by kernel_rfl))⟩,
 t0:=Tryz.underlying0,
 a0:=Tryz.isAgg0,
 z0:=Tryz.sizeOf0,
 v0:=Tryz.zeroValue0,
 t3:=Tryz.underlying3,
 a3:=Tryz.isAgg3,
 z3:=Tryz.sizeOf3,
 v3:=Tryz.zeroValue3,
 t4:=Tryz.underlying4,
 a4:=Tryz.isAgg4,
 z4:=Tryz.sizeOf4,
 v4:=Tryz.zeroValue4,
 t5:=Tryz.underlying5,
 a5:=Tryz.isAgg5,
 z5:=Tryz.sizeOf5,
 v5:=Tryz.zeroValue5,
 t9:=Tryz.underlying9,
 a9:=Tryz.isAgg9,
 z9:=Tryz.sizeOf9,
 v9:=Tryz.zeroValue9,
 t22:=Tryz.underlying65,
 a22:=Tryz.isAgg65,
 z22:=Tryz.sizeOf65,
 v22:=Tryz.zeroValue65,
 t25:=Tryz.underlying235,
 a25:=Tryz.isAgg235,
 z25:=Tryz.sizeOf235,
 v25:=Tryz.zeroValue235,
 t39:=Tryz.underlying179,
 a39:=Tryz.isAgg179,
 z39:=Tryz.sizeOf179,
 v39:=Tryz.zeroValue179,
 t45:=Tryz.underlying267,
 a45:=Tryz.isAgg267,
 z45:=Tryz.sizeOf267,
 v45:=Tryz.zeroValue267,
 t46:=Tryz.underlying268,
 a46:=Tryz.isAgg268,
 z46:=Tryz.sizeOf268,
 v46:=Tryz.zeroValue268,
 t50:=Tryz.underlying112,
 a50:=Tryz.isAgg112,
 z50:=Tryz.sizeOf112,
 v50:=Tryz.zeroValue112,
 t53:=Tryz.underlying180,
 a53:=Tryz.isAgg180,
 z53:=Tryz.sizeOf180,
 v53:=Tryz.zeroValue180,
 t55:=Tryz.underlying178,
 a55:=Tryz.isAgg178,
 z55:=Tryz.sizeOf178,
 v55:=Tryz.zeroValue178,
 t66:=Tryz.underlying283,
 a66:=Tryz.isAgg283,
 z66:=Tryz.sizeOf283,
 v66:=Tryz.zeroValue283,
 t70:=Tryz.underlying287,
 a70:=Tryz.isAgg287,
 z70:=Tryz.sizeOf287,
 v70:=Tryz.zeroValue287,
 t76:=Tryz.underlying303,
 a76:=Tryz.isAgg303,
 z76:=Tryz.sizeOf303,
 v76:=Tryz.zeroValue303,
 t77:=Tryz.underlying304,
 a77:=Tryz.isAgg304,
 z77:=Tryz.sizeOf304,
 v77:=Tryz.zeroValue304 }
theorem jcq:Go.Proofs.SlLaysF0.n15 Tryz.prog qar:={ vbl with }
/- The library's sort at terms: slices.SortFunc with the order of (*gather).poly: descending monomials. -/
set_option maxRecDepth 100000
set_option maxHeartbeats 8000000
open Go.Shelf
structure TmE where
 neg:Bool
 A:Option Addr
 n:Nat
 c:Nat
 z:Int
 mo:Mo
instance:Inhabited TmE:=⟨⟨false,none,0,0,0,Mo.one⟩⟩
def TmE.enc (x:TmE):List Value:=tmC x.neg (.slice x.A x.n x.c) x.mo
def jap (x y:TmE):Int:=kay y.mo x.mo
theorem qax (x y:TmE):ltOf jap x y=decide (y.mo.lt x.mo):=by
 unfold ltOf jap kay
 by_cases h1:y.mo.lt x.mo
 · rw [if_pos h1]; simp [h1]
 · rw [if_neg h1]
   by_cases h2:x.mo.lt y.mo
   · rw [if_pos h2]; simp [h1]
   · rw [if_neg h2]; simp [h1]
theorem vco : SWO (ltOf jap) where
 irrefl x:=by rw [qax]; simp [Mo.lt_irrefl]
 trans x y z h1 h2:=by
  rw [qax] at *;simp only [decide_eq_true_eq] at *;exact Mo.lt_trans h2 h1
 ntrans x y z h1 h2:=by
  rw [qax] at *;simp only [decide_eq_false_iff_not] at *;unfold Mo.lt at *; omega
theorem gbt (x y:TmE) (W:World):Calls Tryz.prog 174 #[.agg x.enc.toArray,.agg y.enc.toArray] W fun e w'=>e=.returned (.int .i64 (jap x y))/\∃ q os',w'=grow (W.drewN q) os':=by
 unfold jap TmE.enc tmC;have hcon:=fun W'=>zbb y.mo x.mo W'
 generalize kay y.mo x.mo=r at hcon ⊢;have HC:=Lib.hid hcon;have HG:Hid (∀ o o' q os,∃ q' os',grow (((W.alloc o).alloc o').drewN q) os=grow (W.drewN q') os'):=fun o o' q os=>⟨q,#[o] ++ #[o'] ++ os,by rw [alloc_eq_grow,alloc_eq_grow,grow_grow,<- grow_grow _ _ os]; rfl⟩
 clear hcon;go_enter Tryz.func174,Tryz.ntmps174;go_wp2_with fail;refine (HC.out _).mono ?_;rintro e w1 ⟨rfl,q,os,rfl⟩;go_wp2_with fail;go_ret;exact ⟨rfl,HG.out _ _ q os⟩
theorem kbn (blk off size:Nat) (w:World):CmpLays Tryz.prog 174 #[] TmE.enc 6 jap blk off size w:=fun _ _ _ _ x y=>gbt x y _
theorem zbv (v:Value) (w:World):Calls Tryz.prog 211 #[v,.int .i64 0,.int .i64 0,.func (.func 174) #[] #[]] w fun e w'=>e=.returned (.tuple #[])/\w'=w:=by
 go_enter Tryz.func211,Tryz.ntmps211;go_wp2_with fail;refine wp_loop_rounds 1 ?_;rw [rounds_succ];go_wp2_with fail
 go_end0
 exact ⟨rfl,rfl⟩
theorem ya6 (n:Nat) (w:World) (h:n < 4611686018427387904):Calls Tryz.prog 198 #[.int .u64 (n:Int)] w fun e w'=>e=.returned (.int .i64 (Lib.bitLen n:Nat))/\w'=w:=by
 have h:=Go.Proofs.Any.bits_Len (Go.Proofs.SlLaysF0.n15.bits (P:=Tryz.prog) (ρ:=qar) jcq) (n:Int) w (by omega) (by omega)
 rwa [Int.toNat_natCast] at h
theorem wbt (v:Value) (limit:Int) (w:World):Calls Tryz.prog 197 #[v,.int .i64 0,.int .i64 0,.int .i64 limit,.func (.func 174) #[] #[]] w fun e w'=>e=.returned (.tuple #[])/\w'=w:=by
 go_enter Tryz.func197,Tryz.ntmps197;go_wp2_with fail;refine wp_loop_rounds 1 ?_;rw [rounds_succ];go_wp2_with fail;refine (zbv _ _).mono ?_;rintro e w1 ⟨rfl,rfl⟩;go_wp2_with fail;exact bodyPost_ret (results_none rfl _ _ _) rfl ⟨rfl,rfl⟩
theorem ubl (A:Option Addr) (c:Nat) (w:World):Calls Tryz.prog 173 #[.slice A 0 c,.func (.func 174) #[] #[]] w fun e w'=>e=.returned (.tuple #[])/\w'=w:=by
 have wr:IntKind.u64.wrap (0:Int)=0:=by decide
 have hb:=ya6 0 w (by omega);have HB:=Lib.hid hb;clear hb;go_enter Tryz.func173,Tryz.ntmps173;go_wp2_with fail;refine HB.out.mono ?_;rintro e w1 ⟨rfl,rfl⟩;go_wp2_with fail;refine (wbt _ _ _).mono ?_;rintro e w1 ⟨rfl,rfl⟩;go_wp2_with fail
 go_end0
 exact ⟨rfl,rfl⟩
theorem wbs (blk cap:Nat) (d:Array TmE) (w:World) (hH:HoldsK TmE.enc 6 w blk 0 d) (hblk:blk < w.heap.size) (hsz:d.size < 4611686018427387904) :
 Calls Tryz.prog 173 #[.slice (some ⟨blk,0,none⟩) d.size cap,.func (.func 174) #[] #[]] w fun e w'=>e=.returned (.tuple #[])/\∃ d' n os,PermIn 0 d.size d d'/\SortedIn (ltOf jap) 0 d.size d'/\w'=sortWorldK TmE.enc 6 w blk 0 n d' os:=by
 have hlim:Lib.bitLen d.size < 4611686018427387904:=Nat.lt_of_le_of_lt (Lib.bitLen_le d.size 62 (by omega) (by omega)) (by omega);have eg:∀ args w,(callFunc 174 args).run Tryz.prog w=.ok (.enter 174 args) w:=enters_of Tryz.func174 (by kernel_rfl) rfl;have hp:=Go.Proofs.AnyQ.pdqsortCmpFunc_all (P:=Tryz.prog) (ρ:=qar) vbl 6 Tryz.isAgg190 Tryz.sizeOf190 TmE.enc jap 174 #[] vco blk 0 cap d w eg (kbn blk 0 d.size w) ⟨fun _=>rfl,fun x v hv=>by
  simp only [TmE.enc,tmC,List.mem_cons,List.not_mem_nil,or_false] at hv
  rcases hv with rfl | rfl | rfl | rfl | rfl | rfl <;> rfl,hH,hblk⟩ (d.size+1) 0 d.size (Lib.bitLen d.size) d w (by omega) rfl (Go.Proofs.SWK.start hH) (Nat.zero_le _) (Nat.le_refl _) hsz hlim (Or.inl rfl)
 have hs:=pdq_sorts (ltOf jap) vco d 0 d.size (Lib.bitLen d.size) true true (Nat.zero_le _) (Nat.le_refl _) (Or.inl rfl);generalize pdq (ltOf jap) d 0 d.size (Lib.bitLen d.size) true true=d' at hp hs
 change Calls Tryz.prog 197 _ _ _ at hp
 have HP:=Lib.hid hp;have HS:=Lib.hid hs;have HB:=Lib.hid (ya6 d.size w hsz);have wr:IntKind.u64.wrap (d.size:Int)=d.size:=by simp [IntKind.wrap,IntKind.bits,IntKind.signed]; omega
 clear hH hp hs eg;go_enter Tryz.func173,Tryz.ntmps173;go_wp2_with fail;refine HB.out.mono ?_;rintro e w1 ⟨rfl,rfl⟩;go_wp2_with fail;refine HP.out.mono ?_;rintro e w1 ⟨rfl,n,os,rfl⟩;go_wp2_with fail
 go_end0
 exact ⟨rfl,d',n,os,HS.out.1,HS.out.2,rfl⟩
def TmE.pair (x:TmE):Int × Mo:=(x.z,x.mo)
theorem kbv (d:Array TmE) (j:Nat) (hj:j < d.size * 6):(flatK TmE.enc 6 d)[j]! = (tmC d[j / 6]!.neg (.slice d[j / 6]!.A d[j / 6]!.n d[j / 6]!.c) d[j / 6]!.mo)[j % 6]! := by
 rw [get_flatK _ _ _ _ hj]; rfl
def SpO (base:Nat) (w:World) (v:Value) (l:Sp):Prop:=SpV w none v l/\(0 < l.length->∃ g c,v=.slice (some ⟨g,0,none⟩) l.length c/\base<=g/\g < w.heap.size/\∀ i,i < l.length * 6->w.frozen? ⟨g,i,none⟩=false)
theorem jce {base:Nat} {W:World} {v:Value} {l:Sp} (h:TsV none base W v l) (hlen:l.length<=1099511627776):Calls Tryz.prog 173 #[v,.func (.func 174) #[] #[]] W fun e w'=>e=.returned (.tuple #[])/\∃ l':Sp,l'.Perm l/\(∀ i j (hi:i < l'.length) (hj:j < l'.length),i < j->¬ (l'[i].2).lt l'[j].2)/\SpO base w' v l'/\Below base W w'/\W.heap.size<=w'.heap.size:=by
 obtain ⟨Av,cv,rfl,hl1,hl2⟩:=h.len
 by_cases h0:l=[]
 · subst h0;refine (ubl _ _ _).mono ?_;rintro e w' ⟨he,rfl⟩;exact ⟨he,[],List.Perm.refl _,fun i j hi=>absurd hi (by simp),⟨⟨Av,cv,rfl,hl1,hl2,fun i hi=>absurd hi (by simp)⟩,fun h=>absurd h (by simp)⟩,Below.refl _ _,Nat.le_refl _⟩
 have hpos:0 < l.length:=List.length_pos_iff.2 h0;obtain ⟨rs,rfl,hg,hcf⟩:=h;rw [List.length_map] at hpos hl1 hlen;rw [List.length_map] at hg;rw [List.length_map];obtain ⟨g,c',e,-,-,hbg,hglt,hfr⟩:=hg.pos hpos;injection e with e1 e2 e3
 subst e1 e3;have hun:∀ r ∈ rs,∃ A n c,r.2.1=.slice A n c:=fun r hr=>by
  obtain ⟨b,A,n,c,e⟩:=(hcf r hr).unpack;simp only [Value.agg.injEq,Array.mk.injEq,List.cons.injEq,and_true] at e;exact ⟨A,n,c,e.2⟩
 obtain ⟨es,hes⟩:∃ es:List TmE,es.map (fun x=>(x.neg,Value.slice x.A x.n x.c,x.z,x.mo))=rs:=by
  clear hcf hg hpos hl1 hlen h0 e2
  induction rs with
  | nil=>exact ⟨[],rfl⟩
  | cons r rs ih =>
    obtain ⟨es,he⟩:=ih (fun r hr=>hun r (by simp [hr]));obtain ⟨A,n,c,e⟩:=hun r (by simp);obtain ⟨b,s,z,m⟩:=r;simp only at e;subst e;exact ⟨⟨b,A,n,c,z,m⟩ :: es,by simp [he]⟩
 have hel:es.length=rs.length:=by rw [<- hes,List.length_map]
 have hgetr:∀ i (hi:i < es.length),rs[i]'(by omega)=(es[i].neg,Value.slice es[i].A es[i].n es[i].c,es[i].z,es[i].mo):=fun i hi=>by
  simp only [<- hes,List.getElem_map]
 have hH:HoldsK TmE.enc 6 W g 0 es.toArray:=by
  intro j hj;rw [size_flatK] at hj;simp only [List.size_toArray] at hj;have hq:j / 6 < es.length:=Nat.div_lt_of_lt_mul (by omega);have hc:=hg.cell j (by omega);have hm:j % 6 < 6:=Nat.mod_lt _ (by omega);have hj2:j / 6 * 6+j % 6=j:=by omega
  have hf:=wau rs (j / 6) (by omega) (j % 6) hm;rw [hj2] at hf;rw [hf,hgetr _ hq] at hc;refine ⟨?_,hfr _⟩;rw [Nat.zero_add,hc,kbv _ _ (by simpa using hj)];have hgt:es.toArray[j / 6]! = es[j / 6]:=by rw [getElem!_pos es.toArray (j / 6) (by simpa using hq)]; simp
  rw [hgt];have hlt:j % 6 < (tmC es[j / 6].neg (.slice es[j / 6].A es[j / 6].n es[j / 6].c) es[j / 6].mo).length:=hm;rw [List.getElem?_eq_getElem hlt,getElem!_pos (tmC es[j / 6].neg (.slice es[j / 6].A es[j / 6].n es[j / 6].c) es[j / 6].mo) (j % 6) hlt]
  rfl
 have hcall:=wbs g cv es.toArray W hH hglt (by simp; omega);simp only [List.size_toArray] at hcall;rw [hel] at hcall;refine hcall.mono ?_;rintro e w' ⟨he,d',n,os,⟨hsz,-,hperm⟩,hsort,rfl⟩;simp only [List.size_toArray] at hsz;have hperm':d'.toList.Perm es:=by
  rw [Array.extract_eq_self_of_le (by omega)] at hperm;have:es.toArray.extract 0 rs.length=es.toArray:=Array.extract_eq_self_of_le (by simp; omega);rw [this] at hperm;simpa using hperm
 have hgrow:W.grownBy (sortWorldK TmE.enc 6 W g 0 n d' os) (some g):=by
  refine ⟨rfl,rfl,rfl,?_,fun b hb hne=>?_⟩
  · simp [sortWorldK,grow,putRowK,putRow,mapBlock,Go.Sort.ahead]
  · have hne':¬ g=b:=fun e=>hne (by rw [e])
    simp [sortWorldK,grow,putRowK,putRow,mapBlock,Go.Sort.ahead,Array.getElem?_append,hb,Array.getElem_modify,hne']
 have hnat:∀ v ds,jb W v ds->jb (sortWorldK TmE.enc 6 W g 0 n d' os) v ds:=fun v ds hv=>ua9 hv (v:=.slice (some ⟨g,0,none⟩) rs.length cv) hgrow hg.2 (xa5 hg.1)
 have hH':HoldsK TmE.enc 6 (sortWorldK TmE.enc 6 W g 0 n d' os) g 0 d':=
  holdsK_grow TmE.enc 6 _ os g 0 d' (by simp only [putRowK,size_putRow]; exact hglt) (holdsK_putRowK TmE.enc 6 (Go.Sort.ahead W n) g 0 es.toArray d' (holdsK_ahead TmE.enc 6 W n g 0 es.toArray hH) (by simpa using hsz))
 refine ⟨he,d'.toList.map TmE.pair,?_,?_,?_,?_,?_⟩
 · have h1:=hperm'.map TmE.pair;have h2:es.map TmE.pair=rs.map (fun r=>r.2.2):=by rw [<- hes,List.map_map]; rfl
   rw [<- h2]; exact h1
 · intro i j hi hj hij;rw [List.length_map,Array.length_toList] at hi hj;have:=hsort i j (Nat.zero_le _) hij (by omega);rw [qax,decide_eq_false_iff_not] at this;simp only [List.getElem_map,Array.getElem_toList];rw [getElem!_pos d' i hi,getElem!_pos d' j hj] at this;exact this
 · have hld:(d'.toList.map TmE.pair).length=rs.length:=by rw [List.length_map,Array.length_toList]; omega
   refine ⟨⟨some ⟨g,0,none⟩,cv,by rw [hld],by omega,hl2,fun i hi=>?_⟩,fun _=>⟨g,cv,by rw [hld],hbg,Nat.lt_of_lt_of_le hglt hgrow.size,fun i hi=>?_⟩⟩;rotate_left
   · rw [hld] at hi;have h1:=(HoldsK.cell hH' (show i / 6 < d'.size from Nat.div_lt_of_lt_mul (by omega)) (Nat.mod_lt i (show 0 < 6 by omega))).2;rw [show 0+i / 6 * 6+i % 6=i by omega] at h1;exact h1
   rw [List.length_map,Array.length_toList] at hi;have hcell:=fun c (hc:c < 6)=>(HoldsK.cell hH' hi hc).1
   simp only [Nat.zero_add] at hcell;have hmem:d'[i]! ∈ es:=hperm'.mem_iff.1 (by rw [getElem!_pos d' i hi]; simp);obtain ⟨k,hk,hke⟩:=List.getElem_of_mem hmem;have hcfk:=hcf rs[k] (List.getElem_mem (by omega));rw [hgetr k hk,hke] at hcfk;have hpi:(d'.toList.map TmE.pair)[i]'(by rw [List.length_map,Array.length_toList]; exact hi)=(d'[i]!.z,d'[i]!.mo):=by
    rw [List.getElem_map,Array.getElem_toList,getElem!_pos d' i hi]; rfl
   refine ⟨⟨g,0,none⟩,d'[i]!.neg,d'[i]!.A,d'[i]!.n,d'[i]!.c,rfl,Nat.lt_of_lt_of_le hglt hgrow.size,?_,?_⟩
   · rw [gp,Nat.zero_add,hpi];exact ⟨hcell 0 (by omega),hcell 1 (by omega),hcell 2 (by omega),hcell 3 (by omega),hcell 4 (by omega),hcell 5 (by omega)⟩
   · rw [hpi];exact Cf.turn hcfk hnat
 · exact Below.grown (Below.refl _ _) hgrow (by omega) (fun b e=>by injection e with e; omega)
 · exact hgrow.size
/- Layer 20: newGather, (*gather).poly. -/
set_option maxRecDepth 100000
set_option maxHeartbeats 8000000
theorem ubi (w:World):Calls Tryz.prog 125 #[] w fun e w'=>e=.returned (.pointer (some ⟨w.heap.size+1,0,none⟩))/\GaV w.heap.size w' (w.heap.size+1) w.heap.size (.slice none 0 0) []/\Ext w w':=by
 obtain ⟨W,hW⟩:∃ W,(w.alloc (.map #[] 0)).alloc (.cells #[.map (some w.heap.size),.slice none 0 0] 231)=W:=⟨_,rfl⟩;have hx1:Ext w (w.alloc (.map #[] 0)):=(Ext.refl w).alloc _;have hx2:Ext (w.alloc (.map #[] 0)) W:=by rw [<- hW]; exact (Ext.refl _).alloc _
 have hg:GaV w.heap.size W (w.heap.size+1) w.heap.size (.slice none 0 0) []:=by
  refine ⟨?_,?_,fun i=>?_,(qaf.made w).ext hx2,TsV.nil _ _ _,⟨by omega,Nat.le_refl _,by omega,by rw [<- hW]; simp⟩,fun R e=>by cases e⟩
  · rw [<- hW]; simp [go_sem]
  · rw [<- hW]; simp [go_sem]
  · rw [<- hW]; simp [go_sem]
 have HG:=Lib.hid hg;have HX:=Lib.hid (hx1.trans hx2);clear hg hx1 hx2;have hmm:=@run_makeMap Tryz.prog;go_enter Tryz.func125,Tryz.ntmps125;go_wp2_with fail;go_ret;exact ⟨rfl,HG.out,HX.out⟩
def nz (l:Sp):Sp:=l.filter fun x=>decide (x.1 ≠ 0)
theorem wbn (l:Sp) (k:Nat) (hk:k < l.length) (h:l[k].1=0):nz (l.take (k+1))=nz (l.take k):=by
 unfold nz;rw [List.take_succ_eq_append_getElem hk,List.filter_append,List.filter_cons];simp [h]
theorem kbu (l:Sp) (k:Nat) (hk:k < l.length) (h:l[k].1 ≠ 0):nz (l.take (k+1))=nz (l.take k) ++ [l[k]]:=by
 unfold nz;rw [List.take_succ_eq_append_getElem hk,List.filter_append,List.filter_cons];simp [h]
theorem zca (l:Sp):(nz l).length<=l.length:=List.length_filter_le _ _
theorem gcs (l:Sp) (k:Mo):qc (nz l) k=qc l k:=by
 induction l with
 | nil=>rfl
 | cons x r ih =>
   obtain ⟨c,m⟩:=x;unfold nz at ih ⊢;rw [List.filter_cons]
   by_cases h:c=0
   · rw [if_neg (by simpa using h),ih,qc,h]; split <;> omega
   · rw [if_pos (by simpa using h),qc,qc,ih]
theorem zb0 {l l':Sp} (h:l'.Perm l) (k:Mo):qc l' k=qc l k:=by
 induction h with
 | nil=>rfl
 | cons x _ ih=>obtain ⟨c,m⟩:=x; simp only [qc,ih]
 | swap x y l=>obtain ⟨c,m⟩:=x; obtain ⟨d,n⟩:=y; simp only [qc]; omega
 | trans _ _ ih1 ih2=>exact ih1.trans ih2
theorem kcq {l:Sp} (h0:∀ x ∈ l,x.1 ≠ 0) (h:l.Pairwise fun x y=>y.2.lt x.2):kaa l:=by
 induction l with
 | nil=>exact trivial
 | cons x r ih =>
   obtain ⟨c,m⟩:=x;rw [List.pairwise_cons] at h;exact ⟨h0 (c,m) (by simp),fun y hy=>h.1 y hy,ih (fun y hy=>h0 y (by simp [hy])) h.2⟩
theorem kbl {l l':Sp} (hp:l'.Perm (nz l)) (ha:Apart l) (hn:∀ x ∈ l,x.2.nonneg) (hs:∀ i j (hi:i < l'.length) (hj:j < l'.length),i < j->¬ (l'[i].2).lt l'[j].2):l'=jc l:=by
 have hmem:∀ x ∈ l',x ∈ l/\x.1 ≠ 0:=fun x hx=>by
  have:=hp.mem_iff.1 hx;unfold nz at this;obtain ⟨h1,h2⟩:=List.mem_filter.1 this;exact ⟨h1,by simpa using h2⟩
 have hap:Apart l':=by
  unfold Apart at ha ⊢;have h1:(nz l).Pairwise fun x y=>x.2 ≠ y.2:=List.Pairwise.filter _ ha
  exact (hp.pairwise_iff (fun {x y} h=>fun e=>h e.symm)).2 h1
 have hpw:l'.Pairwise fun x y=>y.2.lt x.2:=by
  rw [List.pairwise_iff_getElem];unfold Apart at hap;rw [List.pairwise_iff_getElem] at hap;intro i j hi hj hij;rcases Mo.tri l'[i].2 l'[j].2 with h | h | h
  · exact absurd h (hs i j hi hj hij)
  · exact absurd h (hap i j hi hj hij)
  · exact h
 exact gbl (kcq (fun x hx=>(hmem x hx).2) hpw) (fun x hx=>hn x (hmem x hx).1) (fun k _=>by rw [zb0 hp,gcs])
theorem vb8 {base G M:Nat} {v:Value} {l:Sp} {w:World} (h:GaV base w G M v l) (ha:Apart l) (hnn:∀ x ∈ l,x.2.nonneg) (hlen:l.length<=1099511627776):Calls Tryz.prog 127 #[.pointer (some ⟨G,0,none⟩)] w fun e w'=>∃ v',e=.returned v'/\SpO w.heap.size w' v' (jc l)/\Ext w w':=by
 obtain ⟨g0,g1,gf,-,gt,-,-⟩:=h;obtain ⟨At,ct,e,hl1,hl2,hat⟩:=gt.sp;subst e;have HAT:=Lib.hid hat;have HA:=Lib.hid ha;have HNN:=Lib.hid hnn;clear hat gt ha hnn gf;go_enter Tryz.func127,Tryz.ntmps127;go_wp2_with fail
 go_loopw [3,11] (fun rv iv wr=>∃ k:Nat,k<=l.length/\iv=.int .i64 k/\(∃ Ak ck,rv=.slice Ak (nz (l.take k)).length ck)/\Hid (TsV none w.heap.size wr rv (nz (l.take k))/\Ext w wr)) (fun _ iv _=>l.length - (intOf iv).toNat)
 case atStart=>exact ⟨0,Nat.zero_le _,rfl,⟨none,0,rfl⟩,TsV.nil _ _ _,Ext.refl _⟩
 case round =>
  obtain ⟨k,hk,rfl,⟨Ak,ck,rfl⟩,⟨ht,hx⟩⟩:=hrel;have HT:=Lib.hid ht;have HX:=Lib.hid hx
  by_cases hlt:k < l.length
  · obtain ⟨ad,b,B,n,c,rfl,hadb,htm,hcf⟩:=HAT.out.ext hx k hlt;obtain ⟨t0,t1,t2,t3,t4,t5⟩:=htm;have HCF:=Lib.hid hcf;have hnzl:(nz (l.take k)).length<=k:=by have:=zca (l.take k); rw [List.length_take] at this; omega
    have HTZ:=Lib.hid (wbn l k hlt);have HTP:=Lib.hid (kbu l k hlt);have HEQ:Hid (l[k]=(l[k].1,l[k].2)):=rfl;clear ht hx hcf;generalize l[k]=lk at *;go_wp2_with fail;refine (jax _ lk.1 _ _ ((Cf.raw HCF.out).ext ((Ext.refl _).alloc _))).mono ?_;rintro e w2 ⟨rfl,x2⟩;have y2:Ext wr w2:=((Ext.refl wr).alloc _).trans x2;have hb2:∀ i,w2.cell? ⟨wr.heap.size,i,none⟩=(wr.alloc (.cells #[.bool b,.slice B n c,.int .i64 lk.2.a,.int .i64 lk.2.b,.int .i64 lk.2.c,.int .i64 lk.2.d] 190)).cell? ⟨wr.heap.size,i,none⟩:=fun i=>x2.cell (p:=⟨wr.heap.size,i,none⟩) (by simp)
    have e0:w2.cell? ⟨wr.heap.size,0,none⟩=some (.bool b):=by rw [hb2]; simp [go_sem]
    have e1:w2.cell? ⟨wr.heap.size,1,none⟩=some (.slice B n c):=by rw [hb2]; simp [go_sem]
    have e2:w2.cell? ⟨wr.heap.size,2,none⟩=some (.int .i64 lk.2.a):=by rw [hb2]; simp [go_sem]
    have e3:w2.cell? ⟨wr.heap.size,3,none⟩=some (.int .i64 lk.2.b):=by rw [hb2]; simp [go_sem]
    have e4:w2.cell? ⟨wr.heap.size,4,none⟩=some (.int .i64 lk.2.c):=by rw [hb2]; simp [go_sem]
    have e5:w2.cell? ⟨wr.heap.size,5,none⟩=some (.int .i64 lk.2.d):=by rw [hb2]; simp [go_sem]
    by_cases hz:lk.1=0
    · have hq:(sgI lk.1 != 0)=false:=by rw [hz]; rfl
      have HT2:Hid (TsV none w.heap.size w2 (.slice Ak (nz (l.take k)).length ck) (nz (l.take k))):=HT.out.ext y2;have HX2:=Lib.hid (HX.out.trans y2);have HZ:=Lib.hid (HTZ.out hz);clear hb2 x2 y2;go_wp2_with fail
      go_roundw
      case rel=>exact ⟨k+1,by omega,by go_num,⟨Ak,ck,by rw [HZ.out]⟩,by rw [HZ.out]; exact HT2.out,HX2.out⟩
      case measure=>simp [intOf]; omega
    · have hq:(sgI lk.1 != 0)=true:=zax hz;have hws:=HX.out.size;have hws2:=y2.size;obtain ⟨v4,w4,hrun,t4,gg4,nn4,oo4⟩:=(HT.out.ext y2).push (by omega) (HCF.out.ext y2) lk.2 (by omega) 66;have htp:=HTP.out hz;have t4':TsV none w.heap.size w4 v4 (nz (l.take (k+1))):=by rw [htp]; exact t4
      obtain ⟨A4,c4,rfl,-,-⟩:=t4'.len;have x4:Ext w w4:=Below.grown (HX.out.trans y2) gg4 (by omega) (fun bb hb=>(HT.out.own hb).1);have T4:=Lib.hid t4';have X4:=Lib.hid x4;clear t4 t4' gg4 nn4 oo4 x4 hb2 x2 y2 htp
      go_wp2_with (at_builtin
                   refine wpList_append_run rfl (.tmp 19) (.tmp 21) _ _ rfl _ _ _ _ rfl rfl hrun ?_)
      clear hrun
      go_roundw
      case rel=>exact ⟨k+1,by omega,by go_num,⟨A4,c4,rfl⟩,T4.out,X4.out⟩
      case measure=>simp [intOf]; omega
  · have hke:l.take k=l:=by rw [show k=l.length by omega,List.take_length]
    rw [hke] at HT;rw [hke];have hsort:=jce HT.out (Nat.le_trans (zca l) hlen);have HS:=Lib.hid hsort;clear ht hx hsort;go_wp2_with fail;refine HS.out.mono ?_;rintro e w2 ⟨rfl,l',hp,hs,hv,hb,hsz⟩;have hle:=kbl hp HA.out HNN.out hs;subst hle;have HV:=Lib.hid hv;have X2:Hid (Ext w w2):=Below.trans HX.out hb;clear hp hs hv hb;go_wp2_with fail;go_ret;exact ⟨_,rfl,HV.out,X2.out⟩
/- Layer 20: sparse.Normal. -/
set_option maxRecDepth 100000
set_option maxHeartbeats 8000000
def gaa : Sp -> Sp -> Sp
 | acc,[]=>acc
 | acc,(c,m) :: r=>gaa (if m.nonneg then zae c m acc else acc) r
theorem xbq (acc l r:Sp):gaa acc (l ++ r)=gaa (gaa acc l) r:=by
 induction l generalizing acc with
 | nil=>rfl
 | cons x l ih=>obtain ⟨c,m⟩:=x; simp only [List.cons_append,gaa,ih]
theorem kb3 (l:Sp) (k:Nat) (hk:k < l.length):gaa [] (l.take (k+1))=if l[k].2.nonneg then zae l[k].1 l[k].2 (gaa [] (l.take k)) else gaa [] (l.take k):=by
 rw [List.take_succ_eq_append_getElem hk,xbq]; rfl
theorem xba (k : Mo) (hk : k.nonneg) : ∀ (l acc : Sp), qc (gaa acc l) k = qc acc k + qc l k
 | [],acc=>by simp [gaa,qc]
 | (c,m) :: r,acc=>by
   rw [gaa,xba k hk r];simp only [qc]
   by_cases hm:m.nonneg
   · rw [if_pos hm,jcb]; omega
   · rw [if_neg hm,if_neg (fun (e:m=k)=>hm (e ▸ hk))]; omega
theorem ybh : ∀ (l acc : Sp), qf (gaa acc l) <= qf acc + qf l
 | [],acc=>by simp [gaa,qf]
 | (c,m) :: r,acc=>by
   rw [gaa];have h1:=ybh r (if m.nonneg then zae c m acc else acc);have h2:=wck c m acc;simp only [qf]
   split at h1 <;> split <;> first | omega | contradiction
theorem xa1 : ∀ (l acc : Sp), (gaa acc l).length <= acc.length + l.length
 | [],acc=>by simp [gaa]
 | (c,m) :: r,acc=>by
   rw [gaa];have h1:=xa1 r (if m.nonneg then zae c m acc else acc);have h2:=zcl c m acc;simp only [List.length_cons]
   split at h1 <;> split <;> first | omega | contradiction
theorem va5 : ∀ (l acc : Sp), Apart acc -> Apart (gaa acc l)
 | [],acc,h=>h
 | (c,m) :: r,acc,h=>by
   rw [gaa];refine va5 r _ ?_
   split
   · exact jb3 c m acc h
   · exact h
theorem ybq : ∀ (l acc : Sp), (∀ x ∈ acc, x.2.nonneg) -> ∀ x ∈ gaa acc l, x.2.nonneg
 | [],acc,h=>h
 | (c,m) :: r,acc,h=>by
   rw [gaa];refine ybq r _ ?_
   split
   · rename_i hm;intro x hx;rcases zbq hx with e | ⟨y,hy,e⟩
     · rw [e]; exact hm
     · rw [<- e]; exact h y hy
   · exact h
theorem qbv (l:Sp):jc (gaa [] l)=jc l:=qav fun k hk=>by rw [xba k hk]; simp [qc]
theorem wb6 (l:Sp) (k:Nat):qf (l.take k)<=qf l:=by
 have:qf l=qf (l.take k)+qf (l.drop k):=by rw [<- wah,List.take_append_drop]
 omega
theorem SpO.less {b b':Nat} {w:World} {v:Value} {l:Sp} (h:SpO b w v l) (hb:b'<=b):SpO b' w v l:=⟨h.1,fun hp=>by
 obtain ⟨g,c,e,h1,h2⟩:=h.2 hp
 exact ⟨g,c,e,Nat.le_trans hb h1,h2⟩⟩
def ucy (l:Sp) (w:World) (e:Ending) (w':World):Prop:=∃ v,e=.returned v/\SpO w.heap.size w' v l/\Ext w w'
def zcp (l:Sp) (w:World) (e:Ending) (w':World):Prop:=∃ v,e=.returned v/\SpV w' none v l/\Ext w w'
theorem qbm {w:World} {ko:Option Nat} {v:Value} {l:Sp} (L:Nat) (h:SpV w ko v l) (hk:∀ z:Int,(∃ x ∈ l,x.1=z)->ko.getD (dg z.natAbs).length<=L) (hL:L+(dg (qf l)).length<=35184372088000) (hlen:l.length<=1099511627776):Calls Tryz.prog 72 #[v] w (ucy (jc l) w):=by
 obtain ⟨A,c,rfl,hl1,hl2,hat⟩:=h;have HAT:=Lib.hid hat;have HKO:=Lib.hid hk;clear hat hk;go_enter Tryz.func72,Tryz.ntmps72;go_wp2_with fail;refine (ubi w).mono ?_;rintro e w1 ⟨rfl,g1,x1⟩;have HX1:=Lib.hid x1;have HG1:=Lib.hid g1;clear g1 x1;go_wp2_with fail
 go_loopw [9] (fun iv wr=>∃ k:Nat,k<=l.length/\iv=.int .i64 k/\Hid ((∃ gv,GaV w.heap.size wr (w.heap.size+1) w.heap.size gv (gaa [] (l.take k)))/\Ext w wr)) (fun iv _=>l.length - (intOf iv).toNat)
 case atStart=>exact ⟨0,Nat.zero_le _,rfl,⟨_,HG1.out⟩,HX1.out⟩
 case round =>
  obtain ⟨k,hk,rfl,⟨⟨gv,hg⟩,hx⟩⟩:=hrel;have HG:=Lib.hid hg;have HX:=Lib.hid hx
  by_cases hlt:k < l.length
  · obtain ⟨ad,b,B,n,d,rfl,hadb,htm,hcf⟩:=HAT.out.ext hx k hlt;obtain ⟨t0,t1,t2,t3,t4,t5⟩:=htm;have hs:=hx.size;have hko:=HKO.out l[k].1 ⟨_,List.getElem_mem hlt,rfl⟩;have hnr:(dg (qf (gaa [] (l.take k)))).length<=(dg (qf l)).length:=jh (Nat.le_trans (ybh (l.take k) []) (by have:=wb6 l k; simp only [qf]; omega));have hgl:=xa1 (l.take k) [];rw [List.length_take] at hgl;simp only [List.length_nil] at hgl;have hcall:=fun W (hW:Ext wr W)=>jcl (hg.ext hW) l[k].2 (.agg #[.bool b,.slice B n d]) L l[k].1 ((hcf.ext hW).raw.mono hko) (by have:=hW.size; omega) (by omega) (by omega)
    rw [<- kb3 l k hlt] at hcall;have HCALL:=Lib.hid hcall;clear hcall hg hx hcf hko hnr hgl;generalize l[k]=lk at *;go_wp2_with fail;refine (HCALL.out _ ((Ext.refl _).alloc _)).mono ?_;rintro e w2 ⟨rfl,v2,g2,b2,n2,-⟩;have X2:Hid (Ext w w2):=Below.trans (HX.out.alloc _) b2;have G2:=Lib.hid g2;clear g2 b2 n2 HCALL;go_wp2_with fail
    go_roundw
    case rel=>exact ⟨k+1,by omega,by go_num,⟨_,G2.out⟩,X2.out⟩
    case measure=>simp [intOf]; omega
  · have hke:l.take k=l:=by rw [show k=l.length by omega,List.take_length]
    rw [hke] at HG;have hgl:=xa1 l [];simp only [List.length_nil] at hgl;have hcall:=vb8 HG.out (va5 l [] List.Pairwise.nil) (ybq l [] (by simp)) (by omega);rw [qbv] at hcall;have HCALL:=Lib.hid hcall;clear hcall hg hx hke;go_wp2_with fail;refine HCALL.out.mono ?_;rintro e w2 ⟨v2,rfl,s2,x2⟩;have S2:=Lib.hid (s2.less HX.out.size);have X2:=Lib.hid (HX.out.trans x2);clear s2 x2;go_wp2_with fail;go_ret;exact ⟨_,rfl,S2.out,X2.out⟩
theorem jav {w:World} {ko:Option Nat} {v:Value} {l:Sp} (L:Nat) (h:SpV w ko v l) (hk:∀ z:Int,(∃ x ∈ l,x.1=z)->ko.getD (dg z.natAbs).length<=L) (hL:L+(dg (qf l)).length<=35184372088000) (hlen:l.length<=1099511627776):Calls Tryz.prog 72 #[v] w (zcp (jc l) w):=
 (qbm L h hk hL hlen).mono fun _ _ ⟨v,e,hs,hx⟩=>⟨v,e,hs.1,hx⟩
/- Layer 22: recpoly.build. -/
set_option maxRecDepth 100000
set_option maxHeartbeats 8000000
theorem wbh (c:Int) (m:Mo) (r:Sp) (j:Nat):∀ n,j<=n->(∀ i:Nat,j < i->i<=n->m.get i=0)->bld n ((c,m) :: r)=bld j ((c,m) :: r):=by
 intro n
 induction n with
 | zero=>intro h _; rw [show j=0 by omega]
 | succ n ih =>
   intro h hz
   by_cases hj:j=n+1
   · rw [hj]
   · rw [bld,if_pos (hz (n+1) (by omega) (Nat.le_refl _))];exact ih (by omega) (fun i h1 h2=>hz i h1 (by omega))
theorem uay.get_ {w:World} {ad:Addr} {b:Bool} {s:Value} {m:Mo} (h:uay w ad b s m) (j:Nat) (hj:j < 4):w.cell? ⟨ad.block,ad.off+2+j,none⟩=some (.int .i64 (m.get ((j+1:Nat):Int))):=by
 obtain ⟨-,-,h2,h3,h4,h5⟩:=h;rcases (show j=0\/j=1\/j=2\/j=3 by omega) with rfl | rfl | rfl | rfl
 · exact h2
 · exact h3
 · exact h4
 · exact h5
theorem zau.sub {w:World} {k:Option Nat} {ad:Addr} {l:Sp} (h:zau w k (some ad) l) (s n:Nat) (hn:s+n<=l.length):zau w k (some (ad.add (s * 6))) ((l.drop s).take n):=by
 intro i hi;rw [List.length_take,List.length_drop] at hi;obtain ⟨ad',b,B,n',c,e,hb,h1,h2⟩:=h (s+i) (by omega);injection e with e
 subst e;refine ⟨_,b,B,n',c,rfl,by rw [ja]; exact hb,?_,?_⟩
 · rw [xbb,<- Nat.add_mul,List.getElem_take,List.getElem_drop]; exact h1
 · rw [List.getElem_take,List.getElem_drop]; exact h2
theorem yg.congr {q:Nat->Prop} {p p':Pl} {w w':World} {e:Ending} (h:p'=p) (hr:yg q p w e w'):yg q p' w e w':=by rw [h]; exact hr
structure kah (n : Nat) (l : Sp) : Prop where
 can:kaa l
 nn:∀ x ∈ l,x.2.nonneg
 ab:∃ m,ka3 n m l
 ex:∀ x ∈ l,x.2.le 1073741824
theorem kah.down {n j:Nat} {l:Sp} (h:kah n l) (hn:n<=4) (hj:j<=n) (hz:∀ x ∈ l,∀ i:Nat,j < i->i<=n->x.2.get i=0):kah j l:=by
 obtain ⟨m,hm⟩:=h.ab;refine ⟨h.can,h.nn,?_,h.ex⟩;cases l with
 | nil=>exact ⟨m,fun x hx=>by cases hx⟩
 | cons y r =>
   refine ⟨y.2,fun x hx i h1 h2=>?_⟩
   by_cases hi:i<=n
   · rw [hz x hx i h1 hi,hz y (by simp) i h1 hi]
   · rw [hm x hx i (by omega) h2,hm y (by simp) i (by omega) h2]
theorem kah.desc {n:Nat} {l:Sp} (h:kah n l) (hn:0 < n) (hn4:n<=4) (i j:Nat) (hi:i < l.length) (hj:j < l.length) (hij:i<=j):l[j].2.get n<=l[i].2.get n:=by
 obtain ⟨m,hm⟩:=h.ab
 by_cases he:i=j
 · subst he; exact Int.le_refl _
 have hlt:(l[j].2).lt l[i].2:=by
  have hc:=h.can;clear h hm
  induction l generalizing i j with
  | nil=>simp at hi
  | cons x r ih =>
    obtain ⟨c,k⟩:=x;cases j with
    | zero=>omega
    | succ j =>
      cases i with
      | zero=>exact hc.2.1 _ (List.getElem_mem _)
      | succ i=>exact ih i j (by simpa using hi) (by simpa using hj) (by omega) (by omega) hc.2.2
 exact Mo.lt_get hn hn4 hlt (fun q h1 h2=>(hm _ (List.getElem_mem hj) q h1 h2).trans (hm _ (List.getElem_mem hi) q h1 h2).symm)
theorem kah.strip {l:Sp} {x0:Int × Mo} {r:Sp} (hl:l=x0 :: r) (j:Nat):∀ n,n<=4->j<=n->kah n l->(∀ i:Nat,j < i->i<=n->x0.2.get i=0)->kah j l:=by
 intro n
 induction n with
 | zero=>intro _ h hok _; rw [show j=0 by omega]; exact hok
 | succ n ih =>
   intro hn h hok hz
   by_cases hj:j=n+1
   · rw [hj]; exact hok
   · refine ih (by omega) (by omega) (hok.down hn (Nat.le_succ n) fun x hx i h1 h2=>?_) (fun i h1 h2=>hz i h1 (by omega));have hi:i=n+1:=by omega
     subst hi;obtain ⟨k,hk,rfl⟩:=List.getElem_of_mem hx;have h0:0 < l.length:=by omega
     have h3:=hok.desc (Nat.succ_pos n) hn 0 k h0 hk (Nat.zero_le _);have h4:l[0]=x0:=by simp [hl]
     rw [h4,hz (n+1) (by omega) (Nat.le_refl _)] at h3;have h5:=Mo.get_nonneg (hok.nn _ (List.getElem_mem hk)) ((n+1:Nat):Int);omega
theorem gck {n:Nat} {l:Sp} {s t:Nat} {e:Int} (hs:s<=t) (ht:t<=l.length) (h1:∀ j (hj:j < l.length),j < s->l[j].2.get n ≠ e) (h2:∀ j (hj:j < l.length),s<=j->j < t->l[j].2.get n=e) (h3:∀ j (hj:j < l.length),t<=j->l[j].2.get n ≠ e) :
 l.filter (fun x=>decide (x.2.get n=e))=(l.drop s).take (t - s):=by
 have hl:l=l.take s ++ ((l.drop s).take (t - s) ++ l.drop t):=by
  have h4:l.drop t=(l.drop s).drop (t - s):=by rw [List.drop_drop]; congr 1; omega
  rw [h4,List.take_append_drop,List.take_append_drop]
 have f1:(l.take s).filter (fun x=>decide (x.2.get n=e))=[]:=List.filter_eq_nil_iff.2 fun x hx=>by
  obtain ⟨j,hj,rfl⟩:=List.getElem_of_mem hx;rw [List.length_take] at hj;rw [List.getElem_take];simpa using h1 j (by omega) (by omega)
 have f2:((l.drop s).take (t - s)).filter (fun x=>decide (x.2.get n=e))=(l.drop s).take (t - s):=List.filter_eq_self.2 fun x hx=>by
  obtain ⟨j,hj,rfl⟩:=List.getElem_of_mem hx;rw [List.length_take,List.length_drop] at hj;rw [List.getElem_take,List.getElem_drop];simpa using h2 (s+j) (by omega) (by omega) (by omega)
 have f3:(l.drop t).filter (fun x=>decide (x.2.get n=e))=[]:=List.filter_eq_nil_iff.2 fun x hx=>by
  obtain ⟨j,hj,rfl⟩:=List.getElem_of_mem hx;rw [List.length_drop] at hj;rw [List.getElem_drop];simpa using h3 (t+j) (by omega) (by omega)
 conv=>lhs; rw [hl]
 rw [List.filter_append,List.filter_append,f1,f2,f3]; simp
def xb5 (w0:World) (n:Nat):Prop:=∀ (l:Sp) (A:Option Addr) (c:Nat) (w:World),zau w0 none A l->l.length<=c->c<=9223372036854775807->kah n l->Ext w0 w->Calls Tryz.prog 71 #[.slice A l.length c,.int .i64 n] w (yg (fun b=>w.heap.size<=b) (bld n l) w)
theorem kcc (n:Nat) (A:Option Addr) (c:Nat) (w:World):Calls Tryz.prog 71 #[.slice A 0 c,.int .i64 n] w (yg (fun b=>w.heap.size<=b) (bld n []) w):=by
 rw [show bld n []=Pl.zero by unfold bld; rfl];obtain ⟨W,hW⟩:∃ W,w.alloc (.cells #[.int .i64 0,.bool false,.slice none 0 0,.slice none 0 0] 42)=W:=⟨_,rfl⟩;have hWx:Ext w W:=by rw [<- hW]; exact (Ext.refl w).alloc _
 have hz:ve W w.heap.size:=by rw [<- hW]; exact ve.new w _
 have HF:=Lib.hid (jf (p:=Pl.zero) (q:=fun _=>False) (q':=fun b=>w.heap.size<=b) hWx (Nat.le_refl _) hz (Pl.zero_v W _ none 0 (by omega)) (fun b _ h=>h.elim));obtain ⟨⟨z0,z1,z2,z3⟩,zf⟩:=hz;clear hWx;go_enter Tryz.func71,Tryz.ntmps71;go_wp2_with fail;exact bodyPost_ret (v:=plV Pl.zero (.slice none 0 0) (.slice none 0 0)) (by simp [results,Tryz.results71,go_sem,z0,z1,z2,z3,plV,Pl.zero,Pl.lv,Pl.neg]) rfl HF.out
def bco (j:Nat) (l:Sp) (i:Nat):Pl:=bld j (l.filter fun x=>decide (x.2.get ((j+1:Nat):Int)=Int.ofNat i))
theorem qcv {j:Nat} {c:Int} {m:Mo} {r:Sp} (h:m.get ((j+1:Nat):Int) ≠ 0):bld (j+1) ((c,m) :: r)=.mk (j+1:Nat) false [] ((List.range ((m.get (j+1:Nat)).toNat+1)).map (bco j ((c,m) :: r))):=by
 rw [bld,if_neg h]; rfl
def uah (W:World) (q:Nat->Prop) (R j E:Nat) (l:Sp) (s:Nat) (wr:World):Prop:=
 (∃ Lc:List Pl,Lc.length=E+1/\(∀ i (hi:i < Lc.length),(∀ x ∈ l.drop s,x.2.get ((j+1:Nat):Int) ≠ Int.ofNat i)->Lc[i]=bco j l i)/\qak wr q R Lc)/\Ext W wr/\∀ a b (ha:a < l.length) (hb:b < l.length),a < s->s<=b->l[b].2.get ((j+1:Nat):Int) < l[a].2.get ((j+1:Nat):Int)
theorem uah.start {W wr:World} {q:Nat->Prop} {R j E:Nat} {l:Sp} (h:qak wr q R (List.replicate (E+1) Pl.zero)) (hx:Ext W wr):uah W q R j E l 0 wr:=by
 refine ⟨⟨_,List.length_replicate,fun i hi hn=>?_,h⟩,hx,fun a b ha hb h1=>by omega⟩;rw [List.getElem_replicate,bco,List.filter_eq_nil_iff.2 (fun x hx=>by simpa using hn x (by simpa using hx))];unfold bld; rfl
theorem uah.fin {W wr:World} {q:Nat->Prop} {R j E:Nat} {l:Sp} (h:uah W q R j E l l.length wr):qak wr q R ((List.range (E+1)).map (bco j l)):=by
 obtain ⟨⟨Lc,h1,h2,h3⟩,-⟩:=h;have:Lc=(List.range (E+1)).map (bco j l):=by
  refine List.ext_getElem (by rw [List.length_map,List.length_range]; exact h1) fun i hi hi'=>?_
  rw [h2 i hi (by rw [List.drop_length]; simp),List.getElem_map,List.getElem_range]
 rw [<- this]; exact h3
theorem uah.group {W wr:World} {q:Nat->Prop} {R j E:Nat} {l:Sp} {s t:Nat} {e:Nat} (h:uah W q R j E l s wr) (hok:kah (j+1) l) (hj4:j+1<=4) (hst:s < t) (ht:t<=l.length) (hmid:∀ a (ha:a < l.length),s<=a->a < t->l[a].2.get ((j+1:Nat):Int)=e) (haft:∀ (ha:t < l.length),l[t].2.get ((j+1:Nat):Int) ≠ e) :
 (∀ a (ha:a < l.length),t<=a->l[a].2.get ((j+1:Nat):Int) < e)/\l.filter (fun x=>decide (x.2.get ((j+1:Nat):Int)=Int.ofNat e))=(l.drop s).take (t - s):=by
 have haft':∀ a (ha:a < l.length),t<=a->l[a].2.get ((j+1:Nat):Int) < e:=fun a ha hta=>by
  have h1:=hok.desc (Nat.succ_pos j) hj4 s t (by omega) (by omega) (by omega);have h2:=hok.desc (Nat.succ_pos j) hj4 t a (by omega) ha hta;have h3:=hmid s (by omega) (Nat.le_refl _) hst;have h4:=haft (by omega);omega
 refine ⟨haft',gck (n:=j+1) (Nat.le_of_lt hst) ht (fun a ha has=>?_) (fun a ha h1 h2=>by simpa using hmid a ha h1 h2) (fun a ha hta=>?_)⟩
 · have h1:=h.2.2 a s ha (by omega) has (Nat.le_refl _);have h2:=hmid s (by omega) (Nat.le_refl _) hst;simp only [Int.ofNat_eq_natCast]; omega
 · have:=haft' a ha hta;simp only [Int.ofNat_eq_natCast]; omega
theorem uah.step {W wr w2:World} {R j E:Nat} {l:Sp} {s t:Nat} {e:Nat} (h:uah W (fun b=>R<=b) R j E l s wr) (hR:W.heap.size<=R) (hok:kah (j+1) l) (hj4:j+1<=4) (hst:s < t) (ht:t<=l.length) (he:e<=E) (hmid:∀ a (ha:a < l.length),s<=a->a < t->l[a].2.get ((j+1:Nat):Int)=e) (haft:∀ (ha:t < l.length),l[t].2.get ((j+1:Nat):Int) ≠ e) (hx2:Ext wr w2) {A0 A1:Option Addr} {n0 c0 n1 c1:Nat} (hp:PlV w2 (fun b=>wr.heap.size<=b) (bco j l e) (plV (bco j l e) (.slice A0 n0 c0) (.slice A1 n1 c1))) :
 (∃ u0 u1 B0 m0 d0 B1 m1 d1,w2.cell? ⟨R,e * 4,none⟩=some (.int .i64 u0)/\w2.cell? ⟨R,e * 4+1,none⟩=some (.bool u1)/\w2.cell? ⟨R,e * 4+2,none⟩=some (.slice B0 m0 d0)/\w2.cell? ⟨R,e * 4+3,none⟩=some (.slice B1 m1 d1))/\(∀ i,w2.frozen? ⟨R,i,none⟩=false) /\
 uah W (fun b=>R<=b) R j E l t ((((w2.setCell ⟨R,e * 4,none⟩ (.int .i64 (bco j l e).lv)).setCell ⟨R,e * 4+1,none⟩ (.bool (bco j l e).neg)).setCell ⟨R,e * 4+2,none⟩ (.slice A0 n0 c0)).setCell ⟨R,e * 4+3,none⟩ (.slice A1 n1 c1)):=by
 obtain ⟨hlt,-⟩:=h.group hok hj4 hst ht hmid haft;obtain ⟨⟨Lc,h1,h2,h3⟩,hx,hsep⟩:=h;have hr2:=h3.ext hx2;obtain ⟨D0,n2,g0,D1,n3,g1,⟨r0,r1,r2,r3⟩,-⟩:=hr2.2.2 e (by omega);have hRlt:=h3.1;have hst2:=(hr2.set_ e (by omega) (bco j l e) (hp.mono fun b hb=>⟨by omega,by omega⟩)).1;refine ⟨⟨_,_,_,_,_,_,_,_,r0,r1,r2,r3⟩,hr2.2.1,⟨Lc.set e (bco j l e),by rw [List.length_set]; exact h1,fun i hi hn=>?_,hst2⟩,((((hx.trans hx2).setCell hR _).setCell hR _).setCell hR _).setCell hR _,fun a b ha hb hat htb=>?_⟩
 · rw [List.length_set] at hi
   by_cases hie:i=e
   · subst hie; rw [List.getElem_set_self]
   · rw [List.getElem_set_ne (Ne.symm hie)];refine h2 i hi fun x hx'=>?_
     obtain ⟨k,hk,rfl⟩:=List.getElem_of_mem hx';rw [List.length_drop] at hk;rw [List.getElem_drop]
     by_cases hkt:s+k < t
     · rw [hmid (s+k) (by omega) (by omega) hkt];simp only [Int.ofNat_eq_natCast]; omega
     · refine hn _ (List.mem_iff_getElem.2 ⟨s+k - t,by rw [List.length_drop]; omega,?_⟩);rw [List.getElem_drop]
       congr 1; omega
 · have h4:=hlt b hb htb
   by_cases has:a < s
   · have:=hsep a s ha (by omega) has (Nat.le_refl _);rw [hmid s (by omega) (Nat.le_refl _) hst] at this;omega
   · rw [hmid a ha (by omega) hat]; exact h4
theorem kah.part {j:Nat} {l:Sp} (h:kah (j+1) l) (e:Int):kah j (l.filter fun x=>decide (x.2.get ((j+1:Nat):Int)=e)):=by
 obtain ⟨m,hm⟩:=h.ab;refine ⟨h.can.filter _,fun x hx=>h.nn x (List.mem_filter.1 hx).1,?_,fun x hx=>h.ex x (List.mem_filter.1 hx).1⟩;cases hf:l.filter (fun x=>decide (x.2.get ((j+1:Nat):Int)=e)) with
 | nil=>exact ⟨m,fun x hx=>by cases hx⟩
 | cons y r =>
   refine ⟨y.2,fun x hx i h1 h2=>?_⟩;rw [<- hf] at hx;have hy:y ∈ l.filter (fun x=>decide (x.2.get ((j+1:Nat):Int)=e)):=by rw [hf]; simp
   obtain ⟨hx1,hx2⟩:=List.mem_filter.1 hx;obtain ⟨hy1,hy2⟩:=List.mem_filter.1 hy
   by_cases hi:i=j+1
   · subst hi;rw [of_decide_eq_true hx2,of_decide_eq_true hy2]
   · rw [hm x hx1 i (by omega) h2,hm y hy1 i (by omega) h2]
theorem jb4 (w0:World) (n:Nat) (hn4:n<=4) (ih:∀ m,m < n->xb5 w0 m):xb5 w0 n:=by
 intro l A c w hat hl1 hl2 hok hx0;cases hl:l with
 | nil=>exact kcc n A c w
 | cons x0 r =>
 rw [<- hl];have hpos:0 < l.length:=by rw [hl]; simp
 obtain ⟨ad,b,B,n1,c1,rfl,hadb,htm,hcf⟩:=hat 0 hpos;have hl0:l[0]=x0:=by simp [hl]
 rw [Nat.zero_mul,show ad.add 0=ad by unfold Addr.add; simp,hl0] at htm;rw [hl0] at hcf;have HAT:=Lib.hid hat;have HOK:=Lib.hid hok;have IH:=Lib.hid ih;have HX0:=Lib.hid hx0;have HTM:=Lib.hid htm;have HCF:=Lib.hid hcf;have HL:=Lib.hid hl;clear hat hok ih hl hl0 hcf;obtain ⟨W,hW⟩:∃ W,w.alloc (.cells #[.int .i64 0,.bool false,.slice none 0 0,.slice none 0 0] 42)=W:=⟨_,rfl⟩;have hWx:Ext w W:=by rw [<- hW]; exact (Ext.refl w).alloc _
 have hWs:W.heap.size=w.heap.size+1:=by rw [<- hW]; simp
 have HZ:Hid (ve W w.heap.size):=by
  have:ve W w.heap.size:=by rw [<- hW]; exact ve.new w _
  exact this
 have hadW:ad.block < W.heap.size:=by have:=(hx0.trans hWx).size; omega
 have htmW:=htm.ext (hx0.trans hWx) hadb;have HTW:Hid (∀ j:Nat,j < 4->W.cell? ⟨ad.block,ad.off+2+j,none⟩=some (.int .i64 (x0.2.get ((j+1:Nat):Int)))):=htmW.get_;have HWX:=Lib.hid hWx;have hle:((l.length:Int) == 0)=false:=by
  rw [Bool.eq_false_iff]; intro h; rw [beq_iff_eq] at h; omega
 clear htm hx0 hWx htmW;go_enter Tryz.func71,Tryz.ntmps71;go_wp2_with fail;clear hW
 go_loopw [1] (fun lv wr=>∃ j:Nat,j<=n/\lv=.int .i64 j/\wr=W/\Hid (∀ i:Nat,j < i->i<=n->x0.2.get i=0)) (fun lv _=>(intOf lv).toNat)
 case atStart=>exact ⟨n,Nat.le_refl _,rfl,rfl,fun i h1 h2=>by omega⟩
 case round =>
  obtain ⟨j,hj,rfl,hwr,HZR⟩:=hrel;subst wr
  by_cases hj0:j=0
  · subst hj0;have hbz:bld n l=Pl.const x0.1:=by
     rw [HL.out];have:=wbh x0.1 x0.2 r 0 n (Nat.zero_le _) HZR.out;rw [show (x0.1,x0.2) :: r=x0 :: r from rfl] at this;rw [this]; unfold bld; rfl
    obtain ⟨sv,hsv,hnv⟩:=HCF.out;simp only [Value.agg.injEq,Array.mk.injEq,List.cons.injEq,and_true,Value.bool.injEq] at hsv;obtain ⟨rfl,rfl⟩:=hsv;have hnv':=hnv.ext (HX0.out.trans HWX.out);obtain ⟨t0,t1,-⟩:=HTM.out.ext (HX0.out.trans HWX.out) hadb;obtain ⟨⟨z0,z1,z2,z3⟩,zf⟩:=HZ.out;obtain ⟨A9,c9,e9,-⟩:=id hnv;injection e9 with e91 e92 e93
    subst e91 e92 e93;have hpl:PlV W (fun _=>False) (Pl.const x0.1) (plV (Pl.const x0.1) (.slice B (dg x0.1.natAbs).length c1) (.slice none 0 0)):=PlV.mk (t:=Pl.const x0.1) (c:=0) (A:=none) hnv' (by simp [Pl.const,Pl.cs]) (by omega) (by unfold Pl.const Pl.cs jd; trivial);have hf:=jf (q':=fun b=>w.heap.size<=b) HWX.out (Nat.le_refl _) HZ.out hpl (fun b _ h=>h.elim);have HF:=Lib.hid (yg.congr hbz hf);clear hf hpl hnv hnv' hbz;go_wp2_with fail;exact bodyPost_ret (v:=plV (Pl.const x0.1) (.slice B (dg x0.1.natAbs).length c1) (.slice none 0 0)) (by simp [results,Tryz.results71,go_sem,z0,z1,z2,z3,plV,Pl.const,Pl.lv,Pl.neg]) rfl HF.out
  · obtain ⟨j',hj'⟩:∃ j',j=j'+1:=⟨j - 1,by omega⟩;have HJ:=Lib.hid hj';have hjn:j'+1<=n:=by omega
    have hjq:((j:Int) == 0)=false:=by
     rw [Bool.eq_false_iff]; intro h; rw [beq_iff_eq] at h; omega
    have hjp:decide ((j:Int) > 0)=true:=decide_eq_true (by omega);have HZR2:Hid (∀ i:Nat,j'+1 < i->i<=n->x0.2.get i=0):=fun i h1 h2=>HZR.out i (by omega) h2
    have hc:=HTW.out j' (by omega);have hnn0:0<=x0.2.get ((j'+1:Nat):Int):=Mo.get_nonneg (HOK.out.nn x0 (by rw [HL.out]; simp)) _;have hle0:x0.2.get ((j'+1:Nat):Int)<=1073741824:=(HOK.out.ex x0 (by rw [HL.out]; simp)).get _;obtain ⟨E,hE⟩:∃ E:Nat,x0.2.get ((j'+1:Nat):Int)=E:=⟨_,(Int.toNat_of_nonneg hnn0).symm⟩;rw [hE] at hc hnn0 hle0;have hwr1:IntKind.i64.wrap ((j:Int) - 1)=j':=by rw [IntKind.wrap_i64]; omega
    clear hj'
    by_cases hE0:E=0
    · subst hE0;go_wp2_with fail
      go_roundw
      case rel=>exact ⟨j',by omega,by go_num,trivial,fun i h1 h2=>by
        by_cases hi:i=j'+1
        · rw [hi]; exact hE
        · exact HZR2.out i (by omega) h2⟩
      case measure=>have:=HJ.out; first | (simp [intOf]; omega) | (simp [intOf]; done)
    · have hEq:((E:Int) == 0)=false:=by
       rw [Bool.eq_false_iff]; intro h; rw [beq_iff_eq] at h; omega
      have hEg:decide ((E:Int) > 1073741824)=false:=decide_eq_false (by omega);have hwr2:IntKind.i64.wrap ((E:Int)+1)=E+1:=by rw [IntKind.wrap_i64]; omega
      have hok:=HOK.out.strip HL.out (j'+1) n hn4 hjn HZR2.out;have hb:bld n l=.mk (j'+1:Nat) false [] ((List.range (E+1)).map (bco j' l)):=by
       have h1:=wbh x0.1 x0.2 r (j'+1) n hjn HZR2.out;have h2:=qcv (j:=j') (c:=x0.1) (m:=x0.2) (r:=r) (by rw [hE]; omega);rw [show (x0.1,x0.2) :: r=l from HL.out.symm] at h1 h2;rw [h1,h2,hE,Int.toNat_natCast]
      obtain ⟨V,hmk,hVx,hVs,hrow⟩:=uak ((E:Int)+1) (by omega) (by omega) W;rw [show ((E:Int)+1).toNat=E+1 by omega] at hmk hrow;rw [hWs] at hmk;have hrow0:=hrow (fun b=>w.heap.size+1<=b);rw [hWs] at hrow0;have HI0:=Lib.hid (uah.start (W:=W) (j:=j') (l:=l) hrow0 hVx);have HB:=Lib.hid hb;have HOK2:=Lib.hid hok;clear hok hb hVx hrow hrow0;have HDS:=Lib.hid (fun a b (ha:a < l.length) (hb:b < l.length) (hab:a<=b)=>HOK2.out.desc (Nat.succ_pos j') (by omega) a b ha hb hab);have HGE:Hid (∀ k (hk:k < l.length),∃ e:Nat,l[k].2.get ((j'+1:Nat):Int)=e/\e<=E):=by
       have:∀ k (hk:k < l.length),∃ e:Nat,l[k].2.get ((j'+1:Nat):Int)=e/\e<=E:=fun k hk=>by
        have h1:=Mo.get_nonneg (HOK2.out.nn _ (List.getElem_mem hk)) ((j'+1:Nat):Int);have h2:=HDS.out 0 k hpos hk (Nat.zero_le _);have h4:l[0]=x0:=by simp [HL.out]
        rw [h4,hE] at h2;exact ⟨(l[k].2.get ((j'+1:Nat):Int)).toNat,(Int.toNat_of_nonneg h1).symm,by omega⟩
       exact this
      have HCELL:Hid (∀ k (hk:k < l.length) W2,Ext W W2->W2.cell? ⟨(ad.add (k * 6)).block,(ad.add (k * 6)).off+2+j',none⟩=some (.int .i64 (l[k].2.get ((j'+1:Nat):Int)))):=by
       have:∀ k (hk:k < l.length) W2,Ext W W2->W2.cell? ⟨(ad.add (k * 6)).block,(ad.add (k * 6)).off+2+j',none⟩=some (.int .i64 (l[k].2.get ((j'+1:Nat):Int))):=fun k hk W2 hW2=>by
        obtain ⟨ad',b',B',n',c',e',hb',h1,-⟩:=HAT.out.ext ((HX0.out.trans HWX.out).trans hW2) k hk;injection e' with e'
        subst e';exact h1.get_ j' (by omega)
       exact this
      have HEX:=Lib.hid hE;go_wp2_with fail;clear hmk hc hE
      go_loopw [6] (fun sv wv=>∃ s:Nat,s<=l.length/\sv=.int .i64 s/\Hid (uah W (fun b=>w.heap.size+1<=b) (w.heap.size+1) j' E l s wv)) (fun sv _=>l.length - (intOf sv).toNat)
      case atStart=>exact ⟨0,Nat.zero_le _,rfl,HI0⟩
      case round =>
       obtain ⟨s,hs,rfl,HI⟩:=hrel;obtain ⟨U,hU⟩:∃ U,wr=U:=⟨_,rfl⟩;subst wr;have hxv:=HI.out.2.1
       by_cases hlt:s < l.length
       · obtain ⟨e,he,heE⟩:=HGE.out s hlt;have hcs:=HCELL.out s hlt _ hxv;rw [he] at hcs;have hsc:¬ c=s:=by omega
         have HSTEP:Hid (∀ t:Nat,s < t->t<=l.length->(∀ a (ha:a < l.length),s<=a->a < t->l[a].2.get ((j'+1:Nat):Int)=e)->(∀ (ha:t < l.length),l[t].2.get ((j'+1:Nat):Int) ≠ e)->Calls Tryz.prog 71 #[.slice (some (ad.add (s * 6))) (t - s) (c - s),.int .i64 j'] U (fun e2 w2=>∃ A0 n0 c0 A1 n1 c1,e2=.returned (plV (bco j' l e) (.slice A0 n0 c0) (.slice A1 n1 c1))/\(∃ u0 u1 B0 m0 d0 B1 m1 d1,w2.cell? ⟨w.heap.size+1,e * 4,none⟩=some (.int .i64 u0)/\w2.cell? ⟨w.heap.size+1,e * 4+1,none⟩=some (.bool u1)/\w2.cell? ⟨w.heap.size+1,e * 4+2,none⟩=some (.slice B0 m0 d0)/\w2.cell? ⟨w.heap.size+1,e * 4+3,none⟩=some (.slice B1 m1 d1))/\(∀ i,w2.frozen? ⟨w.heap.size+1,i,none⟩=false)/\uah W (fun b=>w.heap.size+1<=b) (w.heap.size+1) j' E l t ((((w2.setCell ⟨w.heap.size+1,e * 4,none⟩ (.int .i64 (bco j' l e).lv)).setCell ⟨w.heap.size+1,e * 4+1,none⟩ (.bool (bco j' l e).neg)).setCell ⟨w.heap.size+1,e * 4+2,none⟩ (.slice A0 n0 c0)).setCell ⟨w.heap.size+1,e * 4+3,none⟩ (.slice A1 n1 c1)))):=by
          intro t hst ht hmid haft;obtain ⟨-,hg⟩:=HI.out.group HOK2.out (by omega) hst ht hmid haft;have hsub:((l.drop s).take (t - s)).length=t - s:=by rw [List.length_take,List.length_drop]; omega
          have hcall:=IH.out j' (by omega) ((l.drop s).take (t - s)) (some (ad.add (s * 6))) (c - s) U (HAT.out.sub s (t - s) (by omega)) (by omega) (by omega) (by rw [<- hg]; exact HOK2.out.part _) ((HX0.out.trans HWX.out).trans hxv);rw [hsub,<- hg,show bld j' (l.filter fun x=>decide (x.2.get ((j'+1:Nat):Int)=Int.ofNat e))=bco j' l e from rfl] at hcall;refine hcall.mono ?_;rintro e2 w2 ⟨v2,rfl,p2,x2⟩;obtain ⟨A0,n0,c0,A1,c1,e3,-⟩:=id p2.open_;subst e3;obtain ⟨k1,k2,k3⟩:=HI.out.step (by omega) HOK2.out (by omega) hst ht heE hmid haft x2 p2;exact ⟨_,_,_,_,_,_,rfl,k1,k2,k3⟩
         have HCE:=Lib.hid (fun k hk=>HCELL.out k hk _ hxv);have HSE:=Lib.hid he;have hwre:(⟨w.heap.size+1,0,none⟩:Addr).add (e * 4)=⟨w.heap.size+1,e * 4,none⟩:=by rw [gp,Nat.zero_add]
         clear HGE HI hxv he;go_wp2_with fail
         go_loopw [8] (fun tv wv=>∃ t:Nat,s<=t/\t<=l.length/\tv=.int .i64 t/\wv=U/\Hid (∀ a (ha:a < l.length),s<=a->a < t->l[a].2.get ((j'+1:Nat):Int)=e)) (fun tv _=>l.length - (intOf tv).toNat)
         case atStart=>exact ⟨s,Nat.le_refl _,hs,rfl,rfl,fun a ha h1 h2=>by omega⟩
         case round =>
          obtain ⟨t,hst,ht,rfl,hwv,HMID⟩:=hrel;subst wr
          by_cases htl:t < l.length
          · have hct:=HCE.out t htl
            by_cases het:l[t].2.get ((j'+1:Nat):Int)=e
            · rw [het] at hct;have HM2:Hid (∀ a (ha:a < l.length),s<=a->a < t+1->l[a].2.get ((j'+1:Nat):Int)=e):=fun a ha h1 h2=>by
               by_cases hat:a=t
               · subst hat; exact het
               · exact HMID.out a ha h1 (by omega)
              clear het;go_wp2_with fail
              go_roundw
              case rel=>exact ⟨t+1,by omega,by omega,by go_num,trivial,HM2⟩
              case measure=>simp [intOf]; omega
            · have hst':s < t:=by
               rcases Nat.lt_or_ge s t with h | h
               · exact h
               · obtain rfl:s=t:=by omega
                 exact absurd HSE.out het
              have haft:∀ (ha:t < l.length),l[t].2.get ((j'+1:Nat):Int) ≠ e:=fun _=>het
              have hq:(l[t].2.get ((j'+1:Nat):Int) == (e:Int))=false:=by rw [Bool.eq_false_iff]; intro h; exact het (beq_iff_eq.1 h)
              generalize hX:l[t].2.get ((j'+1:Nat):Int)=X at hct hq;have hcall:=HSTEP.out t hst' ht HMID.out haft;have HCALL:=Lib.hid hcall;clear hcall HSTEP HCE HMID HSE;have htc:(t:Int)<=c:=by omega
              go_wp2_with fail;refine HCALL.out.mono ?_;rintro e2 w2 ⟨A0,n0,c0,A1,n2,c2,rfl,⟨u0,u1,B0,m0,d0,B2,m1,d1,r0,r1,r2,r3⟩,rf,hinv⟩;have HINV:=Lib.hid hinv;generalize bco j' l e=P at *;unfold plV;clear hinv HCALL;go_wp2_with fail
              go_roundw
              case rel=>exact ⟨t,ht,rfl,HINV⟩
              case measure=>simp [intOf]; omega
          · have hst':s < t:=by omega
            have haft:∀ (ha:t < l.length),l[t].2.get ((j'+1:Nat):Int) ≠ e:=fun h=>absurd h htl
            have hcall:=HSTEP.out t hst' ht HMID.out haft;have HCALL:=Lib.hid hcall;clear hcall HSTEP HCE HMID HSE;have htc:(t:Int)<=c:=by omega
            go_wp2_with fail;refine HCALL.out.mono ?_;rintro e2 w2 ⟨A0,n0,c0,A1,n2,c2,rfl,⟨u0,u1,B0,m0,d0,B2,m1,d1,r0,r1,r2,r3⟩,rf,hinv⟩;have HINV:=Lib.hid hinv;generalize bco j' l e=P at *;unfold plV;clear hinv HCALL;go_wp2_with fail
            go_roundw
            case rel=>exact ⟨t,ht,rfl,HINV⟩
            case measure=>simp [intOf]; omega
       · have hsl:s=l.length:=by omega
         rw [hsl] at HI;have hfin:=HI.out.fin.fin (Nat.le_refl _);obtain ⟨⟨z0,z1,z2,z3⟩,zf⟩:=HZ.out.ext hxv (by omega);have hll:((List.range (E+1)).map (bco j' l)).length=E+1:=by simp
         have hpl:=PlV.mk (t:=.mk (j'+1:Nat) false [] ((List.range (E+1)).map (bco j' l))) (c:=E+1) (jb.nil U) (by simp only [Pl.cs]; omega) (by omega) hfin;simp only [Pl.cs,hll] at hpl;have hf:=jf (q':=fun b=>w.heap.size<=b) (HWX.out.trans hxv) (Nat.le_refl _) (HZ.out.ext hxv (by omega)) hpl (fun b _ hb=>⟨by omega,by omega⟩);have hf2:=yg.congr HB.out hf;simp only [Pl.lv,Pl.neg] at hf2;rw [<- HJ.out] at hf2;have HF:=Lib.hid hf2;clear hf hf2 hpl hfin hll HI HB hxv;go_wp2_with fail;exact bodyPost_ret (v:=plV (.mk (j:Int) false [] ((List.range (E+1)).map (bco j' l))) (.slice none 0 0) (.slice (some ⟨w.heap.size+1,0,none⟩) (E+1) (E+1))) (by simp [results,Tryz.results71,go_sem,z0,z1,z2,z3,plV,Pl.lv,Pl.neg]) rfl HF.out
theorem vcn (w0:World) (n:Nat):n<=4->xb5 w0 n:=by
 induction n using Nat.strongRecOn with
 | _ n ih=>exact fun h=>jb4 w0 n h (fun m hm=>ih m hm (by omega))
/- Layer 22: recpoly.collect. -/
set_option maxRecDepth 100000
set_option maxHeartbeats 8000000
theorem qbc (m:Mo) (l e:Int) (a b:List Pl):yc m l e (a ++ b)=yc m l e a ++ yc m l (e+a.length) b:=by
 induction a generalizing e with
 | nil=>simp [yc]
 | cons x r ih =>
   simp only [List.cons_append,yc,ih,List.append_assoc,List.length_cons];rw [show e+1+(r.length:Int)=e+((r.length+1:Nat):Int) by omega]
theorem vbn (m:Mo) (l e:Int) (cs:List Pl) (k:Nat) (hk:k < cs.length):yc m l e (cs.take (k+1))=yc m l e (cs.take k) ++ cs[k].terms (m.put l (e+k)):=by
 rw [List.take_succ_eq_append_getElem hk,qbc,List.length_take,Nat.min_eq_left (by omega)];simp only [yc,List.append_nil]
theorem kau (l:List Pl) (k:Nat) (hk:k < l.length):qi (l.take k)+l[k].sz+qi (l.drop (k+1))=qi l:=by
 have h2:qi l=qi (l.take k)+qi (l.drop k):=by rw [<- ua4,List.take_append_drop]
 rw [h2,zb9 l k hk]; omega
theorem Mo.put_get (m:Mo) (l:Int):m.put l (m.get l)=m:=by
 unfold Mo.put Mo.get; split <;> (try split) <;> (try split) <;> rfl
def kai (k:Option Nat) (base:Nat) (tv:Value) (l:Sp) (w:World) (e:Ending) (w':World):Prop:=
 ∃ tv',e=.returned tv'/\TsV k base w' tv' l/\w.grownBy w' tv.ownBlock/\(∀ v ds,jb w v ds->jb w' v ds)/\(tv'.ownBlock=tv.ownBlock\/∀ R,tv'.ownBlock=some R->w.heap.size<=R)
def ubb (w0:World) (q:Nat->Prop) (L n:Nat):Prop:=∀ (p:Pl) (v:Value) (m:Mo) (E:Int) (l:Sp) (tv:Value) (w:World),p.sz < n->p.dm<=L->PlV w0 q p v->Ext w0 w->TsV (some L) w0.heap.size w tv l->m.nonneg->m.le E->E+p.sz<=4611686018427387904->l.length+p.sz<=1099511627776->Calls Tryz.prog 183 #[tv,v,moV m] w (kai (some L) w0.heap.size tv (l ++ p.terms m) w)
theorem ybr {w0 w:World} {q:Nat->Prop} {L:Nat} (p:Pl) (v:Value) (m:Mo) (l:Sp) (tv:Value) (hdm:p.dm<=L) (h:PlV w0 q p v) (hx0:Ext w0 w) (ht:TsV (some L) w0.heap.size w tv l) (hlen:l.length+p.sz<=1099511627776) (hl:p.lv<=0):Calls Tryz.prog 183 #[tv,v,moV m] w (kai (some L) w0.heap.size tv (l ++ p.terms m) w):=by
 have hds:=p.dm_ds;have hsz:=p.sz_len;obtain ⟨A0,n0,c0,A,c,rfl,hnat,hl1,hl2,h4⟩:=h.open_;obtain ⟨lv,ng,ds,cs⟩:=p;simp only [Pl.cs,Pl.ds,Pl.lv,Pl.neg,plV] at *;have hte:(Pl.mk lv ng ds cs).terms m=[(sgn ng (val ds),m)]:=by rw [Pl.terms,if_pos hl]
 rw [hte];obtain ⟨W,hW⟩:∃ W,(w.alloc (.cells #[.int .i64 lv,.bool ng,.slice A0 n0 c0,.slice A cs.length c] 42)).alloc (.cells #[.int .i64 m.a,.int .i64 m.b,.int .i64 m.c,.int .i64 m.d] 188)=W:=⟨_,rfl⟩;have hWx:Ext w W:=by rw [<- hW]; exact ((Ext.refl w).alloc _).alloc _
 have hWs:W.heap.size=w.heap.size+1+1:=by rw [<- hW]; simp
 have hbx:zg W w.heap.size (.mk lv ng ds cs) (.slice A0 n0 c0) (.slice A cs.length c):=by rw [<- hW]; exact (zg.new w (.mk lv ng ds cs) _ _ _).ext ((Ext.refl _).alloc _) (by simp)
 have hmx:qx W (w.heap.size+1) m:=by
  have:=qx.new (w.alloc (.cells #[.int .i64 lv,.bool ng,.slice A0 n0 c0,.slice A cs.length c] 42)) m 188;rw [hW] at this;simpa using this
 obtain ⟨b0,b1,b2,b3⟩:=hbx;obtain ⟨d0,d1,d2,d3⟩:=hmx;simp only [Pl.lv,Pl.neg] at b0 b1;have hx0s:=hx0.size;have hcf:Cf W (some L) (.agg #[.bool ng,.slice A0 n0 c0]) (sgn ng (val ds)):=⟨ng,_,ds,rfl,hnat.ext (hx0.trans hWx),rfl,by omega⟩;obtain ⟨v4,w4,hrun,t4,g4,n4,o4⟩:=(ht.ext hWx).push (by have:=hWx.size; omega) hcf m (by omega) 66;have HF:Hid (kai (some L) w0.heap.size tv (l ++ [(sgn ng (val ds),m)]) w (.returned v4) w4):=by
  refine ⟨v4,rfl,t4,⟨g4.os.trans hWx.below.os,g4.tape.trans hWx.below.tape,g4.output.trans hWx.below.output,Nat.le_trans hWx.size g4.size,fun i hi hne=>(World.grownBy.block g4 i (Nat.lt_of_lt_of_le hi hWx.size) hne).trans (hWx.below.block i hi)⟩,fun v ds hv=>n4 v ds (hv.ext hWx),?_⟩;rcases o4 with o4 | o4
  · exact .inl o4
  · right
    intro R hR;rw [o4] at hR;injection hR with hR
    have:=hWx.size;omega
 have hlq:decide (lv<=0)=true:=decide_eq_true hl;obtain ⟨At,ct,rfl,-,-⟩:=ht.len;clear t4 g4 n4 o4 ht h hnat h4 hcf;unfold moV;rw [hWs] at hrun;go_enter Tryz.func183,Tryz.ntmps183
 go_wp2_with (at_builtin
              refine wpList_append_run rfl (.tmp 14) (.tmp 19) _ _ rfl _ _ _ _ rfl rfl hrun ?_)
 clear hrun;go_ret;exact HF.out
theorem xbr {w0 w:World} {q:Nat->Prop} {L:Nat} (p:Pl) (v:Value) (m:Mo) (l:Sp) (tv:Value) (h:PlV w0 q p v) (hx0:Ext w0 w) (ht:TsV (some L) w0.heap.size w tv l) (hl:4 < p.lv):Calls Tryz.prog 183 #[tv,v,moV m] w (kai (some L) w0.heap.size tv (l ++ p.terms m) w):=by
 obtain ⟨A0,n0,c0,A,c,rfl,hnat,hl1,hl2,h4⟩:=h.open_;obtain ⟨lv,ng,ds,cs⟩:=p;simp only [Pl.cs,Pl.ds,Pl.lv,Pl.neg,plV] at *;have hte:(Pl.mk lv ng ds cs).terms m=[]:=by rw [Pl.terms,if_neg (by omega),if_pos hl]
 rw [hte,List.append_nil];have HF:Hid (∀ o o',kai (some L) w0.heap.size tv l w (.returned tv) ((w.alloc o).alloc o')):=fun o o'=>by
  have hWx:Ext w ((w.alloc o).alloc o'):=((Ext.refl w).alloc _).alloc _;refine ⟨tv,rfl,ht.ext hWx,⟨hWx.below.os,hWx.below.tape,hWx.below.output,hWx.size,fun i hi _=>hWx.below.block i hi⟩,fun v ds hv=>hv.ext hWx,.inl rfl⟩
 have hlq:decide (lv<=0)=false:=decide_eq_false (by omega);have hlq2:decide (lv > 4)=true:=decide_eq_true (by omega);obtain ⟨At,ct,rfl,-,-⟩:=ht.len;clear ht h hnat h4;unfold moV;go_enter Tryz.func183,Tryz.ntmps183;go_wp2_with fail;go_ret;exact HF.out _ _
def uag (w0 w:World) (L:Nat) (p:Pl) (s A:Value) (m:Mo) (tv:Value) (l0:Sp) (k:Nat) (tvk:Value) (wr:World):Prop:=
 TsV (some L) w0.heap.size wr tvk (l0 ++ yc m p.lv (m.get p.lv) (p.cs.take k))/\(∃ e,qx wr (w.heap.size+1) (m.put p.lv e))/\(∀ i,wr.frozen? ⟨w.heap.size+1,i,none⟩=false)/\zg wr w.heap.size p s A/\w.grownBy wr tv.ownBlock/\(∀ v ds,jb w v ds->jb wr v ds)/\(tvk.ownBlock=tv.ownBlock\/∀ R,tvk.ownBlock=some R->w.heap.size+2<=R)/\w.heap.size+2<=wr.heap.size
theorem uag.ext0 {w0 w:World} {L:Nat} {p:Pl} {s A:Value} {m:Mo} {tv:Value} {l0 l1:Sp} {k:Nat} {tvk:Value} {wr:World} (h:uag w0 w L p s A m tv l0 k tvk wr) (hx:Ext w0 w) (ht:TsV (some L) w0.heap.size w tv l1):Ext w0 wr:=by
 obtain ⟨-,-,-,-,h5,-⟩:=h;exact Below.grown hx h5 hx.size (fun g e=>(ht.own e).1)
theorem qx.set_ {w:World} {g:Nat} {m:Mo} {l e:Int} (h:qx w g (m.put l e)) (hl:l=1\/l=2\/l=3\/l=4) (e':Int):qx (w.setCell ⟨g,(l - 1).toNat,none⟩ (.int .i64 e')) g (m.put l e')/\(∀ v ds,jb w v ds->jb (w.setCell ⟨g,(l - 1).toNat,none⟩ (.int .i64 e')) v ds):=by
 obtain ⟨h0,h1,h2,h3⟩:=h;rcases hl with rfl | rfl | rfl | rfl
 · refine ⟨⟨World.cell?_setCell_same _ _ _ h0,?_,?_,?_⟩,fun v ds hv=>hv.box h0 rfl _⟩ <;> (rw [World.cell?_setCell_other _ _ _ _ (by simp)]; first | exact h1 | exact h2 | exact h3)
 · refine ⟨⟨?_,World.cell?_setCell_same _ _ _ h1,?_,?_⟩,fun v ds hv=>hv.box h1 rfl _⟩ <;> (rw [World.cell?_setCell_other _ _ _ _ (by simp)]; first | exact h0 | exact h2 | exact h3)
 · refine ⟨⟨?_,?_,World.cell?_setCell_same _ _ _ h2,?_⟩,fun v ds hv=>hv.box h2 rfl _⟩ <;> (rw [World.cell?_setCell_other _ _ _ _ (by simp)]; first | exact h0 | exact h1 | exact h3)
 · refine ⟨⟨?_,?_,?_,World.cell?_setCell_same _ _ _ h3⟩,fun v ds hv=>hv.box h3 rfl _⟩ <;> (rw [World.cell?_setCell_other _ _ _ _ (by simp)]; first | exact h0 | exact h1 | exact h2)
theorem uag.step {w0 w:World} {L:Nat} {p:Pl} {s A:Value} {m:Mo} {tv:Value} {l0:Sp} {k:Nat} {tvk:Value} {wr:World} (h:uag w0 w L p s A m tv l0 k tvk wr) (hx:Ext w0 w) (ht:TsV (some L) w0.heap.size w tv l0) (hl:p.lv=1\/p.lv=2\/p.lv=3\/p.lv=4) (hk:k < p.cs.length) (o:Obj) :
 ∀ W1,W1=(wr.alloc o).setCell ⟨w.heap.size+1,(p.lv - 1).toNat,none⟩ (.int .i64 (m.get p.lv+k))->TsV (some L) w0.heap.size W1 tvk (l0 ++ yc m p.lv (m.get p.lv) (p.cs.take k))/\qx W1 (w.heap.size+1) (m.put p.lv (m.get p.lv+k))/\Ext w0 W1/\(∀ i,W1.cell? ⟨wr.heap.size,i,none⟩=(wr.alloc o).cell? ⟨wr.heap.size,i,none⟩) /\
   ∀ e w2,kai (some L) w0.heap.size tvk ((l0 ++ yc m p.lv (m.get p.lv) (p.cs.take k)) ++ p.cs[k].terms (m.put p.lv (m.get p.lv+k))) W1 e w2->∃ tv2 A2 c2,e=.returned tv2/\tv2=.slice A2 (l0 ++ yc m p.lv (m.get p.lv) (p.cs.take (k+1))).length c2/\uag w0 w L p s A m tv l0 (k+1) tv2 w2:=by
 intro W1 hW1;have hx0:=h.ext0 hx ht;obtain ⟨h1,⟨e,h2⟩,h3,h4,h5,h6,h7,h8⟩:=h;have hxa:Ext wr (wr.alloc o):=(Ext.refl wr).alloc o;obtain ⟨m1,m2⟩:=(h2.ext hxa (by omega)).set_ hl (m.get p.lv+k);rw [<- hW1] at m1 m2;have hsz:W1.heap.size=wr.heap.size+1:=by rw [hW1]; simp [World.setCell]
 have hown:∀ R,tvk.ownBlock=some R->R ≠ w.heap.size+1/\R ≠ w.heap.size/\R < wr.heap.size:=by
  intro R hR;have hlt:=(h1.own hR).2;rcases h7 with h7 | h7
  · rw [h7] at hR;have:=(ht.own hR).2;omega
  · have:=h7 R hR; omega
 have hblk:∀ b,b ≠ w.heap.size+1->b < wr.heap.size->W1.heap[b]?=wr.heap[b]?:=fun b hb hlt=>by
  rw [hW1,Below.heap_setCell _ _ _ b hb];exact hxa.below.block b hlt
 have hnat:∀ v ds,jb wr v ds->jb W1 v ds:=fun v ds hv=>m2 v ds (hv.ext hxa)
 have hxs:=hx.size;refine ⟨h1.turn (fun R hR=>hblk R (hown R hR).1 (hown R hR).2.2) hnat,m1,?_,?_,?_⟩
 · rw [hW1]; exact (hx0.alloc o).setCell (by show w0.heap.size<=w.heap.size+1; omega) _
 · intro i;rw [hW1,World.cell?_setCell_other _ _ _ _ (by intro e; injection e; omega)]
 · rintro e w2 ⟨tv2,rfl,t2,g2,n2,o2⟩;rw [List.append_assoc,<- vbn _ _ _ _ k hk] at t2;have hg2:=g2.size;obtain ⟨A2,c2,e2,-,-⟩:=t2.len;have hkeep:∀ b,b < W1.heap.size->tvk.ownBlock ≠ some b->w2.heap[b]?=W1.heap[b]?:=fun b hb hne=>World.grownBy.block g2 b hb (fun e=>hne e.symm)
   refine ⟨tv2,A2,c2,rfl,e2,t2,⟨_,m1.turn (hkeep _ (by omega) (fun e=>(hown _ e).1 rfl))⟩,fun i=>?_,h4.turn ((hkeep _ (by omega) (fun e=>(hown _ e).2.1 rfl)).trans (hblk _ (by omega) (by omega))),⟨?_,?_,?_,by omega,fun b hb hne=>?_⟩,fun v ds hv=>n2 v ds (hnat v ds (h6 v ds hv)),?_,by omega⟩
   · have:w2.frozen? ⟨w.heap.size+1,i,none⟩=W1.frozen? ⟨w.heap.size+1,i,none⟩:=World.frozen?_of_block (a:=⟨w.heap.size+1,i,none⟩) (hkeep _ (by show w.heap.size+1 < _; omega) (fun e=>(hown _ e).1 rfl));rw [this,hW1,World.frozen?_setCell,hxa.frozen (p:=⟨w.heap.size+1,i,none⟩) (by show w.heap.size+1 < _; omega)];exact h3 i
   · rw [g2.os,hW1]; exact h5.os
   · rw [g2.tape,hW1]; exact h5.tape
   · rw [g2.output,hW1]; exact h5.output
   · have hgs:=h5.size
     by_cases hbk:tvk.ownBlock=some b
     · rcases h7 with h7 | h7
       · exact absurd (h7.symm.trans hbk).symm hne
       · have:=h7 b hbk; omega
     · rw [hkeep b (by omega) hbk,hblk b (by omega) (by omega)];exact World.grownBy.block h5 b hb hne
   · rcases o2 with o2 | o2
     · rcases h7 with h7 | h7
       · exact .inl (o2.trans h7)
       · exact .inr (fun R hR=>h7 R (o2.symm.trans hR))
     · exact .inr (fun R hR=>by have:=o2 R hR; omega)
/- Layer 22: recpoly.collect: the loop, once for each level; the whole. -/
set_option maxRecDepth 100000
set_option maxHeartbeats 8000000
theorem zbw {w0 w:World} {q:Nat->Prop} {L n:Nat} (ih:ubb w0 q L n) (p:Pl) (v:Value) (m:Mo) (E:Int) (l:Sp) (tv:Value) (hn:p.sz < n+1) (hdm:p.dm<=L) (h:PlV w0 q p v) (hx0:Ext w0 w) (ht:TsV (some L) w0.heap.size w tv l) (hm:m.nonneg) (hE:m.le E) (hES:E+p.sz<=4611686018427387904) (hlen:l.length+p.sz<=1099511627776) (hl:p.lv=1):Calls Tryz.prog 183 #[tv,v,moV m] w (kai (some L) w0.heap.size tv (l ++ p.terms m) w):=by
 have HTV:=Lib.hid ht;have HX0:=Lib.hid hx0;have IH:=Lib.hid ih;obtain ⟨A0,n0,c0,A,c,rfl,hnat,hl1,hl2,h4⟩:=h.open_;obtain ⟨lv,ng,ds,cs⟩:=p
 change lv=1 at hl
 subst hl;simp only [Pl.cs,Pl.ds,Pl.lv,Pl.neg,plV] at *;have hte:(Pl.mk 1 ng ds cs).terms m=yc m 1 (m.get 1) cs:=by rw [Pl.terms,if_neg (by omega),if_neg (by omega)]
 rw [hte];have hszp:(Pl.mk 1 ng ds cs).sz=qi cs+1:=by rw [Pl.sz]
 have hdmp:jad cs<=(Pl.mk 1 ng ds cs).dm:=by rw [Pl.dm]; exact Nat.le_max_right _ _
 have H4:=Lib.hid h4;have hgm:0<=m.a/\m.a<=E:=⟨by unfold Mo.nonneg at hm; omega,by unfold Mo.le at hE; omega⟩;have hlb:=waf cs;have HARG:Hid (∀ k (hk:k < cs.length),cs[k].sz < n/\cs[k].dm<=L/\(m.put 1 (m.get 1+k)).nonneg/\(m.put 1 (m.get 1+k)).le (E+k)/\E+k+cs[k].sz<=4611686018427387904/\(l ++ yc m 1 (m.get 1) (cs.take k)).length+cs[k].sz<=1099511627776):=by
  have:∀ k (hk:k < cs.length),cs[k].sz < n/\cs[k].dm<=L/\(m.put 1 (m.get 1+k)).nonneg/\(m.put 1 (m.get 1+k)).le (E+k)/\E+k+cs[k].sz<=4611686018427387904/\(l ++ yc m 1 (m.get 1) (cs.take k)).length+cs[k].sz<=1099511627776:=fun k hk=>by
   have h1:=gal (List.getElem_mem hk);have h2:=xat (List.getElem_mem hk);have h3:=yai (cs.take k) m 1 (m.get 1);have h5:=kau cs k hk;have h6:=waf (cs.take k);rw [List.length_take] at h6;have hg:m.get 1=m.a:=rfl;exact ⟨by omega,by omega,Mo.put_nonneg hm (by omega),(hE.mono (by omega)).put _ _ (by omega),by omega,by rw [List.length_append]; omega⟩
  exact this
 obtain ⟨W,hW⟩:∃ W,(w.alloc (.cells #[.int .i64 1,.bool ng,.slice A0 n0 c0,.slice A cs.length c] 42)).alloc (.cells #[.int .i64 m.a,.int .i64 m.b,.int .i64 m.c,.int .i64 m.d] 188)=W:=⟨_,rfl⟩;have hWx:Ext w W:=by rw [<- hW]; exact ((Ext.refl w).alloc _).alloc _
 have hWs:W.heap.size=w.heap.size+1+1:=by rw [<- hW]; simp
 have hbx:zg W w.heap.size (.mk 1 ng ds cs) (.slice A0 n0 c0) (.slice A cs.length c):=by rw [<- hW]; exact (zg.new w (.mk 1 ng ds cs) _ _ _).ext ((Ext.refl _).alloc _) (by simp)
 have hmx:qx W (w.heap.size+1) m:=by
  have:=qx.new (w.alloc (.cells #[.int .i64 1,.bool ng,.slice A0 n0 c0,.slice A cs.length c] 42)) m 188;rw [hW] at this;simpa using this
 have hmf:∀ i,W.frozen? ⟨w.heap.size+1,i,none⟩=false:=fun i=>by rw [<- hW]; simp [go_sem]
 have HI0:Hid (uag w0 w L (.mk 1 ng ds cs) (.slice A0 n0 c0) (.slice A cs.length c) m tv l 0 tv W):=by
  refine ⟨?_,⟨m.get 1,?_⟩,hmf,hbx,⟨hWx.below.os,hWx.below.tape,hWx.below.output,hWx.size,fun i hi _=>hWx.below.block i hi⟩,fun v ds hv=>hv.ext hWx,.inl rfl,by omega⟩
  · simp only [Pl.cs,List.take_zero,yc,List.append_nil]; exact ht.ext hWx
  · rw [show (Pl.mk 1 ng ds cs).lv=1 from rfl,Mo.put_get]; exact hmx
 obtain ⟨b0,b1,b2,b3⟩:=hbx;obtain ⟨d0,d1,d2,d3⟩:=hmx;simp only [Pl.lv,Pl.neg] at b0 b1;obtain ⟨At,ct,rfl,-,-⟩:=ht.len;have hcb:cs.length<=1099511627776:=by omega
 have HE:=Lib.hid hES;clear ht h hnat h4 hWx ih hx0 hm hE hte hdmp hlb hmf hdm;unfold moV;go_enter Tryz.func183,Tryz.ntmps183;go_wp2_with fail;clear hW b0 b1 b2 b3 d0 d1 d2 d3
 go_loopw [0,34] (fun tvk iv wr=>∃ k:Nat,k<=cs.length/\iv=.int .i64 k/\(∃ Ak ck,tvk=.slice Ak (l.length+(yc m 1 (m.get 1) (cs.take k)).length) ck)/\Hid (uag w0 w L (.mk 1 ng ds cs) (.slice A0 n0 c0) (.slice A cs.length c) m (.slice At l.length ct) l k tvk wr)) (fun _ iv _=>cs.length - (intOf iv).toNat)
 case atStart=>exact ⟨0,Nat.zero_le _,rfl,⟨At,ct,by rw [List.take_zero,yc,List.length_nil,Nat.add_zero]⟩,HI0⟩
 case round =>
  obtain ⟨k,hk,rfl,⟨Ak,ck,rfl⟩,HI⟩:=hrel;have hx:=HI.out.ext0 HX0.out HTV.out;obtain ⟨-,⟨e,d0,d1,d2,d3⟩,hfr,⟨b0,b1,b2,b3⟩,-,-,-,hwz⟩:=id HI.out;simp only [Pl.lv,Pl.neg] at b0 b1 d0 d1 d2 d3
  by_cases hlt:k < cs.length
  · obtain ⟨ad,B0,m0,e0,B1,m1,e1,rfl,hadb,hnd,hkt⟩:=jd.kid H4.out k hlt;obtain ⟨a0,a1,a2,a3⟩:=hnd.ext hx (by rw [ja]; exact hadb);obtain ⟨q1,q2,q3,q4,q5,q6⟩:=HARG.out k hlt;have hstep:=HI.out.step HX0.out HTV.out (by simp [Pl.lv]) hlt (.cells #[.int .i64 cs[k].lv,.bool cs[k].neg,.slice B0 m0 e0,.slice B1 m1 e1] 42) _ rfl;obtain ⟨s1,s2,s3,s4,s5⟩:=hstep;have HC:=Lib.hid (IH.out cs[k] _ _ _ _ _ _ q1 q2 (hkt) s3 s1 q3 q4 q5 q6);have S5:=Lib.hid s5;obtain ⟨W1,hW1⟩:∃ W1,(wr.alloc (.cells #[.int .i64 cs[k].lv,.bool cs[k].neg,.slice B0 m0 e0,.slice B1 m1 e1] 42)).setCell ⟨w.heap.size+1,0,none⟩ (.int .i64 (m.a+k))=W1:=⟨_,rfl⟩;have hW1':(wr.alloc (.cells #[.int .i64 cs[k].lv,.bool cs[k].neg,.slice B0 m0 e0,.slice B1 m1 e1] 42)).setCell ⟨w.heap.size+1,((Pl.mk 1 ng ds cs).lv - 1).toNat,none⟩ (.int .i64 (m.get (Pl.mk 1 ng ds cs).lv+k))=W1:=hW1;rw [hW1'] at s2 s4 S5 HC;have t0:W1.cell? ⟨wr.heap.size,0,none⟩=some (.int .i64 cs[k].lv):=by rw [s4]; simp [go_sem]
    have t1:W1.cell? ⟨wr.heap.size,1,none⟩=some (.bool cs[k].neg):=by rw [s4]; simp [go_sem]
    have t2:W1.cell? ⟨wr.heap.size,2,none⟩=some (.slice B0 m0 e0):=by rw [s4]; simp [go_sem]
    have t3:W1.cell? ⟨wr.heap.size,3,none⟩=some (.slice B1 m1 e1):=by rw [s4]; simp [go_sem]
    obtain ⟨x0,x1,x2,x3⟩:=s2;have HS1:=Lib.hid hW1;clear hnd hkt hadb q1 q2 q3 q4 q5 q6 s1 s3 s4 s5 hx hW1'
    change W1.cell? ⟨w.heap.size+1,0,none⟩=some (.int .i64 (m.a+k)) at x0
    change W1.cell? ⟨w.heap.size+1,1,none⟩=some (.int .i64 m.b) at x1
    change W1.cell? ⟨w.heap.size+1,2,none⟩=some (.int .i64 m.c) at x2
    change W1.cell? ⟨w.heap.size+1,3,none⟩=some (.int .i64 m.d) at x3
    simp only [Pl.lv,Pl.cs] at HC S5;have hws:w.heap.size < wr.heap.size:=by omega
    have hws1:w.heap.size+1 < wr.heap.size:=by omega
    have hwr:IntKind.i64.wrap (m.a+k)=m.a+k:=by rw [IntKind.wrap_i64]; omega
    generalize cs[k]=ckk at *;go_wp2_with fail;refine HC.out.mono ?_;rintro e w2 hret;obtain ⟨tv2,A2,c2,rfl,e2,hinv⟩:=S5.out _ _ hret;rw [List.length_append] at e2;subst e2;have HN:=Lib.hid hinv;clear hret hinv HC S5 HS1 hW1 t0 t1 t2 t3 x0 x1 x2 x3 a0 a1 a2 a3 d0 d1 d2 d3 b0 b1 b2 b3 hfr;go_wp2_with fail
    go_roundw
    case rel=>exact ⟨k+1,by omega,by go_num,⟨A2,c2,rfl⟩,HN⟩
    case measure=>simp [intOf]; omega
  · have hke:k=cs.length:=by omega
    have htk:cs.take k=cs:=by rw [hke,List.take_length]
    rw [htk] at HI;rw [htk];have HF:Hid (kai (some L) w0.heap.size (.slice At l.length ct) (l ++ yc m 1 (m.get 1) cs) w (.returned (.slice Ak (l.length+(yc m 1 (m.get 1) cs).length) ck)) wr):=by
     obtain ⟨h1,-,-,-,h5,h6,h7,-⟩:=HI.out;simp only [Pl.cs,Pl.lv,htk] at h1;exact ⟨_,rfl,h1,h5,h6,h7.imp id (fun h R hR=>by have:=h R hR; omega)⟩
    clear hx hfr HI htk hke;go_wp2_with fail;go_ret;exact HF.out
theorem wbv {w0 w:World} {q:Nat->Prop} {L n:Nat} (ih:ubb w0 q L n) (p:Pl) (v:Value) (m:Mo) (E:Int) (l:Sp) (tv:Value) (hn:p.sz < n+1) (hdm:p.dm<=L) (h:PlV w0 q p v) (hx0:Ext w0 w) (ht:TsV (some L) w0.heap.size w tv l) (hm:m.nonneg) (hE:m.le E) (hES:E+p.sz<=4611686018427387904) (hlen:l.length+p.sz<=1099511627776) (hl:p.lv=2):Calls Tryz.prog 183 #[tv,v,moV m] w (kai (some L) w0.heap.size tv (l ++ p.terms m) w):=by
 have HTV:=Lib.hid ht;have HX0:=Lib.hid hx0;have IH:=Lib.hid ih;obtain ⟨A0,n0,c0,A,c,rfl,hnat,hl1,hl2,h4⟩:=h.open_;obtain ⟨lv,ng,ds,cs⟩:=p
 change lv=2 at hl
 subst hl;simp only [Pl.cs,Pl.ds,Pl.lv,Pl.neg,plV] at *;have hte:(Pl.mk 2 ng ds cs).terms m=yc m 2 (m.get 2) cs:=by rw [Pl.terms,if_neg (by omega),if_neg (by omega)]
 rw [hte];have hszp:(Pl.mk 2 ng ds cs).sz=qi cs+1:=by rw [Pl.sz]
 have hdmp:jad cs<=(Pl.mk 2 ng ds cs).dm:=by rw [Pl.dm]; exact Nat.le_max_right _ _
 have H4:=Lib.hid h4;have hgm:0<=m.b/\m.b<=E:=⟨by unfold Mo.nonneg at hm; omega,by unfold Mo.le at hE; omega⟩;have hlb:=waf cs;have HARG:Hid (∀ k (hk:k < cs.length),cs[k].sz < n/\cs[k].dm<=L/\(m.put 2 (m.get 2+k)).nonneg/\(m.put 2 (m.get 2+k)).le (E+k)/\E+k+cs[k].sz<=4611686018427387904/\(l ++ yc m 2 (m.get 2) (cs.take k)).length+cs[k].sz<=1099511627776):=by
  have:∀ k (hk:k < cs.length),cs[k].sz < n/\cs[k].dm<=L/\(m.put 2 (m.get 2+k)).nonneg/\(m.put 2 (m.get 2+k)).le (E+k)/\E+k+cs[k].sz<=4611686018427387904/\(l ++ yc m 2 (m.get 2) (cs.take k)).length+cs[k].sz<=1099511627776:=fun k hk=>by
   have h1:=gal (List.getElem_mem hk);have h2:=xat (List.getElem_mem hk);have h3:=yai (cs.take k) m 2 (m.get 2);have h5:=kau cs k hk;have h6:=waf (cs.take k);rw [List.length_take] at h6;have hg:m.get 2=m.b:=rfl;exact ⟨by omega,by omega,Mo.put_nonneg hm (by omega),(hE.mono (by omega)).put _ _ (by omega),by omega,by rw [List.length_append]; omega⟩
  exact this
 obtain ⟨W,hW⟩:∃ W,(w.alloc (.cells #[.int .i64 2,.bool ng,.slice A0 n0 c0,.slice A cs.length c] 42)).alloc (.cells #[.int .i64 m.a,.int .i64 m.b,.int .i64 m.c,.int .i64 m.d] 188)=W:=⟨_,rfl⟩;have hWx:Ext w W:=by rw [<- hW]; exact ((Ext.refl w).alloc _).alloc _
 have hWs:W.heap.size=w.heap.size+1+1:=by rw [<- hW]; simp
 have hbx:zg W w.heap.size (.mk 2 ng ds cs) (.slice A0 n0 c0) (.slice A cs.length c):=by rw [<- hW]; exact (zg.new w (.mk 2 ng ds cs) _ _ _).ext ((Ext.refl _).alloc _) (by simp)
 have hmx:qx W (w.heap.size+1) m:=by
  have:=qx.new (w.alloc (.cells #[.int .i64 2,.bool ng,.slice A0 n0 c0,.slice A cs.length c] 42)) m 188;rw [hW] at this;simpa using this
 have hmf:∀ i,W.frozen? ⟨w.heap.size+1,i,none⟩=false:=fun i=>by rw [<- hW]; simp [go_sem]
 have HI0:Hid (uag w0 w L (.mk 2 ng ds cs) (.slice A0 n0 c0) (.slice A cs.length c) m tv l 0 tv W):=by
  refine ⟨?_,⟨m.get 2,?_⟩,hmf,hbx,⟨hWx.below.os,hWx.below.tape,hWx.below.output,hWx.size,fun i hi _=>hWx.below.block i hi⟩,fun v ds hv=>hv.ext hWx,.inl rfl,by omega⟩
  · simp only [Pl.cs,List.take_zero,yc,List.append_nil]; exact ht.ext hWx
  · rw [show (Pl.mk 2 ng ds cs).lv=2 from rfl,Mo.put_get]; exact hmx
 obtain ⟨b0,b1,b2,b3⟩:=hbx;obtain ⟨d0,d1,d2,d3⟩:=hmx;simp only [Pl.lv,Pl.neg] at b0 b1;obtain ⟨At,ct,rfl,-,-⟩:=ht.len;have hcb:cs.length<=1099511627776:=by omega
 have HE:=Lib.hid hES;clear ht h hnat h4 hWx ih hx0 hm hE hte hdmp hlb hmf hdm;unfold moV;go_enter Tryz.func183,Tryz.ntmps183;go_wp2_with fail;clear hW b0 b1 b2 b3 d0 d1 d2 d3
 go_loopw [0,34] (fun tvk iv wr=>∃ k:Nat,k<=cs.length/\iv=.int .i64 k/\(∃ Ak ck,tvk=.slice Ak (l.length+(yc m 2 (m.get 2) (cs.take k)).length) ck)/\Hid (uag w0 w L (.mk 2 ng ds cs) (.slice A0 n0 c0) (.slice A cs.length c) m (.slice At l.length ct) l k tvk wr)) (fun _ iv _=>cs.length - (intOf iv).toNat)
 case atStart=>exact ⟨0,Nat.zero_le _,rfl,⟨At,ct,by rw [List.take_zero,yc,List.length_nil,Nat.add_zero]⟩,HI0⟩
 case round =>
  obtain ⟨k,hk,rfl,⟨Ak,ck,rfl⟩,HI⟩:=hrel;have hx:=HI.out.ext0 HX0.out HTV.out;obtain ⟨-,⟨e,d0,d1,d2,d3⟩,hfr,⟨b0,b1,b2,b3⟩,-,-,-,hwz⟩:=id HI.out;simp only [Pl.lv,Pl.neg] at b0 b1 d0 d1 d2 d3
  by_cases hlt:k < cs.length
  · obtain ⟨ad,B0,m0,e0,B1,m1,e1,rfl,hadb,hnd,hkt⟩:=jd.kid H4.out k hlt;obtain ⟨a0,a1,a2,a3⟩:=hnd.ext hx (by rw [ja]; exact hadb);obtain ⟨q1,q2,q3,q4,q5,q6⟩:=HARG.out k hlt;have hstep:=HI.out.step HX0.out HTV.out (by simp [Pl.lv]) hlt (.cells #[.int .i64 cs[k].lv,.bool cs[k].neg,.slice B0 m0 e0,.slice B1 m1 e1] 42) _ rfl;obtain ⟨s1,s2,s3,s4,s5⟩:=hstep;have HC:=Lib.hid (IH.out cs[k] _ _ _ _ _ _ q1 q2 (hkt) s3 s1 q3 q4 q5 q6);have S5:=Lib.hid s5;obtain ⟨W1,hW1⟩:∃ W1,(wr.alloc (.cells #[.int .i64 cs[k].lv,.bool cs[k].neg,.slice B0 m0 e0,.slice B1 m1 e1] 42)).setCell ⟨w.heap.size+1,1,none⟩ (.int .i64 (m.b+k))=W1:=⟨_,rfl⟩;have hW1':(wr.alloc (.cells #[.int .i64 cs[k].lv,.bool cs[k].neg,.slice B0 m0 e0,.slice B1 m1 e1] 42)).setCell ⟨w.heap.size+1,((Pl.mk 2 ng ds cs).lv - 1).toNat,none⟩ (.int .i64 (m.get (Pl.mk 2 ng ds cs).lv+k))=W1:=hW1;rw [hW1'] at s2 s4 S5 HC;have t0:W1.cell? ⟨wr.heap.size,0,none⟩=some (.int .i64 cs[k].lv):=by rw [s4]; simp [go_sem]
    have t1:W1.cell? ⟨wr.heap.size,1,none⟩=some (.bool cs[k].neg):=by rw [s4]; simp [go_sem]
    have t2:W1.cell? ⟨wr.heap.size,2,none⟩=some (.slice B0 m0 e0):=by rw [s4]; simp [go_sem]
    have t3:W1.cell? ⟨wr.heap.size,3,none⟩=some (.slice B1 m1 e1):=by rw [s4]; simp [go_sem]
    obtain ⟨x0,x1,x2,x3⟩:=s2;have HS1:=Lib.hid hW1;clear hnd hkt hadb q1 q2 q3 q4 q5 q6 s1 s3 s4 s5 hx hW1'
    change W1.cell? ⟨w.heap.size+1,0,none⟩=some (.int .i64 m.a) at x0
    change W1.cell? ⟨w.heap.size+1,1,none⟩=some (.int .i64 (m.b+k)) at x1
    change W1.cell? ⟨w.heap.size+1,2,none⟩=some (.int .i64 m.c) at x2
    change W1.cell? ⟨w.heap.size+1,3,none⟩=some (.int .i64 m.d) at x3
    simp only [Pl.lv,Pl.cs] at HC S5;have hws:w.heap.size < wr.heap.size:=by omega
    have hws1:w.heap.size+1 < wr.heap.size:=by omega
    have hwr:IntKind.i64.wrap (m.b+k)=m.b+k:=by rw [IntKind.wrap_i64]; omega
    generalize cs[k]=ckk at *;go_wp2_with fail;refine HC.out.mono ?_;rintro e w2 hret;obtain ⟨tv2,A2,c2,rfl,e2,hinv⟩:=S5.out _ _ hret;rw [List.length_append] at e2;subst e2;have HN:=Lib.hid hinv;clear hret hinv HC S5 HS1 hW1 t0 t1 t2 t3 x0 x1 x2 x3 a0 a1 a2 a3 d0 d1 d2 d3 b0 b1 b2 b3 hfr;go_wp2_with fail
    go_roundw
    case rel=>exact ⟨k+1,by omega,by go_num,⟨A2,c2,rfl⟩,HN⟩
    case measure=>simp [intOf]; omega
  · have hke:k=cs.length:=by omega
    have htk:cs.take k=cs:=by rw [hke,List.take_length]
    rw [htk] at HI;rw [htk];have HF:Hid (kai (some L) w0.heap.size (.slice At l.length ct) (l ++ yc m 2 (m.get 2) cs) w (.returned (.slice Ak (l.length+(yc m 2 (m.get 2) cs).length) ck)) wr):=by
     obtain ⟨h1,-,-,-,h5,h6,h7,-⟩:=HI.out;simp only [Pl.cs,Pl.lv,htk] at h1;exact ⟨_,rfl,h1,h5,h6,h7.imp id (fun h R hR=>by have:=h R hR; omega)⟩
    clear hx hfr HI htk hke;go_wp2_with fail;go_ret;exact HF.out
theorem gbv {w0 w:World} {q:Nat->Prop} {L n:Nat} (ih:ubb w0 q L n) (p:Pl) (v:Value) (m:Mo) (E:Int) (l:Sp) (tv:Value) (hn:p.sz < n+1) (hdm:p.dm<=L) (h:PlV w0 q p v) (hx0:Ext w0 w) (ht:TsV (some L) w0.heap.size w tv l) (hm:m.nonneg) (hE:m.le E) (hES:E+p.sz<=4611686018427387904) (hlen:l.length+p.sz<=1099511627776) (hl:p.lv=3):Calls Tryz.prog 183 #[tv,v,moV m] w (kai (some L) w0.heap.size tv (l ++ p.terms m) w):=by
 have HTV:=Lib.hid ht;have HX0:=Lib.hid hx0;have IH:=Lib.hid ih;obtain ⟨A0,n0,c0,A,c,rfl,hnat,hl1,hl2,h4⟩:=h.open_;obtain ⟨lv,ng,ds,cs⟩:=p
 change lv=3 at hl
 subst hl;simp only [Pl.cs,Pl.ds,Pl.lv,Pl.neg,plV] at *;have hte:(Pl.mk 3 ng ds cs).terms m=yc m 3 (m.get 3) cs:=by rw [Pl.terms,if_neg (by omega),if_neg (by omega)]
 rw [hte];have hszp:(Pl.mk 3 ng ds cs).sz=qi cs+1:=by rw [Pl.sz]
 have hdmp:jad cs<=(Pl.mk 3 ng ds cs).dm:=by rw [Pl.dm]; exact Nat.le_max_right _ _
 have H4:=Lib.hid h4;have hgm:0<=m.c/\m.c<=E:=⟨by unfold Mo.nonneg at hm; omega,by unfold Mo.le at hE; omega⟩;have hlb:=waf cs;have HARG:Hid (∀ k (hk:k < cs.length),cs[k].sz < n/\cs[k].dm<=L/\(m.put 3 (m.get 3+k)).nonneg/\(m.put 3 (m.get 3+k)).le (E+k)/\E+k+cs[k].sz<=4611686018427387904/\(l ++ yc m 3 (m.get 3) (cs.take k)).length+cs[k].sz<=1099511627776):=by
  have:∀ k (hk:k < cs.length),cs[k].sz < n/\cs[k].dm<=L/\(m.put 3 (m.get 3+k)).nonneg/\(m.put 3 (m.get 3+k)).le (E+k)/\E+k+cs[k].sz<=4611686018427387904/\(l ++ yc m 3 (m.get 3) (cs.take k)).length+cs[k].sz<=1099511627776:=fun k hk=>by
   have h1:=gal (List.getElem_mem hk);have h2:=xat (List.getElem_mem hk);have h3:=yai (cs.take k) m 3 (m.get 3);have h5:=kau cs k hk;have h6:=waf (cs.take k);rw [List.length_take] at h6;have hg:m.get 3=m.c:=rfl;exact ⟨by omega,by omega,Mo.put_nonneg hm (by omega),(hE.mono (by omega)).put _ _ (by omega),by omega,by rw [List.length_append]; omega⟩
  exact this
 obtain ⟨W,hW⟩:∃ W,(w.alloc (.cells #[.int .i64 3,.bool ng,.slice A0 n0 c0,.slice A cs.length c] 42)).alloc (.cells #[.int .i64 m.a,.int .i64 m.b,.int .i64 m.c,.int .i64 m.d] 188)=W:=⟨_,rfl⟩;have hWx:Ext w W:=by rw [<- hW]; exact ((Ext.refl w).alloc _).alloc _
 have hWs:W.heap.size=w.heap.size+1+1:=by rw [<- hW]; simp
 have hbx:zg W w.heap.size (.mk 3 ng ds cs) (.slice A0 n0 c0) (.slice A cs.length c):=by rw [<- hW]; exact (zg.new w (.mk 3 ng ds cs) _ _ _).ext ((Ext.refl _).alloc _) (by simp)
 have hmx:qx W (w.heap.size+1) m:=by
  have:=qx.new (w.alloc (.cells #[.int .i64 3,.bool ng,.slice A0 n0 c0,.slice A cs.length c] 42)) m 188;rw [hW] at this;simpa using this
 have hmf:∀ i,W.frozen? ⟨w.heap.size+1,i,none⟩=false:=fun i=>by rw [<- hW]; simp [go_sem]
 have HI0:Hid (uag w0 w L (.mk 3 ng ds cs) (.slice A0 n0 c0) (.slice A cs.length c) m tv l 0 tv W):=by
  refine ⟨?_,⟨m.get 3,?_⟩,hmf,hbx,⟨hWx.below.os,hWx.below.tape,hWx.below.output,hWx.size,fun i hi _=>hWx.below.block i hi⟩,fun v ds hv=>hv.ext hWx,.inl rfl,by omega⟩
  · simp only [Pl.cs,List.take_zero,yc,List.append_nil]; exact ht.ext hWx
  · rw [show (Pl.mk 3 ng ds cs).lv=3 from rfl,Mo.put_get]; exact hmx
 obtain ⟨b0,b1,b2,b3⟩:=hbx;obtain ⟨d0,d1,d2,d3⟩:=hmx;simp only [Pl.lv,Pl.neg] at b0 b1;obtain ⟨At,ct,rfl,-,-⟩:=ht.len;have hcb:cs.length<=1099511627776:=by omega
 have HE:=Lib.hid hES;clear ht h hnat h4 hWx ih hx0 hm hE hte hdmp hlb hmf hdm;unfold moV;go_enter Tryz.func183,Tryz.ntmps183;go_wp2_with fail;clear hW b0 b1 b2 b3 d0 d1 d2 d3
 go_loopw [0,34] (fun tvk iv wr=>∃ k:Nat,k<=cs.length/\iv=.int .i64 k/\(∃ Ak ck,tvk=.slice Ak (l.length+(yc m 3 (m.get 3) (cs.take k)).length) ck)/\Hid (uag w0 w L (.mk 3 ng ds cs) (.slice A0 n0 c0) (.slice A cs.length c) m (.slice At l.length ct) l k tvk wr)) (fun _ iv _=>cs.length - (intOf iv).toNat)
 case atStart=>exact ⟨0,Nat.zero_le _,rfl,⟨At,ct,by rw [List.take_zero,yc,List.length_nil,Nat.add_zero]⟩,HI0⟩
 case round =>
  obtain ⟨k,hk,rfl,⟨Ak,ck,rfl⟩,HI⟩:=hrel;have hx:=HI.out.ext0 HX0.out HTV.out;obtain ⟨-,⟨e,d0,d1,d2,d3⟩,hfr,⟨b0,b1,b2,b3⟩,-,-,-,hwz⟩:=id HI.out;simp only [Pl.lv,Pl.neg] at b0 b1 d0 d1 d2 d3
  by_cases hlt:k < cs.length
  · obtain ⟨ad,B0,m0,e0,B1,m1,e1,rfl,hadb,hnd,hkt⟩:=jd.kid H4.out k hlt;obtain ⟨a0,a1,a2,a3⟩:=hnd.ext hx (by rw [ja]; exact hadb);obtain ⟨q1,q2,q3,q4,q5,q6⟩:=HARG.out k hlt;have hstep:=HI.out.step HX0.out HTV.out (by simp [Pl.lv]) hlt (.cells #[.int .i64 cs[k].lv,.bool cs[k].neg,.slice B0 m0 e0,.slice B1 m1 e1] 42) _ rfl;obtain ⟨s1,s2,s3,s4,s5⟩:=hstep;have HC:=Lib.hid (IH.out cs[k] _ _ _ _ _ _ q1 q2 (hkt) s3 s1 q3 q4 q5 q6);have S5:=Lib.hid s5;obtain ⟨W1,hW1⟩:∃ W1,(wr.alloc (.cells #[.int .i64 cs[k].lv,.bool cs[k].neg,.slice B0 m0 e0,.slice B1 m1 e1] 42)).setCell ⟨w.heap.size+1,2,none⟩ (.int .i64 (m.c+k))=W1:=⟨_,rfl⟩;have hW1':(wr.alloc (.cells #[.int .i64 cs[k].lv,.bool cs[k].neg,.slice B0 m0 e0,.slice B1 m1 e1] 42)).setCell ⟨w.heap.size+1,((Pl.mk 3 ng ds cs).lv - 1).toNat,none⟩ (.int .i64 (m.get (Pl.mk 3 ng ds cs).lv+k))=W1:=hW1;rw [hW1'] at s2 s4 S5 HC;have t0:W1.cell? ⟨wr.heap.size,0,none⟩=some (.int .i64 cs[k].lv):=by rw [s4]; simp [go_sem]
    have t1:W1.cell? ⟨wr.heap.size,1,none⟩=some (.bool cs[k].neg):=by rw [s4]; simp [go_sem]
    have t2:W1.cell? ⟨wr.heap.size,2,none⟩=some (.slice B0 m0 e0):=by rw [s4]; simp [go_sem]
    have t3:W1.cell? ⟨wr.heap.size,3,none⟩=some (.slice B1 m1 e1):=by rw [s4]; simp [go_sem]
    obtain ⟨x0,x1,x2,x3⟩:=s2;have HS1:=Lib.hid hW1;clear hnd hkt hadb q1 q2 q3 q4 q5 q6 s1 s3 s4 s5 hx hW1'
    change W1.cell? ⟨w.heap.size+1,0,none⟩=some (.int .i64 m.a) at x0
    change W1.cell? ⟨w.heap.size+1,1,none⟩=some (.int .i64 m.b) at x1
    change W1.cell? ⟨w.heap.size+1,2,none⟩=some (.int .i64 (m.c+k)) at x2
    change W1.cell? ⟨w.heap.size+1,3,none⟩=some (.int .i64 m.d) at x3
    simp only [Pl.lv,Pl.cs] at HC S5;have hws:w.heap.size < wr.heap.size:=by omega
    have hws1:w.heap.size+1 < wr.heap.size:=by omega
    have hwr:IntKind.i64.wrap (m.c+k)=m.c+k:=by rw [IntKind.wrap_i64]; omega
    generalize cs[k]=ckk at *;go_wp2_with fail;refine HC.out.mono ?_;rintro e w2 hret;obtain ⟨tv2,A2,c2,rfl,e2,hinv⟩:=S5.out _ _ hret;rw [List.length_append] at e2;subst e2;have HN:=Lib.hid hinv;clear hret hinv HC S5 HS1 hW1 t0 t1 t2 t3 x0 x1 x2 x3 a0 a1 a2 a3 d0 d1 d2 d3 b0 b1 b2 b3 hfr;go_wp2_with fail
    go_roundw
    case rel=>exact ⟨k+1,by omega,by go_num,⟨A2,c2,rfl⟩,HN⟩
    case measure=>simp [intOf]; omega
  · have hke:k=cs.length:=by omega
    have htk:cs.take k=cs:=by rw [hke,List.take_length]
    rw [htk] at HI;rw [htk];have HF:Hid (kai (some L) w0.heap.size (.slice At l.length ct) (l ++ yc m 3 (m.get 3) cs) w (.returned (.slice Ak (l.length+(yc m 3 (m.get 3) cs).length) ck)) wr):=by
     obtain ⟨h1,-,-,-,h5,h6,h7,-⟩:=HI.out;simp only [Pl.cs,Pl.lv,htk] at h1;exact ⟨_,rfl,h1,h5,h6,h7.imp id (fun h R hR=>by have:=h R hR; omega)⟩
    clear hx hfr HI htk hke;go_wp2_with fail;go_ret;exact HF.out
theorem ubv {w0 w:World} {q:Nat->Prop} {L n:Nat} (ih:ubb w0 q L n) (p:Pl) (v:Value) (m:Mo) (E:Int) (l:Sp) (tv:Value) (hn:p.sz < n+1) (hdm:p.dm<=L) (h:PlV w0 q p v) (hx0:Ext w0 w) (ht:TsV (some L) w0.heap.size w tv l) (hm:m.nonneg) (hE:m.le E) (hES:E+p.sz<=4611686018427387904) (hlen:l.length+p.sz<=1099511627776) (hl:p.lv=4):Calls Tryz.prog 183 #[tv,v,moV m] w (kai (some L) w0.heap.size tv (l ++ p.terms m) w):=by
 have HTV:=Lib.hid ht;have HX0:=Lib.hid hx0;have IH:=Lib.hid ih;obtain ⟨A0,n0,c0,A,c,rfl,hnat,hl1,hl2,h4⟩:=h.open_;obtain ⟨lv,ng,ds,cs⟩:=p
 change lv=4 at hl
 subst hl;simp only [Pl.cs,Pl.ds,Pl.lv,Pl.neg,plV] at *;have hte:(Pl.mk 4 ng ds cs).terms m=yc m 4 (m.get 4) cs:=by rw [Pl.terms,if_neg (by omega),if_neg (by omega)]
 rw [hte];have hszp:(Pl.mk 4 ng ds cs).sz=qi cs+1:=by rw [Pl.sz]
 have hdmp:jad cs<=(Pl.mk 4 ng ds cs).dm:=by rw [Pl.dm]; exact Nat.le_max_right _ _
 have H4:=Lib.hid h4;have hgm:0<=m.d/\m.d<=E:=⟨by unfold Mo.nonneg at hm; omega,by unfold Mo.le at hE; omega⟩;have hlb:=waf cs;have HARG:Hid (∀ k (hk:k < cs.length),cs[k].sz < n/\cs[k].dm<=L/\(m.put 4 (m.get 4+k)).nonneg/\(m.put 4 (m.get 4+k)).le (E+k)/\E+k+cs[k].sz<=4611686018427387904/\(l ++ yc m 4 (m.get 4) (cs.take k)).length+cs[k].sz<=1099511627776):=by
  have:∀ k (hk:k < cs.length),cs[k].sz < n/\cs[k].dm<=L/\(m.put 4 (m.get 4+k)).nonneg/\(m.put 4 (m.get 4+k)).le (E+k)/\E+k+cs[k].sz<=4611686018427387904/\(l ++ yc m 4 (m.get 4) (cs.take k)).length+cs[k].sz<=1099511627776:=fun k hk=>by
   have h1:=gal (List.getElem_mem hk);have h2:=xat (List.getElem_mem hk);have h3:=yai (cs.take k) m 4 (m.get 4);have h5:=kau cs k hk;have h6:=waf (cs.take k);rw [List.length_take] at h6;have hg:m.get 4=m.d:=rfl;exact ⟨by omega,by omega,Mo.put_nonneg hm (by omega),(hE.mono (by omega)).put _ _ (by omega),by omega,by rw [List.length_append]; omega⟩
  exact this
 obtain ⟨W,hW⟩:∃ W,(w.alloc (.cells #[.int .i64 4,.bool ng,.slice A0 n0 c0,.slice A cs.length c] 42)).alloc (.cells #[.int .i64 m.a,.int .i64 m.b,.int .i64 m.c,.int .i64 m.d] 188)=W:=⟨_,rfl⟩;have hWx:Ext w W:=by rw [<- hW]; exact ((Ext.refl w).alloc _).alloc _
 have hWs:W.heap.size=w.heap.size+1+1:=by rw [<- hW]; simp
 have hbx:zg W w.heap.size (.mk 4 ng ds cs) (.slice A0 n0 c0) (.slice A cs.length c):=by rw [<- hW]; exact (zg.new w (.mk 4 ng ds cs) _ _ _).ext ((Ext.refl _).alloc _) (by simp)
 have hmx:qx W (w.heap.size+1) m:=by
  have:=qx.new (w.alloc (.cells #[.int .i64 4,.bool ng,.slice A0 n0 c0,.slice A cs.length c] 42)) m 188;rw [hW] at this;simpa using this
 have hmf:∀ i,W.frozen? ⟨w.heap.size+1,i,none⟩=false:=fun i=>by rw [<- hW]; simp [go_sem]
 have HI0:Hid (uag w0 w L (.mk 4 ng ds cs) (.slice A0 n0 c0) (.slice A cs.length c) m tv l 0 tv W):=by
  refine ⟨?_,⟨m.get 4,?_⟩,hmf,hbx,⟨hWx.below.os,hWx.below.tape,hWx.below.output,hWx.size,fun i hi _=>hWx.below.block i hi⟩,fun v ds hv=>hv.ext hWx,.inl rfl,by omega⟩
  · simp only [Pl.cs,List.take_zero,yc,List.append_nil]; exact ht.ext hWx
  · rw [show (Pl.mk 4 ng ds cs).lv=4 from rfl,Mo.put_get]; exact hmx
 obtain ⟨b0,b1,b2,b3⟩:=hbx;obtain ⟨d0,d1,d2,d3⟩:=hmx;simp only [Pl.lv,Pl.neg] at b0 b1;obtain ⟨At,ct,rfl,-,-⟩:=ht.len;have hcb:cs.length<=1099511627776:=by omega
 have HE:=Lib.hid hES;clear ht h hnat h4 hWx ih hx0 hm hE hte hdmp hlb hmf hdm;unfold moV;go_enter Tryz.func183,Tryz.ntmps183;go_wp2_with fail;clear hW b0 b1 b2 b3 d0 d1 d2 d3
 go_loopw [0,34] (fun tvk iv wr=>∃ k:Nat,k<=cs.length/\iv=.int .i64 k/\(∃ Ak ck,tvk=.slice Ak (l.length+(yc m 4 (m.get 4) (cs.take k)).length) ck)/\Hid (uag w0 w L (.mk 4 ng ds cs) (.slice A0 n0 c0) (.slice A cs.length c) m (.slice At l.length ct) l k tvk wr)) (fun _ iv _=>cs.length - (intOf iv).toNat)
 case atStart=>exact ⟨0,Nat.zero_le _,rfl,⟨At,ct,by rw [List.take_zero,yc,List.length_nil,Nat.add_zero]⟩,HI0⟩
 case round =>
  obtain ⟨k,hk,rfl,⟨Ak,ck,rfl⟩,HI⟩:=hrel;have hx:=HI.out.ext0 HX0.out HTV.out;obtain ⟨-,⟨e,d0,d1,d2,d3⟩,hfr,⟨b0,b1,b2,b3⟩,-,-,-,hwz⟩:=id HI.out;simp only [Pl.lv,Pl.neg] at b0 b1 d0 d1 d2 d3
  by_cases hlt:k < cs.length
  · obtain ⟨ad,B0,m0,e0,B1,m1,e1,rfl,hadb,hnd,hkt⟩:=jd.kid H4.out k hlt;obtain ⟨a0,a1,a2,a3⟩:=hnd.ext hx (by rw [ja]; exact hadb);obtain ⟨q1,q2,q3,q4,q5,q6⟩:=HARG.out k hlt;have hstep:=HI.out.step HX0.out HTV.out (by simp [Pl.lv]) hlt (.cells #[.int .i64 cs[k].lv,.bool cs[k].neg,.slice B0 m0 e0,.slice B1 m1 e1] 42) _ rfl;obtain ⟨s1,s2,s3,s4,s5⟩:=hstep;have HC:=Lib.hid (IH.out cs[k] _ _ _ _ _ _ q1 q2 (hkt) s3 s1 q3 q4 q5 q6);have S5:=Lib.hid s5;obtain ⟨W1,hW1⟩:∃ W1,(wr.alloc (.cells #[.int .i64 cs[k].lv,.bool cs[k].neg,.slice B0 m0 e0,.slice B1 m1 e1] 42)).setCell ⟨w.heap.size+1,3,none⟩ (.int .i64 (m.d+k))=W1:=⟨_,rfl⟩;have hW1':(wr.alloc (.cells #[.int .i64 cs[k].lv,.bool cs[k].neg,.slice B0 m0 e0,.slice B1 m1 e1] 42)).setCell ⟨w.heap.size+1,((Pl.mk 4 ng ds cs).lv - 1).toNat,none⟩ (.int .i64 (m.get (Pl.mk 4 ng ds cs).lv+k))=W1:=hW1;rw [hW1'] at s2 s4 S5 HC;have t0:W1.cell? ⟨wr.heap.size,0,none⟩=some (.int .i64 cs[k].lv):=by rw [s4]; simp [go_sem]
    have t1:W1.cell? ⟨wr.heap.size,1,none⟩=some (.bool cs[k].neg):=by rw [s4]; simp [go_sem]
    have t2:W1.cell? ⟨wr.heap.size,2,none⟩=some (.slice B0 m0 e0):=by rw [s4]; simp [go_sem]
    have t3:W1.cell? ⟨wr.heap.size,3,none⟩=some (.slice B1 m1 e1):=by rw [s4]; simp [go_sem]
    obtain ⟨x0,x1,x2,x3⟩:=s2;have HS1:=Lib.hid hW1;clear hnd hkt hadb q1 q2 q3 q4 q5 q6 s1 s3 s4 s5 hx hW1'
    change W1.cell? ⟨w.heap.size+1,0,none⟩=some (.int .i64 m.a) at x0
    change W1.cell? ⟨w.heap.size+1,1,none⟩=some (.int .i64 m.b) at x1
    change W1.cell? ⟨w.heap.size+1,2,none⟩=some (.int .i64 m.c) at x2
    change W1.cell? ⟨w.heap.size+1,3,none⟩=some (.int .i64 (m.d+k)) at x3
    simp only [Pl.lv,Pl.cs] at HC S5;have hws:w.heap.size < wr.heap.size:=by omega
    have hws1:w.heap.size+1 < wr.heap.size:=by omega
    have hwr:IntKind.i64.wrap (m.d+k)=m.d+k:=by rw [IntKind.wrap_i64]; omega
    generalize cs[k]=ckk at *;go_wp2_with fail;refine HC.out.mono ?_;rintro e w2 hret;obtain ⟨tv2,A2,c2,rfl,e2,hinv⟩:=S5.out _ _ hret;rw [List.length_append] at e2;subst e2;have HN:=Lib.hid hinv;clear hret hinv HC S5 HS1 hW1 t0 t1 t2 t3 x0 x1 x2 x3 a0 a1 a2 a3 d0 d1 d2 d3 b0 b1 b2 b3 hfr;go_wp2_with fail
    go_roundw
    case rel=>exact ⟨k+1,by omega,by go_num,⟨A2,c2,rfl⟩,HN⟩
    case measure=>simp [intOf]; omega
  · have hke:k=cs.length:=by omega
    have htk:cs.take k=cs:=by rw [hke,List.take_length]
    rw [htk] at HI;rw [htk];have HF:Hid (kai (some L) w0.heap.size (.slice At l.length ct) (l ++ yc m 4 (m.get 4) cs) w (.returned (.slice Ak (l.length+(yc m 4 (m.get 4) cs).length) ck)) wr):=by
     obtain ⟨h1,-,-,-,h5,h6,h7,-⟩:=HI.out;simp only [Pl.cs,Pl.lv,htk] at h1;exact ⟨_,rfl,h1,h5,h6,h7.imp id (fun h R hR=>by have:=h R hR; omega)⟩
    clear hx hfr HI htk hke;go_wp2_with fail;go_ret;exact HF.out
theorem qb4 (w0:World) (q:Nat->Prop) (L n:Nat):ubb w0 q L n:=by
 induction n with
 | zero=>intro p v m E l tv w h; omega
 | succ n ih =>
   intro p v m E l tv w hn hdm h hx0 ht hm hE hES hlen
   by_cases h0:p.lv<=0
   · exact ybr p v m l tv hdm h hx0 ht hlen h0
   · by_cases h4:4 < p.lv
     · exact xbr p v m l tv h hx0 ht h4
     · rcases (show p.lv=1\/p.lv=2\/p.lv=3\/p.lv=4 by omega) with h1 | h1 | h1 | h1
       · exact zbw ih p v m E l tv hn hdm h hx0 ht hm hE hES hlen h1
       · exact wbv ih p v m E l tv hn hdm h hx0 ht hm hE hES hlen h1
       · exact gbv ih p v m E l tv hn hdm h hx0 ht hm hE hES hlen h1
       · exact ubv ih p v m E l tv hn hdm h hx0 ht hm hE hES hlen h1
theorem wa5 {w:World} {q:Nat->Prop} (p:Pl) (v:Value) (L:Nat) (hdm:p.dm<=L) (hsz:p.sz<=1099511627776) (h:PlV w q p v):Calls Tryz.prog 183 #[.slice none 0 0,v,moV Mo.one] w fun e w'=>∃ tv,e=.returned tv/\TsV (some L) w.heap.size w' tv (p.terms Mo.one)/\Ext w w':=
 (qb4 w q L (p.sz+1) p v Mo.one 0 [] (.slice none 0 0) w (Nat.lt_succ_self _) hdm h (Ext.refl w) (TsV.nil _ _ _) Mo.one_nonneg Mo.one_le (by omega) (by simpa using hsz)).mono fun e w' ⟨tv,he,h1,h2,_,_⟩=>⟨tv,he,by simpa using h1,⟨h2.os,h2.tape,h2.output,h2.size,fun i hi=>h2.block i hi (by simp [Value.ownBlock])⟩⟩
end Go.Proofs.YtaedbimbbeploaaGreatDoor
