/- Layer 20: sparse.negative, cmp.Compare, sparse.CompareMono. -/
import Derived.Test.YtcfcjabgkfehlaaGreatMf33
import Derived.Sort.Grow
import Derived.Test.YtcfcjabgkfehlaaGreatInt3
set_option linter.unusedSimpArgs false
set_option linter.unusedVariables false
set_option maxRecDepth 100000
set_option maxHeartbeats 8000000
namespace Go.Proofs.YtcfcjabgkfehlaaGreat
open Go.RowKit Go.Sort
theorem vcg (a b c d:Int) (w:World):(Instr.index 93 (.agg #[.int .i64 a,.int .i64 b,.int .i64 c,.int .i64 d]) (.int .i64 0)).run Tryz.prog w=.ok (.int .i64 a) w/\(Instr.index 93 (.agg #[.int .i64 a,.int .i64 b,.int .i64 c,.int .i64 d]) (.int .i64 1)).run Tryz.prog w=.ok (.int .i64 b) w/\(Instr.index 93 (.agg #[.int .i64 a,.int .i64 b,.int .i64 c,.int .i64 d]) (.int .i64 2)).run Tryz.prog w=.ok (.int .i64 c) w/\(Instr.index 93 (.agg #[.int .i64 a,.int .i64 b,.int .i64 c,.int .i64 d]) (.int .i64 3)).run Tryz.prog w=.ok (.int .i64 d) w:=
 ⟨by kernel_rfl,by kernel_rfl,by kernel_rfl,by kernel_rfl⟩
theorem kat (m:Mo) (w:World):Calls Tryz.prog 142 #[moV m] w fun e w'=>e=.returned (.bool (decide (¬ m.nonneg)))/\Ext w w':=by
 have HX:Hid (∀ o,Ext w (w.alloc o)):=fun o=>(Ext.refl w).alloc o
 obtain ⟨W,hW⟩:∃ W,w.alloc (.cells #[.int .i64 m.a,.int .i64 m.b,.int .i64 m.c,.int .i64 m.d] 93)=W:=⟨_,rfl⟩;have HWX:Hid (Ext w W):=by
  have:Ext w W:=by rw [<- hW]; exact HX.out _
  exact this
 obtain ⟨d0,d1,d2,d3⟩:zx W w.heap.size m:=by rw [<- hW]; exact zx.new w m _
 obtain ⟨i0,i1,i2,i3⟩:=vcg m.a m.b m.c m.d W;unfold moV
 by_cases h0:m.a < 0
 · have HR:Hid (decide (¬ m.nonneg)=true):=by
    have:decide (¬ m.nonneg)=true:=decide_eq_true (by unfold Mo.nonneg; omega);exact this
   have q0:decide (m.a < 0)=true:=decide_eq_true h0;go_enter Tryz.func142,Tryz.ntmps142;go_wp2_with fail;refine wp_loop_rounds 1 ?_;rw [rounds_succ];go_wp2_with fail;go_ret;exact ⟨by rw [HR.out]; rfl,HWX.out⟩
 · have q0:decide (m.a < 0)=false:=decide_eq_false h0
   by_cases h1:m.b < 0
   · have HR:Hid (decide (¬ m.nonneg)=true):=by
      have:decide (¬ m.nonneg)=true:=decide_eq_true (by unfold Mo.nonneg; omega);exact this
     have q1:decide (m.b < 0)=true:=decide_eq_true h1;go_enter Tryz.func142,Tryz.ntmps142;go_wp2_with fail;refine wp_loop_rounds 2 ?_;rw [rounds_succ];go_wp2_with fail;rw [rounds_succ];go_wp2_with fail;go_ret;exact ⟨by rw [HR.out]; rfl,HWX.out⟩
   · have q1:decide (m.b < 0)=false:=decide_eq_false h1
     by_cases h2:m.c < 0
     · have HR:Hid (decide (¬ m.nonneg)=true):=by
        have:decide (¬ m.nonneg)=true:=decide_eq_true (by unfold Mo.nonneg; omega);exact this
       have q2:decide (m.c < 0)=true:=decide_eq_true h2;go_enter Tryz.func142,Tryz.ntmps142;go_wp2_with fail;refine wp_loop_rounds 3 ?_;rw [rounds_succ];go_wp2_with fail;rw [rounds_succ];go_wp2_with fail;rw [rounds_succ];go_wp2_with fail;go_ret;exact ⟨by rw [HR.out]; rfl,HWX.out⟩
     · have q2:decide (m.c < 0)=false:=decide_eq_false h2
       by_cases h3:m.d < 0
       · have HR:Hid (decide (¬ m.nonneg)=true):=by
          have:decide (¬ m.nonneg)=true:=decide_eq_true (by unfold Mo.nonneg; omega);exact this
         have q3:decide (m.d < 0)=true:=decide_eq_true h3;go_enter Tryz.func142,Tryz.ntmps142;go_wp2_with fail;refine wp_loop_rounds 4 ?_;rw [rounds_succ];go_wp2_with fail;rw [rounds_succ];go_wp2_with fail;rw [rounds_succ];go_wp2_with fail;rw [rounds_succ];go_wp2_with fail;go_ret;exact ⟨by rw [HR.out]; rfl,HWX.out⟩
       · have HR:Hid (decide (¬ m.nonneg)=false):=by
          have:decide (¬ m.nonneg)=false:=decide_eq_false (by unfold Mo.nonneg; omega);exact this
         have q3:decide (m.d < 0)=false:=decide_eq_false h3;go_enter Tryz.func142,Tryz.ntmps142;go_wp2_with fail;refine wp_loop_rounds 5 ?_;rw [rounds_succ];go_wp2_with fail;rw [rounds_succ];go_wp2_with fail;rw [rounds_succ];go_wp2_with fail;rw [rounds_succ];go_wp2_with fail;rw [rounds_succ];go_wp2_with fail;go_ret;exact ⟨by rw [HR.out]; rfl,HWX.out⟩
theorem gam (a:Int) (w:World):Calls Tryz.prog 189 #[.int .i64 a] w fun e w'=>e=.returned (.bool false)/\w'=w:=by
 go_enter Tryz.func189,Tryz.ntmps189;go_wp2_with fail;go_ret;simp
theorem uu (a b:Int) (w:World):Calls Tryz.prog 161 #[.int .i64 a,.int .i64 b] w fun e w'=>e=.returned (.int .i64 (xh a b))/\w'=w:=by
 rcases Int.lt_trichotomy a b with h | h | h
 · have q1:decide (a < b)=true:=decide_eq_true h;have HR:=Lib.hid (uaf h);go_enter Tryz.func161,Tryz.ntmps161;go_wp2_with fail;refine (gam _ _).mono ?_;rintro e w1 ⟨rfl,rfl⟩;go_wp2_with fail;refine (gam _ _).mono ?_;rintro e w1 ⟨rfl,rfl⟩;go_wp2_with fail;go_ret;exact ⟨by rw [HR.out]; rfl,rfl⟩
 · have q1:decide (a < b)=false:=decide_eq_false (by omega);have q2:decide (a > b)=false:=decide_eq_false (by omega);have HR:=Lib.hid (vz h);go_enter Tryz.func161,Tryz.ntmps161;go_wp2_with fail;refine (gam _ _).mono ?_;rintro e w1 ⟨rfl,rfl⟩;go_wp2_with fail;refine (gam _ _).mono ?_;rintro e w1 ⟨rfl,rfl⟩;go_wp2_with fail;go_ret;exact ⟨by rw [HR.out]; rfl,rfl⟩
 · have q1:decide (a < b)=false:=decide_eq_false (by omega);have q2:decide (a > b)=true:=decide_eq_true (by omega);have HR:=Lib.hid (wam h);go_enter Tryz.func161,Tryz.ntmps161;go_wp2_with fail;refine (gam _ _).mono ?_;rintro e w1 ⟨rfl,rfl⟩;go_wp2_with fail;refine (gam _ _).mono ?_;rintro e w1 ⟨rfl,rfl⟩;go_wp2_with fail;go_ret;exact ⟨by rw [HR.out]; rfl,rfl⟩
def kax (m n:Mo):Int:=if m.lt n then -1 else if n.lt m then 1 else 0
theorem wci (m n:Mo):kax m n=if m.d ≠ n.d then xh m.d n.d else if m.c ≠ n.c then xh m.c n.c else if m.b ≠ n.b then xh m.b n.b else xh m.a n.a:=by
 unfold kax xh Mo.lt
 repeat' split
 all_goals first | rfl | omega
theorem uav {a b:Int} (h:a ≠ b):(xh a b != 0)=true:=by
 unfold xh; split
 · rfl
 · split
   · rfl
   · omega
theorem yb9 (a:Int):xh a a=0:=vz rfl
theorem wa9 (m n:Mo) (w:World):Calls Tryz.prog 120 #[moV m,moV n] w fun e w'=>e=.returned (.int .i64 (kax m n))/\∃ q os,w'=grow (w.drewN q) os:=by
 have HG:Hid (∀ o o' q,∃ q' os,(((w.alloc o).alloc o').drewN q)=grow (w.drewN q') os):=fun o o' q=>⟨q,#[o] ++ #[o'],by rw [alloc_eq_grow,alloc_eq_grow,grow_grow]; rfl⟩
 obtain ⟨W,hW⟩:∃ W,(w.alloc (.cells #[.int .i64 m.a,.int .i64 m.b,.int .i64 m.c,.int .i64 m.d] 93)).alloc (.cells #[.int .i64 n.a,.int .i64 n.b,.int .i64 n.c,.int .i64 n.d] 93)=W:=⟨_,rfl⟩;have HGW:Hid (∀ q,∃ q' os,W.drewN q=grow (w.drewN q') os):=fun q=>by rw [<- hW]; exact HG.out _ _ q
 have hm:zx W w.heap.size m:=by rw [<- hW]; exact (zx.new w m _).ext ((Ext.refl _).alloc _) (by simp)
 have hn:zx W (w.heap.size+1) n:=by
  have:=zx.new (w.alloc (.cells #[.int .i64 m.a,.int .i64 m.b,.int .i64 m.c,.int .i64 m.d] 93)) n 93;rw [hW] at this;simpa using this
 obtain ⟨d0,d1,d2,d3⟩:=hm;obtain ⟨e0,e1,e2,e3⟩:=hn;have HC:=Lib.hid (wci m n);generalize kax m n=r at *;unfold moV
 by_cases h3:m.d=n.d
 · by_cases h2:m.c=n.c
   · by_cases h1:m.b=n.b
     · by_cases h0:m.a=n.a
       · have HR:Hid (r=0):=by
          have:r=0:=by rw [HC.out,if_neg (fun h=>h h3),if_neg (fun h=>h h2),if_neg (fun h=>h h1),h0,yb9]
          exact this
         have z3:xh m.d n.d=0:=vz h3;have z2:xh m.c n.c=0:=vz h2;have z1:xh m.b n.b=0:=vz h1;have z0:xh m.a n.a=0:=vz h0;clear h3 h2 h1 h0;go_enter Tryz.func120,Tryz.ntmps120;go_wp2_with fail;refine wp_loop_rounds 5 ?_;rw [rounds_succ];go_wp2_with fail
         go_region_held3 (fun W'=>W'=W.drew) (first | rfl | assumption) ((go_at_call 161; refine (uu _ _ _).mono ?_; rintro e v1 ⟨rfl,hv1⟩))
         all_goals
          subst hv1;go_wp2_with fail;rw [rounds_succ];go_wp2_with fail
          go_region_held3 (fun W'=>W'=W.drew.drew) (first | rfl | assumption) ((go_at_call 161; refine (uu _ _ _).mono ?_; rintro e v1 ⟨rfl,hv1⟩))
          all_goals
           subst hv1;go_wp2_with fail;rw [rounds_succ];go_wp2_with fail
           go_region_held3 (fun W'=>W'=W.drew.drew.drew) (first | rfl | assumption) ((go_at_call 161; refine (uu _ _ _).mono ?_; rintro e v1 ⟨rfl,hv1⟩))
           all_goals
            subst hv1;go_wp2_with fail;rw [rounds_succ];go_wp2_with fail
            go_region_held3 (fun W'=>W'=W.drew.drew.drew.drew) (first | rfl | assumption) ((go_at_call 161; refine (uu _ _ _).mono ?_; rintro e v1 ⟨rfl,hv1⟩))
            all_goals
             subst hv1;go_wp2_with fail;rw [rounds_succ];go_wp2_with fail;go_ret;exact ⟨by rw [HR.out]; rfl,HGW.out 4⟩
       · have HR:Hid (r=xh m.a n.a):=by
          have:r=xh m.a n.a:=by rw [HC.out,if_neg (fun h=>h h3),if_neg (fun h=>h h2),if_neg (fun h=>h h1)]
          exact this
         have q0:=uav h0;have z3:xh m.d n.d=0:=vz h3;have z2:xh m.c n.c=0:=vz h2;have z1:xh m.b n.b=0:=vz h1;clear h3 h2 h1;go_enter Tryz.func120,Tryz.ntmps120;go_wp2_with fail;refine wp_loop_rounds 4 ?_;rw [rounds_succ];go_wp2_with fail
         go_region_held3 (fun W'=>W'=W.drew) (first | rfl | assumption) ((go_at_call 161; refine (uu _ _ _).mono ?_; rintro e v1 ⟨rfl,hv1⟩))
         all_goals
          subst hv1;go_wp2_with fail;rw [rounds_succ];go_wp2_with fail
          go_region_held3 (fun W'=>W'=W.drew.drew) (first | rfl | assumption) ((go_at_call 161; refine (uu _ _ _).mono ?_; rintro e v1 ⟨rfl,hv1⟩))
          all_goals
           subst hv1;go_wp2_with fail;rw [rounds_succ];go_wp2_with fail
           go_region_held3 (fun W'=>W'=W.drew.drew.drew) (first | rfl | assumption) ((go_at_call 161; refine (uu _ _ _).mono ?_; rintro e v1 ⟨rfl,hv1⟩))
           all_goals
            subst hv1;go_wp2_with fail;rw [rounds_succ];go_wp2_with fail
            go_region_held3 (fun W'=>W'=W.drew.drew.drew.drew) (first | rfl | assumption) ((go_at_call 161; refine (uu _ _ _).mono ?_; rintro e v1 ⟨rfl,hv1⟩))
            all_goals
             subst hv1;go_wp2_with fail;go_ret;exact ⟨by rw [HR.out]; rfl,HGW.out 4⟩
     · have HR:Hid (r=xh m.b n.b):=by
        have:r=xh m.b n.b:=by rw [HC.out,if_neg (fun h=>h h3),if_neg (fun h=>h h2),if_pos h1]
        exact this
       have q1:=uav h1;have z3:xh m.d n.d=0:=vz h3;have z2:xh m.c n.c=0:=vz h2;clear h3 h2;go_enter Tryz.func120,Tryz.ntmps120;go_wp2_with fail;refine wp_loop_rounds 3 ?_;rw [rounds_succ];go_wp2_with fail
       go_region_held3 (fun W'=>W'=W.drew) (first | rfl | assumption) ((go_at_call 161; refine (uu _ _ _).mono ?_; rintro e v1 ⟨rfl,hv1⟩))
       all_goals
        subst hv1;go_wp2_with fail;rw [rounds_succ];go_wp2_with fail
        go_region_held3 (fun W'=>W'=W.drew.drew) (first | rfl | assumption) ((go_at_call 161; refine (uu _ _ _).mono ?_; rintro e v1 ⟨rfl,hv1⟩))
        all_goals
         subst hv1;go_wp2_with fail;rw [rounds_succ];go_wp2_with fail
         go_region_held3 (fun W'=>W'=W.drew.drew.drew) (first | rfl | assumption) ((go_at_call 161; refine (uu _ _ _).mono ?_; rintro e v1 ⟨rfl,hv1⟩))
         all_goals
          subst hv1;go_wp2_with fail;go_ret;exact ⟨by rw [HR.out]; rfl,HGW.out 3⟩
   · have HR:Hid (r=xh m.c n.c):=by
      have:r=xh m.c n.c:=by rw [HC.out,if_neg (fun h=>h h3),if_pos h2]
      exact this
     have q2:=uav h2;have z3:xh m.d n.d=0:=vz h3;clear h3;go_enter Tryz.func120,Tryz.ntmps120;go_wp2_with fail;refine wp_loop_rounds 2 ?_;rw [rounds_succ];go_wp2_with fail
     go_region_held3 (fun W'=>W'=W.drew) (first | rfl | assumption) ((go_at_call 161; refine (uu _ _ _).mono ?_; rintro e v1 ⟨rfl,hv1⟩))
     all_goals
      subst hv1;go_wp2_with fail;rw [rounds_succ];go_wp2_with fail
      go_region_held3 (fun W'=>W'=W.drew.drew) (first | rfl | assumption) ((go_at_call 161; refine (uu _ _ _).mono ?_; rintro e v1 ⟨rfl,hv1⟩))
      all_goals
       subst hv1;go_wp2_with fail;go_ret;exact ⟨by rw [HR.out]; rfl,HGW.out 2⟩
 · have HR:Hid (r=xh m.d n.d):=by
    have:r=xh m.d n.d:=by rw [HC.out,if_pos h3]
    exact this
   have q3:=uav h3;go_enter Tryz.func120,Tryz.ntmps120;go_wp2_with fail;refine wp_loop_rounds 1 ?_;rw [rounds_succ];go_wp2_with fail
   go_region_held3 (fun W'=>W'=W.drew) (first | rfl | assumption) ((go_at_call 161; refine (uu _ _ _).mono ?_; rintro e v1 ⟨rfl,hv1⟩))
   all_goals
    subst hv1;go_wp2_with fail;go_ret;exact ⟨by rw [HR.out]; rfl,HGW.out 1⟩
/- Layer 20: (*gather).add: the terms collected by their monomials. -/
set_option maxRecDepth 100000
set_option maxHeartbeats 8000000
def qad (c : Int) (m : Mo) : Sp -> Sp
 | []=>[(c,m)]
 | (d,n) :: r=>if m=n then (d+c,n) :: r else (d,n) :: qad c m r
theorem ub7 (c:Int) (m:Mo) (l:Sp) (k:Mo):jc (qad c m l) k=jc l k+if m=k then c else 0:=by
 induction l with
 | nil=>simp [qad,jc]
 | cons x r ih =>
   obtain ⟨d,n⟩:=x;unfold qad
   by_cases h:m=n
   · rw [if_pos h]; subst h; simp only [jc]; split <;> omega
   · rw [if_neg h]; simp only [jc,ih]; omega
theorem ych (c:Int) (m:Mo) (l:Sp):jg (qad c m l)<=jg l+c.natAbs:=by
 induction l with
 | nil=>simp [qad,jg]
 | cons x r ih =>
   obtain ⟨d,n⟩:=x;unfold qad
   by_cases h:m=n
   · rw [if_pos h]; simp only [jg]; omega
   · rw [if_neg h]; simp only [jg]; omega
theorem xch (c:Int) (m:Mo) (l:Sp):(qad c m l).length<=l.length+1:=by
 induction l with
 | nil=>simp [qad]
 | cons x r ih =>
   obtain ⟨d,n⟩:=x;unfold qad
   by_cases h:m=n
   · rw [if_pos h]; simp
   · rw [if_neg h]; simp; omega
theorem vbl {c:Int} {m:Mo} {l:Sp} {x:Int × Mo} (h:x ∈ qad c m l):x.2=m\/∃ y ∈ l,y.2=x.2:=by
 induction l with
 | nil=>left; rw [List.mem_singleton.1 h]
 | cons y r ih =>
   obtain ⟨d,n⟩:=y;unfold qad at h
   split at h
   · rcases List.mem_cons.1 h with rfl | h
     · exact .inr ⟨_,List.mem_cons_self,rfl⟩
     · exact .inr ⟨x,List.mem_cons_of_mem _ h,rfl⟩
   · rcases List.mem_cons.1 h with rfl | h
     · exact .inr ⟨_,List.mem_cons_self,rfl⟩
     · rcases ih h with h | ⟨y,hy,e⟩
       · exact .inl h
       · exact .inr ⟨y,List.mem_cons_of_mem _ hy,e⟩
def Apart (l:Sp):Prop:=l.Pairwise fun x y=>x.2 ≠ y.2
theorem wby (c:Int) (m:Mo) (l:Sp) (h:Apart l):Apart (qad c m l):=by
 induction l with
 | nil=>exact List.pairwise_singleton _ _
 | cons x r ih =>
   obtain ⟨d,n⟩:=x;unfold Apart at h ih ⊢;rw [List.pairwise_cons] at h;unfold qad
   by_cases hm:m=n
   · rw [if_pos hm,List.pairwise_cons]; exact h
   · rw [if_neg hm,List.pairwise_cons];refine ⟨fun y hy=>?_,ih h.2⟩;rcases vbl hy with e | ⟨z,hz,e⟩
     · rw [e]; exact fun e'=>hm e'.symm
     · rw [<- e]; exact h.1 z hz
def qae (i : Nat) : Sp -> List (Mo × Value)
 | []=>[]
 | (_,m) :: r=>(m,.int .i64 i) :: qae (i+1) r
theorem gby (c:Int) (m:Mo) (l:Sp):∀ i,(mog (qae i l) m=none/\qad c m l=l ++ [(c,m)]/\∀ z,mop (qae i l) m (.int .i64 (i+l.length:Nat))=qae i (l ++ [(z,m)])) \/
 ∃ k,∃ hk:k < l.length,mog (qae i l) m=some (.int .i64 (i+k:Nat))/\l[k].2=m/\qad c m l=l.set k (l[k].1+c,m)/\qae i (l.set k (l[k].1+c,m))=qae i l:=by
 induction l with
 | nil=>intro i; exact .inl ⟨rfl,rfl,fun z=>by simp [qae,mop]⟩
 | cons x r ih =>
   intro i;obtain ⟨d,n⟩:=x
   by_cases hm:m=n
   · subst hm;exact .inr ⟨0,by simp,by simp [qae,mog],rfl,by simp [qad],by simp [qae]⟩
   · rcases ih (i+1) with ⟨h1,h2,h3⟩ | ⟨k,hk,h1,h2,h3,h4⟩
     · refine .inl ⟨by simp [qae,mog,hm,h1],by simp [qad,hm,h2],fun z=>?_⟩;have:=h3 z;simp only [qae,mop,List.cons_append,List.length_cons,if_neg hm];rw [<- this,show i+1+r.length=i+(r.length+1) by omega]
     · refine .inr ⟨k+1,by simpa using hk,?_,by simpa using h2,by simp [qad,hm,h3],by simp [qae,h4]⟩;simp only [qae,mog,if_neg hm,h1];rw [show i+1+k=i+(k+1) by omega]
def GaV (base:Nat) (w:World) (G M:Nat) (v:Value) (l:Sp):Prop:=
 w.cell? ⟨G,0,none⟩=some (.map (some M))/\w.cell? ⟨G,1,none⟩=some v/\(∀ i,w.frozen? ⟨G,i,none⟩=false)/\jae w M (qae 0 l)/\TsV none base w v l/\(base<=G/\base<=M/\G ≠ M/\G < w.heap.size)/\∀ R,v.ownBlock=some R->R ≠ G/\R ≠ M
theorem GaV.ext {base:Nat} {w w':World} {G M:Nat} {v:Value} {l:Sp} (h:GaV base w G M v l) (hx:Ext w w'):GaV base w' G M v l:=by
 obtain ⟨h1,h2,h3,h4,h5,h6,h7⟩:=h;exact ⟨(hx.cell (p:=⟨G,0,none⟩) h6.2.2.2).trans h1,(hx.cell (p:=⟨G,1,none⟩) h6.2.2.2).trans h2,fun i=>(hx.frozen (p:=⟨G,i,none⟩) h6.2.2.2).trans (h3 i),h4.ext hx,h5.ext hx,⟨h6.1,h6.2.1,h6.2.2.1,Nat.lt_of_lt_of_le h6.2.2.2 hx.size⟩,h7⟩
def yb1 (G M:Nat) (v v':Value) (w w':World):Prop:=(∀ b,b < w.heap.size->b ≠ G->b ≠ M->v.ownBlock ≠ some b->w'.heap[b]?=w.heap[b]?)/\(v'.ownBlock=v.ownBlock\/∃ R,v'.ownBlock=some R/\w.heap.size<=R)
def gaq (base:Nat) (G M:Nat) (v:Value) (l:Sp) (w:World) (e:Ending) (w':World):Prop:=e=.returned (.tuple #[])/\∃ v',GaV base w' G M v' l/\Below base w w'/\(∀ v ds,jb w v ds->jb w' v ds)/\yb1 G M v v' w w'
theorem uch {base G M:Nat} {l':Sp} {w w4:World} {v0 v v':Value} (hfar:yb1 G M v0 v' w w4) (hbl:Below base w w4) (hn:∀ x ds,jb w x ds->jb w4 x ds) (h0:w4.cell? ⟨G,0,none⟩=some (.map (some M))) (h1:w4.cell? ⟨G,1,none⟩=some v) (hd:ku v=false) (hf:∀ i,w4.frozen? ⟨G,i,none⟩=false) (hm:jae w4 M (qae 0 l')) (ht:TsV none base w4 v' l') (hb:base<=G/\base<=M/\G ≠ M/\G < w4.heap.size) (ho:∀ R,v'.ownBlock=some R->R ≠ G/\R ≠ M):gaq base G M v0 l' w (.returned (.tuple #[])) (w4.setCell ⟨G,1,none⟩ v'):=by
 have hnn:∀ x ds,jb w4 x ds->jb (w4.setCell ⟨G,1,none⟩ v') x ds:=fun x ds hx=>hx.box h1 hd _
 refine ⟨rfl,v',⟨?_,World.cell?_setCell_same _ _ _ h1,fun i=>?_,hm.block (Below.heap_setCell _ _ _ M (Ne.symm hb.2.2.1)),ht.turn (fun R hR=>Below.heap_setCell _ _ _ R (ho R hR).1) hnn,⟨hb.1,hb.2.1,hb.2.2.1,by simpa [World.setCell] using hb.2.2.2⟩,ho⟩,Below.setCell hbl hb.1 _,fun x ds hx=>hnn x ds (hn x ds hx),fun b h1 h2 h3 h4=>(Below.heap_setCell _ _ _ b h2).trans (hfar.1 b h1 h2 h3 h4),hfar.2⟩
 · rw [World.cell?_setCell_other _ _ _ _ (by simp)]; exact h0
 · rw [World.frozen?_setCell]; exact hf i
theorem kbk {w w':World} {M:Nat} {l:List (Mo × Value)} {v:Value} {ds:List Nat} (hv:jb w v ds) (hm:jae w M l) (ho:Only M w w'):jb w' v ds:=by
 obtain ⟨A,c,e,h1,h2,h3,h4⟩:=hv;refine ⟨A,c,e,h1,h2,h3,fun hd=>?_⟩;obtain ⟨ad,e4,hlt,hc⟩:=h4 hd;refine ⟨ad,e4,Nat.lt_of_lt_of_le hlt ho.size,fun j hj=>?_⟩;have hne:ad.block ≠ M:=fun e=>by
  obtain ⟨es,clock,hb,-⟩:=hm;have h0:=hc 0 hd;rw [World.cell?,ja,e,hb] at h0;cases h0
 exact (ho.cell (p:=ad.add j) (by rw [ja]; exact hlt) (by rw [ja]; exact hne)).trans (hc j hj)
theorem kch {base G M:Nat} {v:Value} {l:Sp} {w:World} (h:GaV base w G M v l) (m:Mo) (x:Value) (k:Option Nat) (z:Int) (hc:Cf w k x z) (hm:¬ m.nonneg) (hb:base<=w.heap.size):Calls Tryz.prog 102 #[.pointer (some ⟨G,0,none⟩),moV m,x] w (gaq base G M v l w):=by
 obtain ⟨b,B,n,c,rfl⟩:=hc.unpack;have HQ:Hid (decide (¬ m.nonneg)=true):=by
  have:decide (¬ m.nonneg)=true:=decide_eq_true hm;exact this
 have H:=Lib.hid h;obtain ⟨W,hW⟩:∃ W,(w.alloc (.cells #[.int .i64 m.a,.int .i64 m.b,.int .i64 m.c,.int .i64 m.d] 93)).alloc (.cells #[.bool b,.slice B n c] 33)=W:=⟨_,rfl⟩;have hWx:Ext w W:=by rw [<- hW]; exact ((Ext.refl w).alloc _).alloc _
 obtain ⟨d0,d1,d2,d3⟩:zx W w.heap.size m:=by rw [<- hW]; exact (zx.new w m _).ext ((Ext.refl _).alloc _) (by simp)
 have HWX:=Lib.hid hWx;clear h hc hWx;unfold moV;go_enter Tryz.func102,Tryz.ntmps102;go_wp2_with fail;refine (kat m W).mono ?_;rintro e w1 ⟨rfl,x1⟩;rw [HQ.out];have X1:=Lib.hid (HWX.out.trans x1);clear x1;go_wp2_with fail;exact bodyPost_ret (results_none rfl _ _ _) rfl ⟨rfl,v,H.out.ext X1.out,Below.mono X1.out (by omega),fun v ds hv=>hv.ext X1.out,fun b hb _ _ _=>X1.out.below.block b hb,.inl rfl⟩
theorem jch {base G M:Nat} {v:Value} {l:Sp} {w:World} (h:GaV base w G M v l) (m:Mo) (x:Value) (L:Nat) (z:Int) (hc:yh w x z L) (hL:L<=35184372088832) (hm:m.nonneg) (hb:base<=w.heap.size) (hlen:l.length < 1099511627776) (hn:mog (qae 0 l) m=none) (hp:∀ z,mop (qae 0 l) m (.int .i64 (0+l.length:Nat))=qae 0 (l ++ [(z,m)])):Calls Tryz.prog 102 #[.pointer (some ⟨G,0,none⟩),moV m,x] w (gaq base G M v (l ++ [(z,m)]) w):=by
 have HC:=Lib.hid hc;obtain ⟨b,B,n,c,rfl⟩:=hc.unpack;have HQ:Hid (decide (¬ m.nonneg)=false):=by
  have:decide (¬ m.nonneg)=false:=decide_eq_false (fun h=>h hm);exact this
 have H:=Lib.hid h;obtain ⟨W,hW⟩:∃ W,(w.alloc (.cells #[.int .i64 m.a,.int .i64 m.b,.int .i64 m.c,.int .i64 m.d] 93)).alloc (.cells #[.bool b,.slice B n c] 33)=W:=⟨_,rfl⟩;have hWx:Ext w W:=by rw [<- hW]; exact ((Ext.refl w).alloc _).alloc _
 have hWs:W.heap.size=w.heap.size+1+1:=by rw [<- hW]; simp
 have hmx:zx W w.heap.size m:=by rw [<- hW]; exact (zx.new w m _).ext ((Ext.refl _).alloc _) (by simp)
 have hc0:W.cell? ⟨w.heap.size+1,0,none⟩=some (.bool b):=by rw [<- hW]; simp [go_sem]
 have hc1:W.cell? ⟨w.heap.size+1,1,none⟩=some (.slice B n c):=by rw [<- hW]; simp [go_sem]
 obtain ⟨d0,d1,d2,d3⟩:=id hmx;have HMX:=Lib.hid hmx;have HC0:=Lib.hid hc0;have HC1:=Lib.hid hc1;have HWX:=Lib.hid hWx;have HN:=Lib.hid hn;have HP:=Lib.hid hp;clear h hc hWx hmx hn hp hc0 hc1;unfold moV;go_enter Tryz.func102,Tryz.ntmps102;go_wp2_with fail;refine (kat m W).mono ?_;rintro e w1 ⟨rfl,x1⟩;rw [HQ.out];have h1:=H.out.ext (HWX.out.trans x1);have hw1:=x1.size;obtain ⟨d0,d1,d2,d3⟩:=HMX.out.ext x1 (by omega);have c0:=(x1.cell (p:=⟨w.heap.size+1,0,none⟩) (by show w.heap.size+1 < _; omega)).trans HC0.out;have c1:=(x1.cell (p:=⟨w.heap.size+1,1,none⟩) (by show w.heap.size+1 < _; omega)).trans HC1.out;have X1:=Lib.hid (HWX.out.trans x1);obtain ⟨g0,g1,gf,gm,gt,⟨gb1,gb2,gne,glt⟩,gown⟩:=h1;have hlook:=jae.look (w:=w1.drew) gm m true;rw [HN.out] at hlook;simp only [Option.getD_none,Option.isSome_none,if_true,moV] at hlook;obtain ⟨At,ct,rfl,-,-⟩:=gt.len;have GM:=Lib.hid gm;have GT:=Lib.hid gt;have GOWN:=Lib.hid gown;clear gm gt gown x1 hW;go_upto_region 2 with fail
 go_region
 all_goals
  clear hlook;have hMlt:=H.out.2.2.2.1.lt;have hGlt:=H.out.2.2.2.2.2.1.2.2.2;obtain ⟨W5,hput,gm5,ho5⟩:=jae.put (w:=w1.drew.drew) GM.out m (.int .i64 (0+l.length:Nat));rw [HP.out z] at gm5;simp only [moV,Nat.zero_add] at hput;have hs5:w1.heap.size<=W5.heap.size:=ho5.size;have hb5:∀ b,b < w1.heap.size->b ≠ M->W5.heap[b]?=w1.heap[b]?:=fun b hb hne=>ho5.block hb hne
  have k5:∀ b i,b < w1.heap.size->b ≠ M->W5.cell? ⟨b,i,none⟩=w1.cell? ⟨b,i,none⟩:=fun b i hb hne=>World.cell?_of_block (a:=⟨b,i,none⟩) (hb5 b hb hne)
  have G0:=(k5 G 0 glt gne).trans g0;have G1:=(k5 G 1 glt gne).trans g1;have D0:=(k5 w.heap.size 0 (by omega) (by omega)).trans d0;have D1:=(k5 w.heap.size 1 (by omega) (by omega)).trans d1;have D2:=(k5 w.heap.size 2 (by omega) (by omega)).trans d2;have D3:=(k5 w.heap.size 3 (by omega) (by omega)).trans d3;have C0:=(k5 (w.heap.size+1) 0 (by omega) (by omega)).trans c0;have C1:=(k5 (w.heap.size+1) 1 (by omega) (by omega)).trans c1;have HK5:=Lib.hid k5;have HB5:=Lib.hid hb5;have HO5:=Lib.hid ho5;have GM5:=Lib.hid gm5;clear k5 hb5 ho5 gm5;go_upto_region 5 with fail
  go_region
  all_goals
   clear hput d0 d1 d2 d3 c0 c1 g0 g1;have ho5':Only M w1 W5:=by
    obtain ⟨q1,q2,q3,q4,q5⟩:=HO5.out.g;exact ⟨q1,q2,q3,q4,q5⟩
   have x05:Below base w W5:=Below.grown (Below.mono X1.out hb) ho5' (by have:=X1.out.size; omega) (fun k e=>by injection e with e; omega);have n05:∀ v ds,jb w v ds->jb W5 v ds:=fun v ds hv=>kbk (hv.ext X1.out) GM.out ho5'
   have gt5:TsV none base W5 (.slice At l.length ct) l:=GT.out.turn (fun R hR=>HB5.out R (GT.out.own hR).2 (GOWN.out R hR).2) (fun v ds hv=>kbk hv GM.out ho5');have GT5:=Lib.hid gt5;have N05:=Lib.hid n05;have X05:=Lib.hid x05;clear gt5 n05 x05 ho5';go_upto_region 6 with fail;have HSTEP:Hid (∀ (w3:World) (A3:Option Addr) (c3:Nat),jb w3 (.slice A3 (dg z.natAbs).length c3) (dg z.natAbs)->Ext W5.drew w3->∃ w4 A4 c4,(Builtin.append_ #[41,41] 41 #[.slice At l.length ct,.slice (some ⟨w3.heap.size,0,none⟩) 1 1]).run Tryz.prog (w3.alloc (.cells #[.bool (decide (z < 0)),.slice A3 (dg z.natAbs).length c3,.int .i64 m.a,.int .i64 m.b,.int .i64 m.c,.int .i64 m.d] 137))=.ok (.slice A4 (l.length+1) c4) w4/\(w3.cell? ⟨w.heap.size,0,none⟩=some (.int .i64 m.a)/\w3.cell? ⟨w.heap.size,1,none⟩=some (.int .i64 m.b)/\w3.cell? ⟨w.heap.size,2,none⟩=some (.int .i64 m.c)/\w3.cell? ⟨w.heap.size,3,none⟩=some (.int .i64 m.d))/\(w3.cell? ⟨G,0,none⟩=some (.map (some M))/\w3.cell? ⟨G,1,none⟩=some (.slice At l.length ct))/\(G < w3.heap.size/\w.heap.size < w3.heap.size/\w.heap.size+1 < w3.heap.size)/\w4.cell? ⟨G,1,none⟩=some (.slice At l.length ct)/\(∀ i,w4.frozen? ⟨G,i,none⟩=false)/\gaq base G M (.slice At l.length ct) (l ++ [(z,m)]) w (.returned (.tuple #[])) (w4.setCell ⟨G,1,none⟩ (.slice A4 (l.length+1) c4))):=by
    intro w3 A3 c3 n3 x3;have y3:Ext W5 w3:=Ext.trans ((Ext.refl W5).drew) x3;obtain ⟨v4,w4,hrun,t4,gg4,nn4,oo4⟩:=(GT5.out.ext y3).push (by have:=y3.size; omega) (k:=none) (z:=z) (b:=decide (z < 0)) (s:=.slice A3 (dg z.natAbs).length c3) ⟨_,rfl,n3⟩ m hlen 41;obtain ⟨A4,c4,e4,-,-⟩:=t4.len;rw [show (l ++ [(z,m)]).length=l.length+1 by simp] at e4;subst e4;have e3:∀ b i,b < w1.heap.size->w3.cell? ⟨b,i,none⟩=W5.cell? ⟨b,i,none⟩:=fun b i hb=>y3.cell (p:=⟨b,i,none⟩) (by show b < _; omega)
    have E0:=(e3 w.heap.size 0 (by omega)).trans D0;have E1:=(e3 w.heap.size 1 (by omega)).trans D1;have E2:=(e3 w.heap.size 2 (by omega)).trans D2;have E3:=(e3 w.heap.size 3 (by omega)).trans D3;have F0:=(e3 G 0 glt).trans G0;have F1:=(e3 G 1 glt).trans G1;have y3s:=y3.size;have hG3:G < w3.heap.size:=by omega
    have hB3:w.heap.size < w3.heap.size:=by omega
    have hC3:w.heap.size+1 < w3.heap.size:=by omega
    have gblk:∀ b,b < w1.heap.size->(Value.slice At l.length ct).ownBlock ≠ some b->w4.heap[b]?=w3.heap[b]?:=fun b hb hne=>World.grownBy.block gg4 b (by omega) (fun e=>hne e.symm)
    have gG:=gblk G glt (fun e=>(GOWN.out G e).1 rfl);have H1:w4.cell? ⟨G,1,none⟩=some (.slice At l.length ct):=(World.cell?_of_block (a:=⟨G,1,none⟩) gG).trans F1;have HF:∀ i,w4.frozen? ⟨G,i,none⟩=false:=fun i=>(World.frozen?_of_block (a:=⟨G,i,none⟩) gG).trans ((y3.frozen (p:=⟨G,i,none⟩) (by show G < _; omega)).trans ((World.frozen?_of_block (a:=⟨G,i,none⟩) (HB5.out G glt gne)).trans (gf i)))
    have hown4:∀ R,(Value.slice A4 (l.length+1) c4).ownBlock=some R->R ≠ G/\R ≠ M:=fun R hR=>by
     rcases oo4 with o | o
     · exact GOWN.out R (o.symm.trans hR)
     · rw [o] at hR; injection hR with hR; omega
    have HFIN:Hid (gaq base G M (.slice At l.length ct) (l ++ [(z,m)]) w (.returned (.tuple #[])) (w4.setCell ⟨G,1,none⟩ (.slice A4 (l.length+1) c4))):=by
     have gg4s:=gg4.size;have hX1:=X1.out;have hX1s:=hX1.size;have hfar:yb1 G M (.slice At l.length ct) (.slice A4 (l.length+1) c4) w w4:=⟨fun b h1 h2 h3 h4=>(gblk b (by omega) h4).trans ((y3.below.block b (by omega)).trans ((HB5.out b (by omega) h3).trans (hX1.below.block b h1))),oo4.imp id (fun h=>⟨_,h,by omega⟩)⟩;exact uch (v:=.slice At l.length ct) hfar (Below.grown (Below.trans X05.out (Below.mono y3 (by omega))) gg4 (by omega) (fun b hb=>(GT5.out.own hb).1)) (fun x ds hx=>nn4 x ds ((N05.out x ds hx).ext y3)) ((World.cell?_of_block (a:=⟨G,0,none⟩) gG).trans F0) H1 rfl HF (GM5.out.block ((gblk M (by omega) (fun e=>(GOWN.out M e).2 rfl)).trans (y3.below.block M (by omega)))) t4 ⟨gb1,gb2,gne,by omega⟩ hown4
    exact ⟨w4,A4,c4,hrun,⟨E0,E1,E2,E3⟩,⟨F0,F1⟩,⟨hG3,hB3,hC3⟩,H1,HF,HFIN.out⟩
   have HARG:=Lib.hid (Cf.turn (k:=some L) (w:=w) HC.out (fun v ds hv=>(N05.out v ds hv).ext ((Ext.refl W5).drew)));clear GT5 N05 X05 GM5 HB5 HO5 HK5 GOWN HC GM GT H HP HN HWX X1 HMX HC0 HC1
   go_region_law (first
    | (go_simp
       go_at_call 68
       refine (gak _ z L _ HARG.out hL).mono ?_;rintro e w3 ⟨v3,rfl,⟨s3,rfl,n3⟩,x3⟩;obtain ⟨A3,c3,rfl,-⟩:=id n3;obtain ⟨w4,A4,c4,hrun,⟨E0,E1,E2,E3⟩,⟨F0,F1⟩,⟨hG3,hB3,hC3⟩,H1,HF,hfin⟩:=HSTEP.out _ _ _ n3 x3;have HFIN:=Lib.hid hfin
       clear n3 x3 hfin)
    | (refine xai rfl (.tmp 51) (.tmp 56) _ _ rfl _ _ _ _ (by simp [Act.eval,Act.put]) (by simp [Act.eval,Act.put]) hrun ?_))
   all_goals
    clear hrun E0 E1 E2 E3 F0 F1 H1 HF
    go_end0
    exact HFIN.out
/- Layer 20: a coefficient of a row of terms is overwritten. -/
theorem yx.set_ {T k base:Nat} {W:World} {g c n:Nat} {xs:List Value} (h:yx T k base W (.slice (some ⟨g,0,none⟩) n c) n xs) (j:Nat) (hj:j < n * k) (u:Value) (hu:ku u=false) :
 yx T k base (W.setCell ⟨g,j,none⟩ u) (.slice (some ⟨g,0,none⟩) n c) n (xs.set j u):=by
 obtain ⟨⟨h1,h2⟩,h3⟩:=h;rcases h2 with ⟨h2,-⟩ | ⟨g',cap,cur,e,hb,hg,hc,hm,hs,ht⟩
 · cases h2
 injection e with e1 e2 e3
 injection e1 with e1
 injection e1 with e1
 subst e1 e3;have hheap:(W.setCell ⟨g,j,none⟩ u).heap[g]?=some (.cells (cur.setIfInBounds j u) T (0,0)):=by
  simp [World.setCell,Array.getElem?_modify,hg]
 refine ⟨⟨by rw [List.length_set]; exact h1,.inr ⟨g,c,cur.setIfInBounds j u,rfl,hb,hheap,hc,hm,by simpa using hs,?_⟩⟩,?_⟩
 · rw [Array.toList_setIfInBounds,List.take_set,ht]
 · intro R cur' T' fr e hb' u' hu';have hR:g=R:=by simpa [Value.ownBlock] using e
   rw [<- hR,hheap] at hb';injection hb' with hb'
   injection hb' with hb'
   rw [<- hb',Array.toList_setIfInBounds] at hu';rcases List.mem_or_eq_of_mem_set hu' with hu' | rfl
   · exact h3 g cur T (0,0) rfl hg u' hu'
   · exact hu
theorem zb8 (rs:List (Bool × Value × Int × Mo)):∀ (k:Nat) (hk:k < rs.length) (b:Bool) (s:Value) (z:Int),yao (rs.set k (b,s,z,rs[k].2.2.2))=((yao rs).set (k * 6) (.bool b)).set (k * 6+1) s:=by
 induction rs with
 | nil=>intro k hk; simp at hk
 | cons r rs ih =>
   intro k hk b s z;have hl:(tmC r.1 r.2.1 r.2.2.2).length=6:=rfl;cases k with
   | zero=>simp [yao,tmC]
   | succ k =>
     have:=ih k (by simpa using hk) b s z;simp only [List.set_cons_succ,List.getElem_cons_succ,yao,List.flatMap_cons] at this ⊢;rw [this,List.set_append_right _ _ (by rw [hl]; omega),List.set_append_right _ _ (by rw [hl]; omega),hl]
     congr 3 <;> omega
theorem TsV.set_ {base:Nat} {W:World} {g c:Nat} {l:Sp} (h:TsV none base W (.slice (some ⟨g,0,none⟩) l.length c) l) (k:Nat) (hk:k < l.length) {b:Bool} {A:Option Addr} {n d:Nat} {z:Int} (hc:Cf W none (.agg #[.bool b,.slice A n d]) z) :
 TsV none base ((W.setCell ⟨g,k * 6,none⟩ (.bool b)).setCell ⟨g,k * 6+1,none⟩ (.slice A n d)) (.slice (some ⟨g,0,none⟩) l.length c) (l.set k (z,l[k].2))/\(∀ v ds,jb W v ds->jb ((W.setCell ⟨g,k * 6,none⟩ (.bool b)).setCell ⟨g,k * 6+1,none⟩ (.slice A n d)) v ds):=by
 obtain ⟨rs,rfl,h2,h3⟩:=h;rw [List.length_map] at hk;simp only [List.length_map] at h2 ⊢;have q0:=h2.cell (k * 6) (by omega);have q1:=h2.cell (k * 6+1) (by omega);have f0:=jau rs k hk 0 (by omega);have f1:=jau rs k hk 1 (by omega);rw [Nat.add_zero] at f0;rw [f0] at q0;rw [f1] at q1;obtain ⟨b',B',n',c',e'⟩:=(h3 rs[k] (List.getElem_mem hk)).unpack;simp only [Value.agg.injEq,Array.mk.injEq,List.cons.injEq,and_true] at e';have q1':W.cell? ⟨g,k * 6+1,none⟩=some (.slice B' n' c'):=by rw [q1,<- e'.2]; rfl
 have hnat:∀ v ds,jb W v ds->jb ((W.setCell ⟨g,k * 6,none⟩ (.bool b)).setCell ⟨g,k * 6+1,none⟩ (.slice A n d)) v ds:=fun v ds hv =>
  (hv.box q0 rfl _).box (u:=.slice B' n' c') (by rw [World.cell?_setCell_other _ _ _ _ (by simp)]; exact q1') rfl _
 refine ⟨⟨rs.set k (b,.slice A n d,z,rs[k].2.2.2),?_,?_,fun r hr=>?_⟩,hnat⟩
 · rw [List.map_set]; simp
 · rw [List.length_set,zb8 rs k hk];exact (h2.set_ (k * 6) (by omega) _ rfl).set_ (k * 6+1) (by omega) _ rfl
 · rcases List.mem_or_eq_of_mem_set hr with hr | rfl
   · exact (h3 r hr).turn hnat
   · exact hc.turn hnat
/- Layer 20: (*gather).add of a monomial that is there; the whole. -/
set_option maxRecDepth 100000
set_option maxHeartbeats 8000000
theorem qch {base G M:Nat} {v:Value} {l:Sp} {w:World} (h:GaV base w G M v l) (m:Mo) (x:Value) (L:Nat) (z:Int) (hc:yh w x z L) (hm:m.nonneg) (hb:base<=w.heap.size) (k:Nat) (hk:k < l.length) (hL:L+(dg l[k].1.natAbs).length<=35184372088000) (hlen:l.length < 1099511627776) (hn:mog (qae 0 l) m=some (.int .i64 (0+k:Nat))) (hlk:l[k].2=m) (hge:qae 0 (l.set k (l[k].1+z,m))=qae 0 l):Calls Tryz.prog 102 #[.pointer (some ⟨G,0,none⟩),moV m,x] w (gaq base G M v (l.set k (l[k].1+z,m)) w):=by
 have HC:=Lib.hid hc;obtain ⟨b,B,n,c,rfl⟩:=hc.unpack;have HQ:Hid (decide (¬ m.nonneg)=false):=by
  have:decide (¬ m.nonneg)=false:=decide_eq_false (fun h=>h hm);exact this
 have H:=Lib.hid h;obtain ⟨W,hW⟩:∃ W,(w.alloc (.cells #[.int .i64 m.a,.int .i64 m.b,.int .i64 m.c,.int .i64 m.d] 93)).alloc (.cells #[.bool b,.slice B n c] 33)=W:=⟨_,rfl⟩;have hWx:Ext w W:=by rw [<- hW]; exact ((Ext.refl w).alloc _).alloc _
 have hWs:W.heap.size=w.heap.size+1+1:=by rw [<- hW]; simp
 have hmx:zx W w.heap.size m:=by rw [<- hW]; exact (zx.new w m _).ext ((Ext.refl _).alloc _) (by simp)
 have hc0:W.cell? ⟨w.heap.size+1,0,none⟩=some (.bool b):=by rw [<- hW]; simp [go_sem]
 have hc1:W.cell? ⟨w.heap.size+1,1,none⟩=some (.slice B n c):=by rw [<- hW]; simp [go_sem]
 obtain ⟨d0,d1,d2,d3⟩:=id hmx;have HMX:=Lib.hid hmx;have HC0:=Lib.hid hc0;have HC1:=Lib.hid hc1;have HWX:=Lib.hid hWx;have HN:=Lib.hid hn;have HLK:=Lib.hid hlk;have HGE:=Lib.hid hge;clear h hc hWx hmx hn hc0 hc1 hlk hge;unfold moV;go_enter Tryz.func102,Tryz.ntmps102;go_wp2_with fail;refine (kat m W).mono ?_;rintro e w1 ⟨rfl,x1⟩;rw [HQ.out];have h1:=H.out.ext (HWX.out.trans x1);have hw1:=x1.size;obtain ⟨d0,d1,d2,d3⟩:=HMX.out.ext x1 (by omega);have c0:=(x1.cell (p:=⟨w.heap.size+1,0,none⟩) (by show w.heap.size+1 < _; omega)).trans HC0.out;have c1:=(x1.cell (p:=⟨w.heap.size+1,1,none⟩) (by show w.heap.size+1 < _; omega)).trans HC1.out;have X1:=Lib.hid (HWX.out.trans x1);obtain ⟨g0,g1,gf,gm,gt,⟨gb1,gb2,gne,glt⟩,gown⟩:=h1;have hlook:=jae.look (w:=w1.drew) gm m true;rw [HN.out] at hlook;simp only [Option.getD_some,Option.isSome_some,if_true,moV,Nat.zero_add] at hlook;obtain ⟨At,ct,rfl,-,-⟩:=gt.len;have hsp:=gt.sp;obtain ⟨A',c',e',-,-,hat⟩:=hsp;injection e' with e1 e2 e3
 subst e1 e3;obtain ⟨ad,b1,B1,n1,c2,rfl,hadb,htm,hcf⟩:=hat k hk;obtain ⟨rs,hrs,hgr,hrc⟩:=id gt;have hrl:rs.length=l.length:=by rw [<- hrs,List.length_map]
 rw [hrl] at hgr;obtain ⟨R,cR,eR,-,-,hbR,hltR,hfrR⟩:=hgr.pos (by omega);injection eR with eR1 eR2 eR3
 injection eR1 with eR1
 subst eR1;have hRne:=gown R rfl;rw [jq,Nat.zero_add] at htm;obtain ⟨t0,t1,-⟩:=htm;simp only at t0 t1;have GM:=Lib.hid gm;have GT:=Lib.hid gt;have GOWN:=Lib.hid gown;have HCF:=Lib.hid hcf;clear gm gt gown x1 hW hgr hrc hrs hcf hat;go_upto_region 2 with fail
 go_region
 all_goals
  clear hlook d0 d1 d2 d3;have HSTEP:Hid (∀ (w3:World) (x3:Value),uab w3 x3 (l[k].1+z)->Ext w1.drew.drew w3->∃ A3 n3 c3,x3=.agg #[.bool (decide (l[k].1+z < 0)),.slice A3 n3 c3]/\(w3.cell? ⟨G,0,none⟩=some (.map (some M))/\w3.cell? ⟨G,1,none⟩=some (.slice (some ⟨R,0,none⟩) l.length ct))/\(w3.cell? ⟨R,k * 6,none⟩=some (.bool b1)/\w3.cell? ⟨R,k * 6+1,none⟩=some (.slice B1 n1 c2)/\(∀ i,w3.frozen? ⟨R,i,none⟩=false))/\gaq base G M (.slice (some ⟨R,0,none⟩) l.length ct) (l.set k (l[k].1+z,m)) w (.returned (.tuple #[])) ((w3.setCell ⟨R,k * 6,none⟩ (.bool (decide (l[k].1+z < 0)))).setCell ⟨R,k * 6+1,none⟩ (.slice A3 n3 c3))):=by
   intro w3 x3 n3 y3;obtain ⟨s3,rfl,nv⟩:=id n3;obtain ⟨A3,c3,rfl,-⟩:=id nv;have y3':Ext w1 w3:=Ext.trans (((Ext.refl w1).drew).drew) y3;have hs3:=y3'.size;have ev:∀ bb i,bb < w1.heap.size->w3.cell? ⟨bb,i,none⟩=w1.cell? ⟨bb,i,none⟩:=fun bb i h=>y3'.cell (p:=⟨bb,i,none⟩) h
   refine ⟨A3,_,c3,rfl,⟨(ev G 0 glt).trans g0,(ev G 1 glt).trans g1⟩,⟨(ev R _ hltR).trans t0,(ev R _ hltR).trans t1,fun i=>(y3'.frozen (p:=⟨R,i,none⟩) hltR).trans (hfrR i)⟩,?_⟩;obtain ⟨ts,tn⟩:=(GT.out.ext y3').set_ k hk (b:=decide (l[k].1+z < 0)) (A:=A3) (d:=c3) n3;rw [HLK.out] at ts;refine ⟨rfl,.slice (some ⟨R,0,none⟩) l.length ct,⟨?_,?_,fun i=>?_,?_,?_,⟨gb1,gb2,gne,?_⟩,GOWN.out⟩,?_,fun x ds hx=>tn x ds ((hx.ext X1.out).ext y3'),fun b h1 h2 h3 h4=>?_,.inl rfl⟩
   · rw [World.cell?_setCell_other _ _ _ _ (by intro e; injection e with e; exact hRne.1 e),World.cell?_setCell_other _ _ _ _ (by intro e; injection e with e; exact hRne.1 e)]; exact (ev G 0 glt).trans g0
   · rw [World.cell?_setCell_other _ _ _ _ (by intro e; injection e with e; exact hRne.1 e),World.cell?_setCell_other _ _ _ _ (by intro e; injection e with e; exact hRne.1 e)]; exact (ev G 1 glt).trans g1
   · rw [World.frozen?_setCell,World.frozen?_setCell]; exact (y3'.frozen (p:=⟨G,i,none⟩) glt).trans (gf i)
   · rw [HGE.out];exact (GM.out.ext y3').block ((Below.heap_setCell _ _ _ M (fun e=>hRne.2 e.symm)).trans (Below.heap_setCell _ _ _ M (fun e=>hRne.2 e.symm)))
   · have:(l.set k (l[k].1+z,m)).length=l.length:=List.length_set;exact ts
   · simp only [World.setCell,Array.size_modify]; omega
   · exact Below.setCell (Below.setCell (Below.mono (X1.out.trans y3') hb) hbR _) hbR _
   · have hbR':b ≠ R:=fun e=>h4 (by rw [e]; rfl)
     exact ((Below.heap_setCell _ _ _ b hbR').trans (Below.heap_setCell _ _ _ b hbR')).trans ((X1.out.trans y3').below.block b h1)
  have hnew:∀ w3 x3,uab w3 x3 (l[k].1+z)->Ext w1.drew.drew w3->True:=fun _ _ _ _=>trivial
  have HARG1:=Lib.hid (HCF.out.ext (((Ext.refl w1).drew).drew));have HARG2:=Lib.hid (HC.out.ext (X1.out.trans (((Ext.refl w1).drew).drew)));have hq:(⟨R,0,none⟩:Addr).add (k * 6)=⟨R,k * 6,none⟩:=by rw [jq,Nat.zero_add]
  clear GM GT GOWN HCF HC HGE HLK HN HWX X1 HMX HC0 HC1 H;go_upto_region 4 with fail
  go_region_law (first
   | (go_simp
      go_at_call 143
      refine (ja2 _ _ (l[k].1) z _ L _ (uab.raw HARG1.out) HARG2.out (by omega)).mono ?_;rintro e w3 ⟨x3,rfl,n3,y3⟩;obtain ⟨A3,n3',c3,rfl,⟨G0,G1⟩,⟨T0,T1,TF⟩,hfin⟩:=HSTEP.out _ _ n3 y3;have HFIN:=Lib.hid hfin
      clear n3 y3 hfin))
  all_goals
   clear G0 G1 T0 T1 TF;go_wp2_with fail;exact bodyPost_ret (results_none rfl _ _ _) rfl HFIN.out
theorem vch {base G M:Nat} {v:Value} {l:Sp} {w:World} (h:GaV base w G M v l) (m:Mo) (x:Value) (L:Nat) (z:Int) (hc:yh w x z L) (hb:base<=w.heap.size) (hL:L+(dg (jg l)).length<=35184372088000) (hlen:l.length < 1099511627776):Calls Tryz.prog 102 #[.pointer (some ⟨G,0,none⟩),moV m,x] w (gaq base G M v (if m.nonneg then qad z m l else l) w):=by
 by_cases hm:m.nonneg
 · rw [if_pos hm];rcases gby z m l 0 with ⟨h1,h2,h3⟩ | ⟨k,hk,h1,h2,h3,h4⟩
   · rw [h2]; exact jch h m x L z hc (by omega) hm hb hlen h1 h3
   · rw [h3];have hd:=jl (ybi (List.getElem_mem hk));exact qch h m x L z hc hm hb k hk (by omega) hlen h1 h2 h4
 · rw [if_neg hm]; exact kch h m x (some L) z hc hm hb
end Go.Proofs.YtcfcjabgkfehlaaGreat
