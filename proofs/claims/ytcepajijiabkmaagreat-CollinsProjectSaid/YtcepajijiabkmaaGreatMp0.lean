/- Plain arithmetic of digit lists in base 2^32, least significant first. No program in sight. -/
import Derived.Test.YtcepajijiabkmaaGreatRows
import Derived.WalkSpells
import Derived.WalkLawsBesides
import Derived.Lib.Hide
import Derived.BigQuiet
import Derived.Deep.RegionHeld3
import Derived.Deep.DrawnRows
import Derived.Laws.CopyOwn
import Derived.Deep.DeepCutAuto
import Derived.Deep.CutBlock
set_option linter.unusedSimpArgs false
set_option linter.unusedVariables false

set_option linter.defProp false
namespace Go.Proofs.YtcepajijiabkmaaGreat
def ph:=@World.cell?_setCell_other
def pj:=@Nat.le_refl
def po:=@List.getElem?_eq_getElem
def pr:=@List.getD_eq_getElem?_getD
def pt:=@List.getElem_mem
def pw:=@Nat.lt_of_lt_of_le
def px:=@List.length_map
def py:=@Nat.le_trans
def pA:=@List.length_take
def pB:=@World.cell?_of_block
def pC:=@List.take_succ_eq_append_getElem
def pD:=@List.mem_singleton
def pE:=@Nat.mul_le_mul_right
def pH:=@List.length_set
def pL:=@List.length_cons
def pN:=@World.cell?_setCell_same
def pP:=@List.take_length
def pQ:=@List.mem_cons
def pS:=@Nat.zero_le
def pT:=@List.take_of_length_le
def pZ:=@List.mem_map
def p8:=@List.length_replicate
def ra:=@List.length_append
def re:=@List.length_drop
def rh:=@Nat.zero_add
def ri:=@Nat.mul_add
def rj:=@List.mem_append
def rk:=@IntKind.wrap_i64
def rm:=@World.frozen?_setCell
def rr:=@World.grownBy.block
def rz:=@List.mem_cons_of_mem
def rA:=@List.length_pos_iff
def rB:=@Array.getElem?_eq_some_iff
def rI:=@List.cons_append
def rK:=@List.getElem_map
def rL:=@List.eq_nil_of_length_eq_zero
def rN:=@Nat.add_mul
def rR:=@List.getElem_set_self
def rS:=@Nat.pow_le_pow_right
def rT:=@Nat.mul_assoc
def r5:=@List.mem_cons_self
def r6:=@Nat.le_succ
def r8:=@List.length_nil
def r9:=@List.drop_eq_getElem_cons
def se:=@Nat.pow_succ
def sh:=@Nat.min_eq_left
def si:=@List.append_nil
def sj:=@Nat.mul_comm
def so:=@List.cons.injEq
def sq:=@List.mem_filter
def sr:=@List.map_cons
def ss:=@List.getD_cons_succ
def sw:=@Nat.lt_of_le_of_lt
def sy:=@AllReadyH.cons
def sA:=@List.getElem?_eq_none
def sB:=@List.filter_cons
def sC:=@List.getLast?_eq_getElem?
def sE:=@Nat.mul_le_mul_left
def sI:=@Int.eq_ofNat_of_zero_le
def sL:=@World.frozen?_of_block
def sM:=@List.not_mem_nil
def sP:=@List.getD_cons_zero
def sR:=@List.ext_getElem
def sT:=@Int.toNat_natCast
def sX:=@List.getElem_set_ne
def sY:=@Nat.zero_mul
def s8:=@Nat.add_zero
def s9:=@List.take_zero
def td:=@List.mem_of_getElem?
def te:=@Nat.mod_lt
def tg:=@List.mem_flatMap
def th:=@List.flatMap_cons
def ti:=@List.set_append_right
def tj:=@List.getElem_of_mem
def tl:=@List.mem_of_mem_take
def tm:=@Value.agg.injEq
def tp:=@Nat.pow_pos
def tr:=@Nat.one_mul
def tt:=@List.length_range
def tw:=@Nat.mod_add_div
def tx:=@Nat.lt_succ_self
def tz:=@List.getElem_take
def tB:=@List.getElem_append_right
def tD:=@Array.mk.injEq
def tE:=@List.pairwise_cons
def tF:=@List.getElem_range
def tG:=@Nat.lt_or_ge
def tI:=@List.nil_append
def tL:=@World.size_alloc
def tM:=@List.drop_drop
def tO:=@Nat.add_assoc
def tP:=@List.size_toArray
def tQ:=@Nat.div_lt_of_lt_mul
def tR:=@Nat.eq_zero_or_pos
def tS:=@List.getElem?_drop
def tT:=@List.getElem_cons_zero
def tU:=@List.drop_eq_nil_of_le
def tW:=@AllReadyH.nil
def ua:=@Nat.mul_one
def ub:=@Int.le_refl
def uc:=@List.length_filter_le
def ud:=@List.getElem_append_left
def ue:=@List.getElem?_map
def ur:=@Nat.add_sub_cancel
def uv:=@List.set_cons_zero
def ux:=@List.map_append
def uE:=@List.filter_append
def uL:=@Int.natAbs_natCast
def uR:=@Array.replicate_zero
def uW:=@Array.replicate_succ
def u5:=@Tryz.underlying3
def u6:=@List.length_tail
def u7:=@List.getElem_replicate
def u9:=@List.getElem_drop
def we:=@List.append_toArray
def wg:=@Int.lt_trichotomy
def wh:=@List.getElem?_eq_some_iff
def wj:=@List.take_append_drop
def wk:=@Nat.pow_add
def wy:=@Nat.mul_zero
def wN:=@List.map_map
def wT:=@Tryz.underlying61
def Pa:=@Nat.mul_left_comm
def Pb:=@List.push_toArray
def Pc:=@Nat.pow_le_pow_left
def Pd:=@Nat.mul_lt_mul_of_pos_right
def Pf:=@Option.getD_some
def Pk:=@Nat.div_eq_of_lt
def Pp:=@World.cell?_alloc_new
def Pr:=@Rat.pow_succ
def Ps:=@Nat.sub_self
def Pt:=@List.length_singleton
def Pu:=@Bool.false_eq_true
def Pw:=@List.drop_zero
def PC:=@Int.ofNat_eq_natCast
def PF:=@Result.andThen_ok
def PJ:=@Nat.succ_mul
def P4:=@Nat.add_sub_cancel_left
def Ra:=@List.getElem?_cons_zero
def Rb:=@List.getD_nil
def Rc:=@Bool.and_eq_true
def Re:=@Nat.mul_le_mul
def Rm:=@List.getElem_cons_succ
def Rp:=@List.filter_eq_nil_iff
def Rr:=@List.set_cons_succ
def Rs:=@Nat.le_div_iff_mul_le
def RB:=@List.range_succ
def RC:=@Bool.eq_iff_iff
def RE:=@Array.getElem?_modify
def RK:=@Array.extract_eq_self_of_le
def RL:=@List.drop_set
def RM:=@Nat.lt_of_mul_lt_mul_right
def RO:=@List.setIfInBounds_toArray
def RR:=@Nat.add_mul_div_left
def RT:=@List.mem_of_mem_drop
def RW:=@Array.getElem?_range
def R8:=@Nat.add_mul_mod_self_left
def R9:=@List.mem_or_eq_of_mem_set
def Sa:=@Nat.mod_eq_of_lt
def Sb:=@Nat.le_max_right
def Sc:=@List.take_succ_cons
def Sd:=@List.take_set_of_le
def Se:=@List.replicate_succ
def Sf:=@Nat.le_of_lt
def Sg:=@List.eq_of_mem_replicate
def Sh:=@List.map_replicate
def Sk:=@List.getElem?_cons_succ
def Sn:=@List.foldl_cons
def Sq:=@Array.getElem?_map
def Ss:=@Nat.testBit_eq_decide_div_mod_eq
def St:=@Nat.le_mul_of_pos_left
def Sw:=@List.range_succ_eq_map
def Sx:=@List.getElem?_set_self
def SD:=@Tryz.underlying28
def SF:=@List.replicate_append_replicate
def SJ:=@Bool.eq_false_iff
def SM:=@List.mem_range
def SO:=@Sem.run_bind
def SP:=@List.map_nil
def SR:=@Tryz.underlying4
def SU:=@List.any_eq_true
def SZ:=@Array.getElem?_setIfInBounds
def S6:=@Nat.mul_pos
def S7:=@List.map_congr_left
def S8:=@List.flatMap_append
def Ta:=@Int.natAbs_zero
def Tb:=@Array.length_toList
def Te:=@Nat.mul_lt_mul_of_pos_left
def Tg:=@Nat.mul_lt_mul_of_lt_of_le
theorem n_m {α:Sort _} (x:α):∃ y,x=y:=⟨x,rfl⟩
def B32:Nat:=4294967296
theorem zh:B32=4294967296:=rfl
theorem yj:0 < B32:=by decide
theorem qbn:1 < B32:=by decide
def val : List Nat -> Nat
 | []=>0
 | d :: r=>d+B32 * val r
@[simp] theorem val_nil:val []=0:=rfl
@[simp] theorem val_cons (d:Nat) (r:List Nat):val (d :: r)=d+B32 * val r:=rfl
def vg (ds:List Nat):Prop:=∀ d ∈ ds,d < B32
theorem vg.nil:vg []:=fun _ h=>by cases h
theorem vg.cons {d:Nat} {r:List Nat} (hd:d < B32) (h:vg r):vg (d :: r):=fun x hx=>by
 rcases pQ.1 hx with rfl | hx
 · exact hd
 · exact h x hx
theorem vg.head {d:Nat} {r:List Nat} (h:vg (d :: r)):d < B32:=h d (r5)
theorem vg.tail {d:Nat} {r:List Nat} (h:vg (d :: r)):vg r:=fun x hx=>h x (rz _ hx)
theorem vg.take {ds:List Nat} (h:vg ds) (k:Nat):vg (ds.take k):=fun x hx=>h x (tl hx)
theorem vg.drop {ds:List Nat} (h:vg ds) (k:Nat):vg (ds.drop k):=fun x hx=>h x (RT hx)
theorem vg.append {xs ys:List Nat} (h:vg xs) (k:vg ys):vg (xs ++ ys):=fun x hx=>by
 rcases rj.1 hx with hx | hx
 · exact h x hx
 · exact k x hx
theorem vg.get {ds:List Nat} (h:vg ds) (j:Nat) (hj:j < ds.length):ds[j] < 4294967296:=h _ (pt hj)
theorem vg.replicate (n:Nat):vg (List.replicate n 0):=fun x hx=>by
 rw [(List.mem_replicate.1 hx).2]; decide
theorem vg.set {ds:List Nat} (h:vg ds) (k d:Nat) (hd:d < B32):vg (ds.set k d):=fun x hx=>by
 rcases R9 hx with hx | rfl
 · exact h x hx
 · exact hd
theorem val_append (xs ys:List Nat):val (xs ++ ys)=val xs+B32 ^ xs.length * val ys:=by
 induction xs with
 | nil=>simp
 | cons d r ih=>simp only [rI,val_cons,ih,pL,se]; rw [ri,tO]; congr 2; rw [<- rT,sj B32]
theorem jk (ds:List Nat) (k:Nat) (hk:k<=ds.length):val ds=val (ds.take k)+B32 ^ k * val (ds.drop k):=by
 have h:=val_append (ds.take k) (ds.drop k);rw [wj] at h;rw [h,pA,sh hk]
theorem wae (ds:List Nat) (d:Nat):val (ds ++ [d])=val ds+B32 ^ ds.length * d:=by
 rw [val_append]; simp
theorem uab (n:Nat):val (List.replicate n 0)=0:=by
 induction n with
 | zero=>rfl
 | succ n ih=>rw [Se,val_cons,ih]; rfl
theorem jy {ds:List Nat} (h:vg ds):val ds < B32 ^ ds.length:=by
 induction ds with
 | nil=>simp
 | cons d r ih =>
   have h1:=ih h.tail;have h2:=h.head;have h3:B32 * (val r+1)<=B32 * B32 ^ r.length:=sE _ h1;rw [val_cons,pL,se,sj _ B32];rw [ri] at h3;omega
def dg (n:Nat):List Nat:=if _h:n=0 then [] else (n % B32) :: dg (n / B32)
termination_by n
decreasing_by exact Nat.div_lt_self (by omega) qbn
theorem qm:dg 0=[]:=by rw [dg]; simp
theorem ja0 {n:Nat} (h:n ≠ 0):dg n=(n % B32) :: dg (n / B32):=by rw [dg]; simp [h]
theorem qg (n:Nat):val (dg n)=n:=by
 induction n using Nat.strongRecOn with
 | _ n ih =>
   by_cases h:n=0
   · subst h; rw [qm]; rfl
   · rw [ja0 h,val_cons,ih _ (Nat.div_lt_self (by omega) qbn)];exact tw n B32
theorem qam (n:Nat):vg (dg n):=by
 induction n using Nat.strongRecOn with
 | _ n ih =>
   by_cases h:n=0
   · subst h; rw [qm]; exact vg.nil
   · rw [ja0 h]; exact vg.cons (te _ yj) (ih _ (Nat.div_lt_self (by omega) qbn))
theorem ubm (d r:Nat) (hd:d < B32) (hr:d+B32 * r ≠ 0):dg (d+B32 * r)=d :: dg r:=by
 rw [ja0 hr,R8,Sa hd,RR _ _ yj,Pk hd,rh]
def xac (ds : List Nat) : Nat -> Nat
 | 0=>0
 | n+1=>if ds.getD n 0=0 then xac ds n else n+1
theorem uao (ds:List Nat) (n:Nat):xac ds n<=n:=by
 induction n with
 | zero=>simp [xac]
 | succ n ih=>unfold xac; split <;> omega
theorem ycj (d:Nat) (r:List Nat) (n:Nat):xac (d :: r) (n+1)=if xac r n=0 then (if d=0 then 0 else 1) else xac r n+1:=by
 induction n with
 | zero=>simp [xac]
 | succ n ih =>
   rw [xac];simp only [ss]
   by_cases h:r.getD n 0=0
   · rw [if_pos h,ih]; simp only [xac,h,if_true]
   · rw [if_neg h]; simp only [xac,h,if_false]; simp
theorem gat (n:Nat):dg n=[] ↔ n=0:=by
 by_cases h:n=0
 · subst h; simp [qm]
 · rw [ja0 h]; simp [h]
theorem kbj {ds:List Nat} (h:vg ds):dg (val ds)=ds.take (xac ds ds.length):=by
 induction ds with
 | nil=>simp [qm,xac]
 | cons d r ih =>
   have h1:=ih h.tail;rw [pL,ycj]
   by_cases hr:xac r r.length=0
   · rw [hr,s9,gat] at h1;rw [if_pos hr,val_cons,h1]
     by_cases hd:d=0
     · subst hd; simp [qm]
     · rw [if_neg hd,wy,s8];have:=ubm d 0 h.head (by omega);rw [wy,s8,qm] at this;rw [this]; simp
   · rw [if_neg hr,Sc,<- h1,val_cons,ubm d _ h.head];intro h0;have h2:val r=0:=by
      rcases tR (val r) with h3 | h3
      · exact h3
      · have:=S6 yj h3; omega
     rw [h2,qm] at h1;have h4:(r.take (xac r r.length)).length=0:=by rw [<- h1]; rfl
     rw [pA] at h4;have:=uao r r.length;omega
theorem jah {ds:List Nat} (h:vg ds):(dg (val ds)).length=xac ds ds.length:=by
 rw [kbj h,pA];have:=uao ds ds.length;omega
theorem yf {n k:Nat} (h:n < B32 ^ k):(dg n).length<=k:=by
 induction k generalizing n with
 | zero => rw [Nat.pow_zero] at h; have : n = 0 := by omega
           subst this; rw [qm]; simp
 | succ k ih =>
   by_cases h0:n=0
   · subst h0; rw [qm]; simp
   · rw [ja0 h0,pL];have:n / B32 < B32 ^ k:=by
      rw [se] at h;exact tQ (by rw [sj]; exact h)
     have:=ih this;omega
theorem xae (n:Nat):n < B32 ^ (dg n).length:=by
 have:=jy (qam n)
 rwa [qg] at this
theorem yu {m n:Nat} (h:m<=n):(dg m).length<=(dg n).length:=
 yf (sw h (xae n))
theorem zi {ds:List Nat} (h:vg ds):(dg (val ds)).length<=ds.length:=yf (jy h)
theorem qar {m n:Nat} (h:(dg m).length < (dg n).length):m < n:=by
 rcases tG m n with h1 | h1
 · exact h1
 · have:=yu h1; omega
theorem za5 (m n:Nat):(dg (m+n)).length<=max (dg m).length (dg n).length+1:=by
 apply yf;have h1:=xae m;have h2:=xae n;have h3:B32 ^ (dg m).length<=B32 ^ max (dg m).length (dg n).length:=rS yj (Nat.le_max_left _ _);have h4:B32 ^ (dg n).length<=B32 ^ max (dg m).length (dg n).length:=rS yj (Sb _ _);rw [se];have:B32 ^ max (dg m).length (dg n).length * 2<=B32 ^ max (dg m).length (dg n).length * B32:=sE _ (by decide);omega
theorem gbv {n:Nat} (h:n ≠ 0):B32 ^ ((dg n).length - 1)<=n:=by
 rcases tG n (B32 ^ ((dg n).length - 1)) with h1 | h1
 · have h2:=yf h1;have h3:dg n ≠ []:=fun e=>h ((gat n).1 e)
   have h4:0 < (dg n).length:=rA.2 h3;omega
 · exact h1
theorem vak {n:Nat} (h:n ≠ 0):0 < (dg n).length:=by
 have h3:dg n ≠ []:=fun e=>h ((gat n).1 e)
 exact rA.2 h3
theorem ka0 {n:Nat} (h:(dg n).length=0):n=0:=(gat n).1 (rL h)
theorem va3 {n:Nat} (h0:n ≠ 0) (h:n < B32):dg n=[n]:=by
 rw [ja0 h0,Sa h,Pk h,qm]
theorem kdb (a b:Nat) (ha:a < B32) (aX:b ≠ 0) (hb:b < B32):dg (a+B32 * b)=[a,b]:=by
 rw [ubm a b ha,va3 aX hb];have:=S6 yj (Nat.pos_of_ne_zero aX);omega
theorem ua9 {xs ys : List Nat} (k : Nat) (hx : vg xs) (AX : k < xs.length) (hky : k < ys.length) (hl : xs.length = ys.length)
 (he:xs.drop (k+1)=ys.drop (k+1)) (h:xs[k] < ys[k]):val xs < val ys:=by
 have e1:=jk xs k (by omega);have e2:=jk ys k (by omega);rw [r9 AX,val_cons] at e1;rw [r9 hky,val_cons,<- he] at e2;have h1:=jy (hx.take k);rw [pA,sh (by omega)] at h1;have h2:B32 ^ k * (xs[k]+1+B32 * val (xs.drop (k+1)))<=B32 ^ k * (ys[k]+B32 * val (xs.drop (k+1))):=sE _ (by omega);have h3:B32 ^ k * (xs[k]+1+B32 * val (xs.drop (k+1)))=B32 ^ k * (xs[k]+B32 * val (xs.drop (k+1)))+B32 ^ k:=by
  rw [show xs[k]+1+B32 * val (xs.drop (k+1))=(xs[k]+B32 * val (xs.drop (k+1)))+1 from by omega,ri,ua]
 omega
open Go.RowKit
theorem ja (a:Addr) (n:Nat):(a.add n).block=a.block:=by unfold Addr.add; split <;> rfl
theorem ybk (a:Addr) (i j:Nat):(a.add i).add j=a.add (i+j):=by
 unfold Addr.add
 by_cases hi:i=0 <;> by_cases hj:j=0 <;> simp [hi,hj,tO]
theorem zu (b o n:Nat):(⟨b,o,none⟩:Addr).add n=⟨b,o+n,none⟩:=by unfold Addr.add; split <;> simp_all
def Ext (w w':World):Prop:=Below w.heap.size w w'
theorem Ext.refl (w:World):Ext w w:=Below.refl _ _
theorem Ext.size {w w':World} (h:Ext w w'):w.heap.size<=w'.heap.size:=Below.size h
theorem Ext.trans {a b c:World} (h:Ext a b) (k:Ext b c):Ext a c:=Below.trans h (Below.mono k h.size)
theorem Ext.below {w w':World} (h:Ext w w'):Below w.heap.size w w':=h
theorem Ext.cell {w w':World} (h:Ext w w') {p:Addr} (hp:p.block < w.heap.size):w'.cell? p=w.cell? p:=Below.cell h hp
theorem Ext.frozen {w w':World} (h:Ext w w') {p:Addr} (hp:p.block < w.heap.size):w'.frozen? p=w.frozen? p:=Below.frozen h hp
theorem Ext.alloc {w w':World} (h:Ext w w') (o:Obj):Ext w (w'.alloc o):=Below.alloc h h.size o
theorem Ext.setCell {w w':World} (h:Ext w w') {p:Addr} (hp:w.heap.size<=p.block) (u:Value):Ext w (w'.setCell p u):=Below.setCell h hp u
theorem Ext.drew {w w':World} (h:Ext w w'):Ext w w'.drew:=Below.drew h
theorem Ext.drewN {w w':World} (h:Ext w w') (n:Nat):Ext w (w'.drewN n):=by
 have h':=h.below;exact ⟨h'.os,h'.tape,h'.output,h'.size,h'.block⟩
theorem Ext.cells {W w1:World} (hb:Ext W w1):(∀ b o,b < W.heap.size->w1.cell? ⟨b,o,none⟩=W.cell? ⟨b,o,none⟩)/\(∀ b o,b < W.heap.size->w1.frozen? ⟨b,o,none⟩=W.frozen? ⟨b,o,none⟩):=
 ⟨fun b o h=>hb.cell (p:=⟨b,o,none⟩) h,fun b o h=>hb.frozen (p:=⟨b,o,none⟩) h⟩
def uj (w:World) (A:Option Addr) (ds:List Nat):Prop:=
 vg ds/\(0 < ds.length->∃ ad,A=some ad/\ad.block < w.heap.size/\∀ j (h:j < ds.length),w.cell? (ad.add j)=some (.int .u32 (ds[j]:Nat)))
theorem uj.ext {w w':World} {A:Option Addr} {ds:List Nat} (h:uj w A ds) (k:Ext w w'):uj w' A ds:=
 ⟨h.1,fun hl=>by
   obtain ⟨ad,e,hb,hc⟩:=h.2 hl
   exact ⟨ad,e,pw hb k.size,fun j hj=>(k.cell (by rw [ja]; exact hb)).trans (hc j hj)⟩⟩
theorem uj.at_ {w:World} {A:Option Addr} {ds:List Nat} (h:uj w A ds) (k:Nat) (hk:k < ds.length) :
 ∃ ad,A=some ad/\ad.block < w.heap.size/\w.cell? (ad.add k)=some (.int .u32 (ds[k]:Nat))/\ds[k] < 4294967296:=by
 obtain ⟨ad,e,hb,hc⟩:=h.2 (by omega);exact ⟨ad,e,hb,hc k hk,h.1.get k hk⟩
theorem uj.xS {w:World} {A:Option Addr} {ds:List Nat} (h:uj w A ds) (k:Nat) (hk:k < ds.length) :
 ∃ (ad:Addr) (x:Nat),A=some ad/\ad.block < w.heap.size/\w.cell? (ad.add k)=some (.int .u32 (x:Nat))/\x < 4294967296/\Hid (ds[k]?=some x):=by
 obtain ⟨ad,e,hb,hc⟩:=h.2 (by omega);exact ⟨ad,ds[k],e,hb,hc k hk,h.1.get k hk,po hk⟩
theorem uj.nil (w:World) (A:Option Addr):uj w A []:=⟨vg.nil,fun h=>absurd h (by simp)⟩
theorem uj.take {w:World} {A:Option Addr} {ds:List Nat} (h:uj w A ds) (k:Nat):uj w A (ds.take k):=
 ⟨h.1.take k,fun hl=>by
   rw [pA] at hl;obtain ⟨ad,e,hb,hc⟩:=h.2 (by omega);refine ⟨ad,e,hb,fun j hj=>?_⟩;rw [pA] at hj
   rw [hc j (by omega),tz]⟩
theorem uj.drop {w:World} {A:Option Addr} {ds:List Nat} (h:uj w A ds) (k cap:Nat) (hk:k<=ds.length) (hc:ds.length<=cap) :
 uj w (if cap=k then A else A.map (·.add k)) (ds.drop k):=
 ⟨h.1.drop k,fun hl=>by
   rw [re] at hl;obtain ⟨ad,rfl,hb,aj⟩:=h.2 (by omega);rw [if_neg (by omega)];refine ⟨ad.add k,rfl,by rw [ja]; exact hb,fun j hj=>?_⟩;rw [re] at hj
   rw [ybk,aj (k+j) (by omega),u9]⟩
def jc (w:World) (v:Value) (ds:List Nat):Prop:=
 ∃ A c,v=.slice A ds.length c/\ds.length<=c/\c<=9223372036854775807/\uj w A ds
theorem jc.ext {w w':World} {v:Value} {ds:List Nat} (h:jc w v ds) (k:Ext w w'):jc w' v ds:=by
 obtain ⟨A,c,e,h1,h2,h3⟩:=h;exact ⟨A,c,e,h1,h2,h3.ext k⟩
theorem jc.kq {w:World} {v:Value} {ds:List Nat} (h:jc w v ds):vg ds:=by
 obtain ⟨A,c,e,h1,h2,h3⟩:=h;exact h3.1
theorem jc.nil (w:World):jc w (.slice none 0 0) []:=⟨none,0,rfl,by simp,by simp,uj.nil _ _⟩
def jr (ds:List Nat):List Value:=ds.map fun d=>Value.int .u32 (d:Nat)
theorem xaa (ds:List Nat):(jr ds).length=ds.length:=by simp [jr]
theorem va1 (ds:List Nat) (i:Nat) (h:i < ds.length):(jr ds)[i]?=some (.int .u32 (ds[i]:Nat)):=by
 simp [jr,po h]
theorem gbs (ds:List Nat):∀ v ∈ jr ds,v.oneCell'=true:=by
 intro v hv;obtain ⟨d,_,rfl⟩:=pZ.1 hv
 rfl
theorem gcr (ds:List Nat) (i d:Nat):(jr ds).toArray.setIfInBounds i (.int .u32 (d:Nat))=(jr (ds.set i d)).toArray:=by
 simp [jr,List.map_set]
def Row (w:World) (g:Nat) (ds:List Nat):Prop:=w.heap[g]?=some (.cells (jr ds).toArray 84 (0,0))
section
variable {w w':World} {g:Nat} {ds:List Nat}
theorem Row.lt (h:Row w g ds):g < w.heap.size:=by
 rcases tG g w.heap.size with af | oJ
 · exact af
 · unfold Row at h; rw [Array.getElem?_eq_none oJ] at h; cases h
theorem Row.cell (h:Row w g ds) (i:Nat) (hi:i < ds.length):w.cell? ⟨g,i,none⟩=some (.int .u32 (ds[i]:Nat)):=by
 rw [cell_of_row w g i _ _ (0,0) h]; simpa using va1 ds i hi
theorem Row.xS (h:Row w g ds) (k:Nat) (hk:k < ds.length):∃ x:Nat,w.cell? ⟨g,k,none⟩=some (.int .u32 (x:Nat))/\w.frozen? ⟨g,k,none⟩=false/\Hid (ds[k]?=some x):=by
 refine ⟨ds[k],?_,?_,po hk⟩
 · rw [cell_of_row w g k _ _ (0,0) h]; simpa using va1 ds k hk
 · unfold Row at h;simp [World.frozen?,h]
theorem Row.frozen (h:Row w g ds) (i:Nat):w.frozen? ⟨g,i,none⟩=false:=by
 unfold Row at h;simp [World.frozen?,h]
theorem Row.new (w:World) (ds:List Nat):Row (w.alloc (.cells (jr ds).toArray 84)) w.heap.size ds:=heap_alloc_new w _
theorem Row.xD (h:Row w g ds) (i d:Nat):Row (w.setCell ⟨g,i,none⟩ (.int .u32 (d:Nat))) g (ds.set i d):=by
 unfold Row at h ⊢;rw [<- gcr];simp [World.setCell,RE,h]
theorem Row.drewN (h:Row w g ds) (n:Nat):Row (w.drewN n) g ds:=h
theorem Row.alloc (h:Row w g ds) (o:Obj):Row (w.alloc o) g ds:=(Below.heap_alloc w o g h.lt).trans h
theorem Row.far (h:Row w g ds) {p:Addr} (hp:g ≠ p.block) (u:Value):Row (w.setCell p u) g ds:=(Below.heap_setCell w p u g hp).trans h
theorem Row.below {B:Nat} (h:Row w g ds) (hb:Below B w w') (hg:g < B):Row w' g ds:=(hb.block g hg).trans h
theorem Row.ext (h:Row w g ds) (hb:Ext w w'):Row w' g ds:=Row.below h hb h.lt
theorem Row.qaS (h:Row w g ds) (hd:vg ds):uj w (some ⟨g,0,none⟩) ds:=
 ⟨hd,fun _=>⟨_,rfl,h.lt,fun j hj=>by rw [zu,rh]; exact h.cell j hj⟩⟩
theorem Row.kO (h:Row w g ds) (hd:vg ds) (n c:Nat) (hn:ds.length=n) (hc:n<=c) (lD:c<=9223372036854775807):jc w (.slice (some ⟨g,0,none⟩) n c) ds:=by
 subst hn; exact ⟨_,c,rfl,hc,lD,h.qaS hd⟩
theorem Row.qaC (h:Row w g ds) (hd:vg ds) (c:Nat) (hc:ds.length<=c) (lD:c<=9223372036854775807):jc w (.slice (some ⟨g,0,none⟩) ds.length c) ds:=
 ⟨_,c,rfl,hc,lD,h.qaS hd⟩
end
theorem vcx:(Tryz.prog.info? 84).map (fun i=>(i.zero,i.size,i.bytes))=some (some (.int .u32 0),1,4):=by kernel_rfl
theorem jbd:(Tryz.prog.info? 84).map (·.size)=some 1:=by kernel_rfl
theorem qaa (n:Int) (h0:0<=n) (h1:n<=35184372088832) (w:World) :
 (Instr.makeSlice 28 (.int .i64 n) (.int .i64 n)).run Tryz.prog w =
   .ok (.slice (some ⟨w.heap.size,0,none⟩) n.toNat n.toNat) (w.alloc (.cells (jr (List.replicate n.toNat 0)).toArray 84)):=by
 obtain ⟨i0,hi,iV,iI,iH⟩:=info_parts vcx;have key:madeCells (Value.int .u32 0).cells (n.toNat * i0.size)=(jr (List.replicate n.toNat 0)).toArray:=by
  rw [iI,ua];apply Array.ext';simp only [madeCells,jr,Sh];rw [Array.toList_map,Array.toList_range];apply sR
  · simp
  · intro k h1 h2;simp [Value.cells,Nat.mod_one]
 rw [run_make w 28 84 i0 (.int .u32 0) SD hi iV .i64 .i64 n n h0 (by omega) (by rw [iH]; omega) (by omega),key]
def jh (a b:Int):Int:=if a < b then -1 else if b < a then 1 else 0
theorem zak (a b:Int):-1<=jh a b/\jh a b<=1:=by unfold jh; split <;> (try split) <;> omega
theorem yag {a b:Int} (h:a < b):jh a b=-1:=if_pos h
theorem qaq {a b:Int} (h:b < a):jh a b=1:=by unfold jh; rw [if_neg (by omega),if_pos h]
theorem wz {a b:Int} (h:a=b):jh a b=0:=by unfold jh; rw [if_neg (by omega),if_neg (by omega)]
def Only (g:Nat) (w w':World):Prop:=w.grownBy w' (some g)
theorem Only.g {g:Nat} {w w':World} (h:Only g w w'):w.grownBy w' (some g):=h
theorem Only.refl (g:Nat) (w:World):Only g w w:=World.grownBy.refl w _
theorem Only.size {g:Nat} {w w':World} (h:Only g w w'):w.heap.size<=w'.heap.size:=World.grownBy.size h
theorem Only.setCell {g:Nat} {w w':World} (h:Only g w w') (k:Nat) (u:Value):Only g w (w'.setCell ⟨g,k,none⟩ u):=by
 have h':=h.g;exact ⟨h'.os,h'.tape,h'.output,by simpa [World.setCell] using h'.size,fun i hi ax=>(Below.heap_setCell w' ⟨g,k,none⟩ u i (fun e=>ax (by rw [e]))).trans (h'.block i hi ax)⟩
theorem Only.drewN {g:Nat} {w w':World} (h:Only g w w') (n:Nat):Only g w (w'.drewN n):=by
 have h':=h.g;exact ⟨h'.os,h'.tape,h'.output,h'.size,h'.block⟩
theorem Only.trans {g:Nat} {a b c:World} (h:Only g a b) (k:Only g b c):Only g a c:=
 ⟨(World.grownBy.os k).trans (World.grownBy.os h),(World.grownBy.tape k).trans (World.grownBy.tape h),(World.grownBy.output k).trans (World.grownBy.output h),py h.size k.size,
   fun i hi ax=>(rr k i (pw hi h.size) ax).trans (rr h i hi ax)⟩
theorem Only.q9 {g:Nat} {w w':World} (h:Ext w w'):Only g w w':=by
 have h':=h.below;exact ⟨h'.os,h'.tape,h'.output,h'.size,fun i hi _=>h'.block i hi⟩
theorem Only.ext {g:Nat} {w0 w w':World} (hx:Ext w0 w) (h:Only g w w') (hg:w0.heap.size<=g):Ext w0 w':=by
 have h':=hx.below
 exact ⟨(World.grownBy.os h).trans h'.os,(World.grownBy.tape h).trans h'.tape,(World.grownBy.output h).trans h'.output,py h'.size h.size,
  fun i hi=>(rr h i (pw hi h'.size) (fun e=>by injection e with e; omega)).trans (h'.block i hi)⟩
theorem Only.block {g:Nat} {w w':World} (h:Only g w w') {i:Nat} (hi:i < w.heap.size) (ax:i ≠ g):w'.heap[i]?=w.heap[i]?:=rr h i hi (fun e=>ax (by injection e))
theorem Only.cell {g:Nat} {w w':World} (h:Only g w w') {p:Addr} (hp:p.block < w.heap.size) (ax:p.block ≠ g):w'.cell? p=w.cell? p:=pB (h.block hp ax)
theorem uj.only {g:Nat} {w w':World} {A:Option Addr} {ds:List Nat} (h:uj w A ds) (k:Only g w w') (ax:∀ ad,A=some ad->ad.block ≠ g):uj w' A ds:=
 ⟨h.1,fun hl=>by
   obtain ⟨ad,e,hb,hc⟩:=h.2 hl
   exact ⟨ad,e,pw hb k.size,fun j hj=>(k.cell (by rw [ja]; exact hb) (by rw [ja]; exact ax ad e)).trans (hc j hj)⟩⟩
theorem Row.only {g g':Nat} {w w':World} {ds:List Nat} (h:Row w g ds) (k:Only g' w w') (ax:g ≠ g'):Row w' g ds:=(k.block h.lt ax).trans h
def waa (B:Nat) (v:Value):Prop:=∀ ad n c,v=.slice (some ad) n c->B<=ad.block
theorem waa.mk (B:Nat) (ad:Addr) (n c:Nat) (h:B<=ad.block):waa B (.slice (some ad) n c):=by
 intro ad' n' c' e;injection e with e1
 injection e1 with e2
 rw [<- e2]; exact h
theorem waa.nil (B n c:Nat):waa B (.slice none n c):=by
 intro ad' n' c' e;injection e with e1
 cases e1
theorem waa.mono {B B':Nat} {v:Value} (h:waa B v) (hB:B'<=B):waa B' v:=fun ad n c e=>py hB (h ad n c e)
def gar (n:Nat) (w:World) (e:Ending) (w':World):Prop:=∃ v,e=.returned v/\jc w' v (dg n)/\Ext w w'
end Go.Proofs.YtcepajijiabkmaaGreat

set_option maxRecDepth 100000
set_option maxHeartbeats 8000000
namespace Go.Proofs.YtcepajijiabkmaaGreat
open Go.RowKit
theorem yap {k:IntKind} {a b:Int} (h:a=b):Ending.returned (.int k a)=.returned (.int k b):=by rw [h]
theorem qcu {k l:IntKind} {a b c d:Int} (h:a=b) (h':c=d):Ending.returned (.tuple #[.int k a,.int l c])=.returned (.tuple #[.int k b,.int l d]):=by rw [h,h']
theorem wc3 (m:Nat) (h:m < 4294967296):m / 2147483648=(m.testBit 31).toNat:=by
 rw [Ss];have:m / 2 ^ 31 < 2:=by omega
 by_cases h1:m / 2 ^ 31 % 2=1
 · simp only [h1,decide_true,Bool.toNat_true]; omega
 · simp only [h1,decide_false,Bool.toNat_false]; omega
theorem wbs (m:Nat) (h:m < 4294967296):m.testBit 31=decide (2147483648<=m):=by
 rw [Ss]
 by_cases h1:2147483648<=m
 · simp only [h1,decide_true,decide_eq_true_eq]; omega
 · simp only [h1,decide_false,decide_eq_false_iff_not]; omega
def bor (x y c:Int):Int:=if x < y+c then 1 else 0
theorem za1 (x y c:Int):0<=bor x y c/\bor x y c<=1:=by unfold bor; split <;> omega
theorem gcs (x y c:Int) (x0:0<=x) (x1:x < 4294967296) (y0:0<=y) (y1:y < 4294967296) (c0:0<=c) (c1:c<=1) :
 bits .or .u32 (bits .and .u32 (bits .xor .u32 IntKind.u32.max x) y) (bits .and .u32 (bits .xor .u32 IntKind.u32.max (bits .xor .u32 x y)) ((x - y - c) % 4294967296)) / 2147483648=bor x y c:=by
 obtain ⟨a,rfl⟩:=sI x0;obtain ⟨b,rfl⟩:=sI y0;obtain ⟨k,rfl⟩:=sI c0;obtain ⟨d,hd⟩:=sI (show 0<=((a:Int) - b - k) % 4294967296 by omega);have eH:d < 4294967296:=by omega
 have ha:a < 4294967296:=by omega
 have hb:b < 4294967296:=by omega
 have hm:IntKind.u32.max=((4294967295:Nat):Int):=by decide
 have lx:∀ p q:Nat,p < 4294967296->q < 4294967296->p ^^^ q < 4294967296:=fun p q hp hq=>Nat.xor_lt_two_pow (n:=32) hp hq
 have la:∀ p q:Nat,q < 4294967296->p &&& q < 4294967296:=fun p q hq=>Nat.and_lt_two_pow (n:=32) _ hq
 have lo:∀ p q:Nat,p < 4294967296->q < 4294967296->p ||| q < 4294967296:=fun p q hp hq=>Nat.or_lt_two_pow (n:=32) hp hq
 rw [hd,hm,u32_xor_nat _ _ (by omega) ha,u32_and_nat _ _ (lx _ _ (by omega) ha) hb,u32_xor_nat _ _ ha hb,u32_xor_nat _ _ (by omega) (lx _ _ ha hb),
  u32_and_nat _ _ (lx _ _ (by omega) (lx _ _ ha hb)) eH,u32_or_nat _ _ (la _ _ hb) (la _ _ eH)]
 have hl:=lo _ _ (la (4294967295 ^^^ a) b hb) (la (4294967295 ^^^ (a ^^^ b)) d eH);have ht:=wc3 _ hl;rw [Nat.testBit_or,Nat.testBit_and,Nat.testBit_and,Nat.testBit_xor,Nat.testBit_xor,Nat.testBit_xor,wbs a ha,wbs b hb,wbs d eH] at ht;have OC:(4294967295:Nat).testBit 31=true:=by decide
 rw [OC] at ht;have e:∀ n:Nat,((n:Int) / 2147483648)=((n / 2147483648:Nat):Int):=fun n=>by omega
 rw [e,ht];unfold bor
 by_cases p:2147483648<=a <;> by_cases q:2147483648<=b <;> by_cases r:2147483648<=d <;> by_cases s:(a:Int) < b+k <;> simp [p,q,r,s] <;> omega
theorem add32 (x y c:Int) (w:World) (x0:0<=x) (x1:x < 4294967296) (y0:0<=y) (y1:y < 4294967296) (c0:0<=c) (c1:c<=1) :
 Calls Tryz.prog 125 #[.int .u32 x,.int .u32 y,.int .u32 c] w fun e w' =>
  e=.returned (.tuple #[.int .u32 ((x+y+c) % 4294967296),.int .u32 ((x+y+c) / 4294967296)])/\w=w':=by
 go_enter Tryz.func125,Tryz.ntmps125
 go_wp2
 go_ret2
 exact ⟨rfl,rfl⟩
theorem gce (x y:Int) (w:World) (x0:0<=x) (x1:x < 4294967296) (y0:0<=y) (y1:y < 4294967296) :
 Calls Tryz.prog 154 #[.int .u32 x,.int .u32 y] w fun e w' =>
  e=.returned (.tuple #[.int .u32 (x * y / 4294967296),.int .u32 (x * y % 4294967296)])/\w=w':=by
 have h0:0<=x * y:=Int.mul_nonneg x0 y0;have h1:x * y<=4294967295 * 4294967295:=Int.mul_le_mul (by omega) (by omega) y0 (by omega);go_enter Tryz.func154,Tryz.ntmps154
 go_wp2
 go_ret2
 exact ⟨rfl,rfl⟩
theorem xcc (x y c:Int) (w:World) (x0:0<=x) (x1:x < 4294967296) (y0:0<=y) (y1:y < 4294967296) (c0:0<=c) (c1:c<=1) :
 Calls Tryz.prog 127 #[.int .u32 x,.int .u32 y,.int .u32 c] w fun e w' =>
  e=.returned (.tuple #[.int .u32 ((x - y - c) % 4294967296),.int .u32 (bor x y c)])/\w=w':=by
 have hs:¬ IntKind.u32.signed=true:=by decide
 go_enter Tryz.func127,Tryz.ntmps127
 go_wp2
 go_ret2
 rw [gcs x y c x0 x1 y0 y1 c0 c1];exact ⟨qcu (by omega) rfl,rfl⟩
theorem wc2 (h l d:Int) (w:World) (h0:0<=h) (h1:h < d) (l0:0<=l) (l1:l < 4294967296) (d1:d < 4294967296) :
 Calls Tryz.prog 155 #[.int .u32 h,.int .u32 l,.int .u32 d] w fun e w' =>
  e=.returned (.tuple #[.int .u32 ((h * 4294967296+l) / d),.int .u32 ((h * 4294967296+l) % d)])/\∃ n,w'=w.drewN n:=by
 have hd:(d == 0)=false:=by simp; omega
 have FB:(d != 0)=true:=by simp; omega
 have hdh:decide (d<=h)=false:=by simp; omega
 have hor:bits .or .u64 (h * 4294967296) l=h * 4294967296+l:=by
  obtain ⟨a,rfl⟩:=sI h0;obtain ⟨b,rfl⟩:=sI l0;have:=u64_or_nat (a * 4294967296) b (by omega) (by omega);rw [nat_join 32 (a * 4294967296) b (by omega) (by omega)] at this;simpa using this
 have kH:0<=(h * 4294967296+l) / d:=Int.ediv_nonneg (by omega) (by omega);have D7:(h * 4294967296+l) / d < 4294967296:=Int.ediv_lt_of_lt_mul (by omega) (by omega);have hr0:0<=(h * 4294967296+l) % d:=Int.emod_nonneg _ (by omega);have qL:(h * 4294967296+l) % d < d:=Int.emod_lt_of_pos _ (by omega);go_enter Tryz.func155,Tryz.ntmps155
 go_wp2
 go_quiet (fail)
 go_wp2
 go_ret2
 exact ⟨rfl,_,rfl⟩
end Go.Proofs.YtcepajijiabkmaaGreat
