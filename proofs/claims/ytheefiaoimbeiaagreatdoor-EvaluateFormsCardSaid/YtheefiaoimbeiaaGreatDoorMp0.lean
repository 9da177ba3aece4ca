/- Plain arithmetic of digit lists in base 2^32, least significant first. No program in sight. -/
import Derived.Test.YtheefiaoimbeiaaGreatDoorRows
import Derived.WalkSpells
import Derived.WalkLawsBesides
import Derived.Lib.Hide
import Derived.BigQuiet
import Derived.Deep.RegionHeld3
import Derived.Deep.DrawnRows
import Derived.Laws.CopyOwn
import Derived.Deep.DeepCutAuto
import Derived.Deep.CutBlock
set_option linter.unusedSimpArgs false
set_option linter.unusedVariables false

set_option linter.defProp false
namespace Go.Proofs.YtheefiaoimbeiaaGreatDoor
def pe:=@World.cell?_setCell_other
def pf:=@Nat.le_refl
def pg:=@List.take_succ_eq_append_getElem
def ph:=@World.cell?_of_block
def pj:=@Bool.and_eq_true
def po:=@Nat.le_trans
def pq:=@List.getElem?_eq_getElem
def pr:=@Nat.lt_of_lt_of_le
def pt:=@List.getElem_mem
def pw:=@List.take_length
def px:=@List.length_take
def py:=@List.length_cons
def pz:=@List.length_append
def pA:=@List.take_of_length_le
def pB:=@List.getD_eq_getElem?_getD
def pC:=@List.length_map
def pD:=@Nat.mul_add
def pE:=@Nat.mul_le_mul_right
def pF:=@List.append_eq_nil_iff
def pG:=@World.cell?_setCell_same
def pH:=@Nat.zero_add
def pI:=@List.mem_cons
def pJ:=@World.frozen?_setCell
def pK:=@Nat.pow_le_pow_right
def pL:=@List.length_drop
def pM:=@Nat.zero_le
def pN:=@List.length_set
def pO:=@Nat.lt_succ_self
def pP:=@Nat.pow_succ
def pQ:=@List.length_nil
def pR:=@List.getElem_cons_zero
def pS:=@Nat.mul_assoc
def pT:=@Nat.add_mul
def pU:=@World.size_alloc
def pV:=@List.eq_nil_of_length_eq_zero
def pW:=@World.grownBy.block
def pX:=@Nat.mul_le_mul_left
def pY:=@List.drop_eq_getElem_cons
def pZ:=@Int.mul_le_mul_of_nonneg_left
def rb:=@List.mem_singleton
def re:=@Nat.mul_comm
def rh:=@Nat.min_eq_left
def ri:=@List.filter_cons
def rj:=@List.cons_append
def rk:=@List.mem_cons_of_mem
def rl:=@List.take_append_drop
def rp:=@List.length_replicate
def rq:=@List.mem_append
def ru:=@List.cons.injEq
def ry:=@Int.eq_ofNat_of_zero_le
def rz:=@Nat.lt_or_ge
def rA:=@Array.getElem?_eq_some_iff
def rB:=@List.mem_cons_self
def rC:=@List.map_append
def rD:=@IntKind.wrap_i64
def rE:=@World.grownBy.output
def rF:=@Nat.pow_pos
def rG:=@List.flatMap_cons
def rH:=@List.mem_of_getElem?
def rI:=@AllReadyH.cons
def rJ:=@List.getElem_map
def rK:=@World.grownBy.tape
def rL:=@List.map_cons
def rM:=@List.not_mem_nil
def rN:=@Nat.mod_lt
def rO:=@Nat.eq_zero_or_pos
def rP:=@Int.natAbs_natCast
def rQ:=@World.cell?_alloc_new
def rR:=@World.grownBy.os
def rS:=@Value.agg.injEq
def rT:=@Nat.mod_add_div
def rU:=@List.drop_zero
def rV:=@Int.toNat_natCast
def rW:=@List.getElem_cons_succ
def rX:=@Array.mk.injEq
def rY:=@Nat.le_succ
def rZ:=@Tryz.ntmps57
def se:=@List.getElem?_drop
def sh:=@World.frozen?_of_block
def si:=@List.sum_append
def sj:=@List.drop_drop
def so:=@IntWalk.i64_in
def ss:=@Tryz.underlying9
def su:=@Nat.pow_add
def sw:=@Nat.one_mul
def sx:=@Nat.add_zero
def sy:=@List.getElem_set_self
def sA:=@List.getElem?_eq_none
def sB:=@Tryz.func57
def sC:=@Nat.lt_of_le_of_lt
def sD:=@List.getElem?_cons_zero
def sE:=@Nat.div_eq_of_lt
def sF:=@List.mem_map
def sG:=@Nat.le_mul_of_pos_left
def sH:=@List.getLast?_eq_getElem?
def sI:=@AllReadyH.nil
def sJ:=@Rat.pow_succ
def sK:=@List.set_append_right
def sL:=@List.mem_filter
def sM:=@Int.mul_le_mul_of_nonneg_right
def sN:=@Array.getElem?_modify
def sO:=@Nat.div_lt_of_lt_mul
def sP:=@List.getElem?_cons_succ
def sQ:=@Nat.mul_zero
def sR:=@List.take_zero
def sS:=@Bool.and_assoc
def sT:=@Nat.mul_left_comm
def sU:=@Int.lt_trichotomy
def sV:=@Nat.mul_lt_mul_of_pos_right
def sW:=@Int.natCast_add
def sX:=@Bool.eq_iff_iff
def sY:=@Array.getElem?_eq_none
def sZ:=@Tryz.ntmps53
def tc:=@Nat.zero_mul
def td:=@Nat.le_div_iff_mul_le
def te:=@List.length_filter_le
def tf:=@Bool.false_eq_true
def tg:=@Nat.mul_pos
def th:=@Nat.mul_one
def ti:=@List.getElem?_eq_some_iff
def tj:=@Tryz.results145
def tl:=@Tryz.results119
def tm:=@List.append_nil
def tn:=@List.all_eq_false
def tp:=@Tryz.ntmps73
def tq:=@Nat.le_of_lt
def tr:=@Tryz.func53
def ts:=@Nat.add_assoc
def tt:=@List.take_succ_cons
def tu:=@List.mem_flatMap
def tw:=@Tryz.results28
def tx:=@List.set_cons_zero
def tz:=@List.filter_append
def tA:=@Array.getElem?_setIfInBounds
def tB:=@Tryz.func73
def tC:=@List.mem_append_right
def tD:=@Tryz.ntmps145
def tE:=@Tryz.ntmps119
def tF:=@List.drop_set
def tG:=@List.any_cons
def tH:=@Nat.mul_lt_mul_of_lt_of_le
def tI:=@Nat.lt_of_mul_lt_mul_right
def tJ:=@List.setIfInBounds_toArray
def tK:=@Nat.add_mul_div_left
def tL:=@Tryz.results92
def tM:=@Tryz.results66
def tN:=@Nat.mul_le_mul
def tO:=@Nat.add_mul_mod_self_left
def tP:=@Int.natAbs_mul
def tQ:=@Int.mul_le_mul
def tR:=@Tryz.underlying4
def tS:=@Nat.mod_eq_of_lt
def tT:=@Nat.pow_le_pow_left
def tU:=@List.take_set_of_le
def tV:=@List.flatMap_append
def tW:=@List.drop_succ_cons
def tX:=@Tryz.ntmps74
def tY:=@Tryz.ntmps70
def tZ:=@Tryz.ntmps60
def ua:=@Tryz.ntmps28
def ub:=@Tryz.func145
def uc:=@Tryz.func119
def ud:=@World.grownBy.size
def ue:=@Tryz.ntmps106
def uf:=@Nat.pos_of_ne_zero
def ug:=@Nat.add_sub_cancel_left
def uh:=@List.sum_singleton
def ui:=@List.set_cons_succ
def uj:=@List.nil_append
def um:=@List.map_singleton
def uo:=@List.getElem_range
def uq:=@List.any_append
def ur:=@List.all_append
def uu:=@Nat.testBit_eq_decide_div_mod_eq
def uw:=@Option.map_eq_some_iff
def ux:=@List.drop_eq_nil_of_le
def uy:=@Tryz.underlying91
def uz:=@Tryz.underlying23
def uA:=@Tryz.ntmps8
def uB:=@Tryz.func74
def uC:=@Tryz.func70
def uD:=@Tryz.func60
def uE:=@Tryz.func28
def uF:=@List.length_range
def uG:=@List.append_assoc
def uH:=@Int.le_refl
def uI:=@Bool.not_eq_true'
def uJ:=@Tryz.ntmps92
def uK:=@Tryz.ntmps66
def uL:=@Tryz.ntmps59
def uM:=@Tryz.func106
def uN:=@Nat.div_lt_iff_lt_mul
def uO:=@World.ownsRow.lt
def uP:=@List.mem_of_mem_take
def uQ:=@Bool.or_eq_false_iff
def uR:=@Tryz.ntmps127
def uS:=@Tryz.func8
def uT:=@Tryz.results131
def uU:=@Tryz.func92
def uV:=@Tryz.func66
def uW:=@Tryz.func59
def uX:=@Option.some.inj
def uY:=@List.getElem_set_ne
def uZ:=@Int.natCast_mul
def vc:=@List.getElem?_append_right
theorem n_m {α:Sort _} (x:α):∃ y,x=y:=⟨x,rfl⟩
def B32:Nat:=4294967296
theorem vdk:B32=4294967296:=rfl
theorem kdm:0 < B32:=by decide
theorem jem:1 < B32:=by decide
def val : List Nat -> Nat
 | []=>0
 | d :: r=>d+B32 * val r
@[simp] theorem val_nil:val []=0:=rfl
@[simp] theorem val_cons (d:Nat) (r:List Nat):val (d :: r)=d+B32 * val r:=rfl
def kdk (ds:List Nat):Prop:=∀ d ∈ ds,d < B32
theorem kdk.nil:kdk []:=fun _ h=>by cases h
theorem kdk.cons {d:Nat} {r:List Nat} (hd:d < B32) (h:kdk r):kdk (d :: r):=fun x hx=>by
 rcases pI.1 hx with rfl | hx
 · exact hd
 · exact h x hx
theorem kdk.head {d:Nat} {r:List Nat} (h:kdk (d :: r)):d < B32:=h d (rB)
theorem kdk.tail {d:Nat} {r:List Nat} (h:kdk (d :: r)):kdk r:=fun x hx=>h x (rk _ hx)
theorem kdk.take {ds:List Nat} (h:kdk ds) (k:Nat):kdk (ds.take k):=fun x hx=>h x (uP hx)
theorem kdk.drop {ds:List Nat} (h:kdk ds) (k:Nat):kdk (ds.drop k):=fun x hx=>h x (List.mem_of_mem_drop hx)
theorem kdk.append {xs ys:List Nat} (h:kdk xs) (k:kdk ys):kdk (xs ++ ys):=fun x hx=>by
 rcases rq.1 hx with hx | hx
 · exact h x hx
 · exact k x hx
theorem kdk.get {ds:List Nat} (h:kdk ds) (j:Nat) (hj:j < ds.length):ds[j] < 4294967296:=h _ (pt hj)
theorem kdk.replicate (n:Nat):kdk (List.replicate n 0):=fun x hx=>by
 rw [(List.mem_replicate.1 hx).2]; decide
theorem kdk.set {ds:List Nat} (h:kdk ds) (k d:Nat) (hd:d < B32):kdk (ds.set k d):=fun x hx=>by
 rcases List.mem_or_eq_of_mem_set hx with hx | rfl
 · exact h x hx
 · exact hd
theorem val_append (xs ys:List Nat):val (xs ++ ys)=val xs+B32 ^ xs.length * val ys:=by
 induction xs with
 | nil=>simp
 | cons d r ih=>simp only [rj,val_cons,ih,py,pP]; rw [pD,ts]; congr 2; rw [<- pS,re B32]
theorem ydn (ds:List Nat) (k:Nat) (hk:k<=ds.length):val ds=val (ds.take k)+B32 ^ k * val (ds.drop k):=by
 have h:=val_append (ds.take k) (ds.drop k);rw [rl] at h;rw [h,px,rh hk]
theorem xdy (ds:List Nat) (d:Nat):val (ds ++ [d])=val ds+B32 ^ ds.length * d:=by
 rw [val_append]; simp
theorem wdv (n:Nat):val (List.replicate n 0)=0:=by
 induction n with
 | zero=>rfl
 | succ n ih=>rw [List.replicate_succ,val_cons,ih]; rfl
theorem qdu {ds:List Nat} (h:kdk ds):val ds < B32 ^ ds.length:=by
 induction ds with
 | nil=>simp
 | cons d r ih =>
   have h1:=ih h.tail;have h2:=h.head;have h3:B32 * (val r+1)<=B32 * B32 ^ r.length:=pX _ h1;rw [val_cons,py,pP,re _ B32];rw [pD] at h3;omega
def dg (n:Nat):List Nat:=if _h:n=0 then [] else (n % B32) :: dg (n / B32)
termination_by n
decreasing_by exact Nat.div_lt_self (by omega) jem
theorem jdn:dg 0=[]:=by rw [dg]; simp
theorem wef {n:Nat} (h:n ≠ 0):dg n=(n % B32) :: dg (n / B32):=by rw [dg]; simp [h]
theorem zdk (n:Nat):val (dg n)=n:=by
 induction n using Nat.strongRecOn with
 | _ n ih =>
   by_cases h:n=0
   · subst h; rw [jdn]; rfl
   · rw [wef h,val_cons,ih _ (Nat.div_lt_self (by omega) jem)];exact rT n B32
theorem yd6 (n:Nat):kdk (dg n):=by
 induction n using Nat.strongRecOn with
 | _ n ih =>
   by_cases h:n=0
   · subst h; rw [jdn]; exact kdk.nil
   · rw [wef h]; exact kdk.cons (rN _ kdm) (ih _ (Nat.div_lt_self (by omega) jem))
theorem jew (d r:Nat) (hd:d < B32) (hr:d+B32 * r ≠ 0):dg (d+B32 * r)=d :: dg r:=by
 rw [wef hr,tO,tS hd,tK _ _ kdm,sE hd,pH]
def kdw (ds : List Nat) : Nat -> Nat
 | 0=>0
 | n+1=>if ds.getD n 0=0 then kdw ds n else n+1
theorem ud7 (ds:List Nat) (n:Nat):kdw ds n<=n:=by
 induction n with
 | zero=>simp [kdw]
 | succ n ih=>unfold kdw; split <;> omega
theorem yfn (d:Nat) (r:List Nat) (n:Nat):kdw (d :: r) (n+1)=if kdw r n=0 then (if d=0 then 0 else 1) else kdw r n+1:=by
 induction n with
 | zero=>simp [kdw]
 | succ n ih =>
   rw [kdw];simp only [List.getD_cons_succ]
   by_cases h:r.getD n 0=0
   · rw [if_pos h,ih]; simp only [kdw,h,if_true]
   · rw [if_neg h]; simp only [kdw,h,if_false]; simp
theorem qeb (n:Nat):dg n=[] ↔ n=0:=by
 by_cases h:n=0
 · subst h; simp [jdn]
 · rw [wef h]; simp [h]
theorem ket {ds:List Nat} (h:kdk ds):dg (val ds)=ds.take (kdw ds ds.length):=by
 induction ds with
 | nil=>simp [jdn,kdw]
 | cons d r ih =>
   have h1:=ih h.tail;rw [py,yfn]
   by_cases hr:kdw r r.length=0
   · rw [hr,sR,qeb] at h1;rw [if_pos hr,val_cons,h1]
     by_cases hd:d=0
     · subst hd; simp [jdn]
     · rw [if_neg hd,sQ,sx];have:=jew d 0 h.head (by omega);rw [sQ,sx,jdn] at this;rw [this]; simp
   · rw [if_neg hr,tt,<- h1,val_cons,jew d _ h.head];intro h0;have h2:val r=0:=by
      rcases rO (val r) with h3 | h3
      · exact h3
      · have:=tg kdm h3; omega
     rw [h2,jdn] at h1;have h4:(r.take (kdw r r.length)).length=0:=by rw [<- h1]; rfl
     rw [px] at h4;have:=ud7 r r.length;omega
theorem vd1 {ds:List Nat} (h:kdk ds):(dg (val ds)).length=kdw ds ds.length:=by
 rw [ket h,px];have:=ud7 ds ds.length;omega
theorem gdk {n k:Nat} (h:n < B32 ^ k):(dg n).length<=k:=by
 induction k generalizing n with
 | zero => rw [Nat.pow_zero] at h; have : n = 0 := by omega
           subst this; rw [jdn]; simp
 | succ k ih =>
   by_cases h0:n=0
   · subst h0; rw [jdn]; simp
   · rw [wef h0,py];have:n / B32 < B32 ^ k:=by
      rw [pP] at h;exact sO (by rw [re]; exact h)
     have:=ih this;omega
theorem gdu (n:Nat):n < B32 ^ (dg n).length:=by
 have:=qdu (yd6 n)
 rwa [zdk] at this
theorem ydq {m n:Nat} (h:m<=n):(dg m).length<=(dg n).length:=
 gdk (sC h (gdu n))
theorem xdk {ds:List Nat} (h:kdk ds):(dg (val ds)).length<=ds.length:=gdk (qdu h)
theorem wd9 {m n:Nat} (h:(dg m).length < (dg n).length):m < n:=by
 rcases rz m n with h1 | h1
 · exact h1
 · have:=ydq h1; omega
theorem kd5 (m n:Nat):(dg (m+n)).length<=max (dg m).length (dg n).length+1:=by
 apply gdk;have h1:=gdu m;have h2:=gdu n;have h3:B32 ^ (dg m).length<=B32 ^ max (dg m).length (dg n).length:=pK kdm (Nat.le_max_left _ _);have h4:B32 ^ (dg n).length<=B32 ^ max (dg m).length (dg n).length:=pK kdm (Nat.le_max_right _ _);rw [pP];have:B32 ^ max (dg m).length (dg n).length * 2<=B32 ^ max (dg m).length (dg n).length * B32:=pX _ (by decide);omega
theorem jd5 (m n:Nat):(dg (m * n)).length<=(dg m).length+(dg n).length:=by
 apply gdk;rw [su];have h1:=gdu m;have h2:=gdu n;exact tH h1 (tq h2) (by have:=rF (n:=(dg n).length) kdm; omega)
theorem ue4 {n:Nat} (h:n ≠ 0):B32 ^ ((dg n).length - 1)<=n:=by
 rcases rz n (B32 ^ ((dg n).length - 1)) with h1 | h1
 · have h2:=gdk h1;have h3:dg n ≠ []:=fun e=>h ((qeb n).1 e)
   have h4:0 < (dg n).length:=List.length_pos_iff.2 h3;omega
 · exact h1
theorem qd5 {n:Nat} (h:n ≠ 0):0 < (dg n).length:=by
 have h3:dg n ≠ []:=fun e=>h ((qeb n).1 e)
 exact List.length_pos_iff.2 h3
theorem zeg {n:Nat} (h:(dg n).length=0):n=0:=(qeb n).1 (pV h)
theorem gd5 {n:Nat} (h0:n ≠ 0) (h:n < B32):dg n=[n]:=by
 rw [wef h0,tS h,sE h,jdn]
theorem zgp (a b:Nat) (ha:a < B32) (hb0:b ≠ 0) (hb:b < B32):dg (a+B32 * b)=[a,b]:=by
 rw [jew a b ha,gd5 hb0 hb];have:=tg kdm (uf hb0);omega
theorem kem {xs ys : List Nat} (k : Nat) (hx : kdk xs) (hkx : k < xs.length) (hky : k < ys.length) (hl : xs.length = ys.length)
 (he:xs.drop (k+1)=ys.drop (k+1)) (h:xs[k] < ys[k]):val xs < val ys:=by
 have e1:=ydn xs k (by omega);have e2:=ydn ys k (by omega);rw [pY hkx,val_cons] at e1;rw [pY hky,val_cons,<- he] at e2;have h1:=qdu (hx.take k);rw [px,rh (by omega)] at h1;have h2:B32 ^ k * (xs[k]+1+B32 * val (xs.drop (k+1)))<=B32 ^ k * (ys[k]+B32 * val (xs.drop (k+1))):=pX _ (by omega);have h3:B32 ^ k * (xs[k]+1+B32 * val (xs.drop (k+1)))=B32 ^ k * (xs[k]+B32 * val (xs.drop (k+1)))+B32 ^ k:=by
  rw [show xs[k]+1+B32 * val (xs.drop (k+1))=(xs[k]+B32 * val (xs.drop (k+1)))+1 from by omega,pD,th]
 omega
open Go.RowKit
theorem zc1 (a:Addr) (n:Nat):(a.add n).block=a.block:=by unfold Addr.add; split <;> rfl
theorem jfl (a:Addr) (i j:Nat):(a.add i).add j=a.add (i+j):=by
 unfold Addr.add
 by_cases hi:i=0 <;> by_cases hj:j=0 <;> simp [hi,hj,ts]
theorem kdo (b o n:Nat):(⟨b,o,none⟩:Addr).add n=⟨b,o+n,none⟩:=by unfold Addr.add; split <;> simp_all
def Ext (w w':World):Prop:=Below w.heap.size w w'
theorem Ext.refl (w:World):Ext w w:=Below.refl _ _
theorem Ext.size {w w':World} (h:Ext w w'):w.heap.size<=w'.heap.size:=Below.size h
theorem Ext.trans {a b c:World} (h:Ext a b) (k:Ext b c):Ext a c:=Below.trans h (Below.mono k h.size)
theorem Ext.below {w w':World} (h:Ext w w'):Below w.heap.size w w':=h
theorem Ext.cell {w w':World} (h:Ext w w') {p:Addr} (hp:p.block < w.heap.size):w'.cell? p=w.cell? p:=Below.cell h hp
theorem Ext.frozen {w w':World} (h:Ext w w') {p:Addr} (hp:p.block < w.heap.size):w'.frozen? p=w.frozen? p:=Below.frozen h hp
theorem Ext.alloc {w w':World} (h:Ext w w') (o:Obj):Ext w (w'.alloc o):=Below.alloc h h.size o
theorem Ext.setCell {w w':World} (h:Ext w w') {p:Addr} (hp:w.heap.size<=p.block) (u:Value):Ext w (w'.setCell p u):=Below.setCell h hp u
theorem Ext.drew {w w':World} (h:Ext w w'):Ext w w'.drew:=Below.drew h
theorem Ext.drewN {w w':World} (h:Ext w w') (n:Nat):Ext w (w'.drewN n):=by
 have h':=h.below;exact ⟨h'.os,h'.tape,h'.output,h'.size,h'.block⟩
theorem Ext.cells {W w1:World} (hb:Ext W w1):(∀ b o,b < W.heap.size->w1.cell? ⟨b,o,none⟩=W.cell? ⟨b,o,none⟩)/\(∀ b o,b < W.heap.size->w1.frozen? ⟨b,o,none⟩=W.frozen? ⟨b,o,none⟩):=
 ⟨fun b o h=>hb.cell (p:=⟨b,o,none⟩) h,fun b o h=>hb.frozen (p:=⟨b,o,none⟩) h⟩
def ydm (w:World) (A:Option Addr) (ds:List Nat):Prop:=
 kdk ds/\(0 < ds.length->∃ ad,A=some ad/\ad.block < w.heap.size/\∀ j (h:j < ds.length),w.cell? (ad.add j)=some (.int .u32 (ds[j]:Nat)))
theorem ydm.ext {w w':World} {A:Option Addr} {ds:List Nat} (h:ydm w A ds) (k:Ext w w'):ydm w' A ds:=
 ⟨h.1,fun hl=>by
   obtain ⟨ad,e,hb,hc⟩:=h.2 hl
   exact ⟨ad,e,pr hb k.size,fun j hj=>(k.cell (by rw [zc1]; exact hb)).trans (hc j hj)⟩⟩
theorem ydm.at_ {w:World} {A:Option Addr} {ds:List Nat} (h:ydm w A ds) (k:Nat) (hk:k < ds.length) :
 ∃ ad,A=some ad/\ad.block < w.heap.size/\w.cell? (ad.add k)=some (.int .u32 (ds[k]:Nat))/\ds[k] < 4294967296:=by
 obtain ⟨ad,e,hb,hc⟩:=h.2 (by omega);exact ⟨ad,e,hb,hc k hk,h.1.get k hk⟩
theorem ydm.qt {w:World} {A:Option Addr} {ds:List Nat} (h:ydm w A ds) (k:Nat) (hk:k < ds.length) :
 ∃ (ad:Addr) (x:Nat),A=some ad/\ad.block < w.heap.size/\w.cell? (ad.add k)=some (.int .u32 (x:Nat))/\x < 4294967296/\Hid (ds[k]?=some x):=by
 obtain ⟨ad,e,hb,hc⟩:=h.2 (by omega);exact ⟨ad,ds[k],e,hb,hc k hk,h.1.get k hk,pq hk⟩
theorem ydm.nil (w:World) (A:Option Addr):ydm w A []:=⟨kdk.nil,fun h=>absurd h (by simp)⟩
theorem ydm.take {w:World} {A:Option Addr} {ds:List Nat} (h:ydm w A ds) (k:Nat):ydm w A (ds.take k):=
 ⟨h.1.take k,fun hl=>by
   rw [px] at hl;obtain ⟨ad,e,hb,hc⟩:=h.2 (by omega);refine ⟨ad,e,hb,fun j hj=>?_⟩;rw [px] at hj
   rw [hc j (by omega),List.getElem_take]⟩
theorem ydm.drop {w:World} {A:Option Addr} {ds:List Nat} (h:ydm w A ds) (k cap:Nat) (hk:k<=ds.length) (hc:ds.length<=cap) :
 ydm w (if cap=k then A else A.map (·.add k)) (ds.drop k):=
 ⟨h.1.drop k,fun hl=>by
   rw [pL] at hl;obtain ⟨ad,rfl,hb,abZ⟩:=h.2 (by omega);rw [if_neg (by omega)];refine ⟨ad.add k,rfl,by rw [zc1]; exact hb,fun j hj=>?_⟩;rw [pL] at hj
   rw [jfl,abZ (k+j) (by omega),List.getElem_drop]⟩
def zb1 (w:World) (v:Value) (ds:List Nat):Prop:=
 ∃ A c,v=.slice A ds.length c/\ds.length<=c/\c<=9223372036854775807/\ydm w A ds
theorem zb1.ext {w w':World} {v:Value} {ds:List Nat} (h:zb1 w v ds) (k:Ext w w'):zb1 w' v ds:=by
 obtain ⟨A,c,e,h1,h2,h3⟩:=h;exact ⟨A,c,e,h1,h2,h3.ext k⟩
theorem zb1.xi {w:World} {v:Value} {ds:List Nat} (h:zb1 w v ds):kdk ds:=by
 obtain ⟨A,c,e,h1,h2,h3⟩:=h;exact h3.1
theorem zb1.nil (w:World):zb1 w (.slice none 0 0) []:=⟨none,0,rfl,by simp,by simp,ydm.nil _ _⟩
def jdq (ds:List Nat):List Value:=ds.map fun d=>Value.int .u32 (d:Nat)
theorem ydu (ds:List Nat):(jdq ds).length=ds.length:=by simp [jdq]
theorem keg (ds:List Nat) (i:Nat) (h:i < ds.length):(jdq ds)[i]?=some (.int .u32 (ds[i]:Nat)):=by
 simp [jdq,pq h]
theorem ze1 (ds:List Nat):∀ v ∈ jdq ds,v.oneCell'=true:=by
 intro v hv;obtain ⟨d,_,rfl⟩:=sF.1 hv
 rfl
theorem qfv (ds:List Nat) (i d:Nat):(jdq ds).toArray.setIfInBounds i (.int .u32 (d:Nat))=(jdq (ds.set i d)).toArray:=by
 simp [jdq,List.map_set]
def Row (w:World) (g:Nat) (ds:List Nat):Prop:=w.heap[g]?=some (.cells (jdq ds).toArray 108 (0,0))
section
variable {w w':World} {g:Nat} {ds:List Nat}
theorem Row.lt (h:Row w g ds):g < w.heap.size:=by
 rcases rz g w.heap.size with hlt | hge
 · exact hlt
 · unfold Row at h; rw [sY hge] at h; cases h
theorem Row.cell (h:Row w g ds) (i:Nat) (hi:i < ds.length):w.cell? ⟨g,i,none⟩=some (.int .u32 (ds[i]:Nat)):=by
 rw [cell_of_row w g i _ _ (0,0) h]; simpa using keg ds i hi
theorem Row.qt (h:Row w g ds) (k:Nat) (hk:k < ds.length):∃ x:Nat,w.cell? ⟨g,k,none⟩=some (.int .u32 (x:Nat))/\w.frozen? ⟨g,k,none⟩=false/\Hid (ds[k]?=some x):=by
 refine ⟨ds[k],?_,?_,pq hk⟩
 · rw [cell_of_row w g k _ _ (0,0) h]; simpa using keg ds k hk
 · unfold Row at h;simp [World.frozen?,h]
theorem Row.frozen (h:Row w g ds) (i:Nat):w.frozen? ⟨g,i,none⟩=false:=by
 unfold Row at h;simp [World.frozen?,h]
theorem Row.new (w:World) (ds:List Nat):Row (w.alloc (.cells (jdq ds).toArray 108)) w.heap.size ds:=heap_alloc_new w _
theorem Row.qG (h:Row w g ds) (i d:Nat):Row (w.setCell ⟨g,i,none⟩ (.int .u32 (d:Nat))) g (ds.set i d):=by
 unfold Row at h ⊢;rw [<- qfv];simp [World.setCell,sN,h]
theorem Row.drewN (h:Row w g ds) (n:Nat):Row (w.drewN n) g ds:=h
theorem Row.alloc (h:Row w g ds) (o:Obj):Row (w.alloc o) g ds:=(Below.heap_alloc w o g h.lt).trans h
theorem Row.yj (h:Row w g ds) {p:Addr} (hp:g ≠ p.block) (u:Value):Row (w.setCell p u) g ds:=(Below.heap_setCell w p u g hp).trans h
theorem Row.below {B:Nat} (h:Row w g ds) (hb:Below B w w') (hg:g < B):Row w' g ds:=(hb.block g hg).trans h
theorem Row.ext (h:Row w g ds) (hb:Ext w w'):Row w' g ds:=Row.below h hb h.lt
theorem Row.yV (h:Row w g ds) (hd:kdk ds):ydm w (some ⟨g,0,none⟩) ds:=
 ⟨hd,fun _=>⟨_,rfl,h.lt,fun j hj=>by rw [kdo,pH]; exact h.cell j hj⟩⟩
theorem Row.xO (h:Row w g ds) (hd:kdk ds) (n c:Nat) (hn:ds.length=n) (hc:n<=c) (hc':c<=9223372036854775807):zb1 w (.slice (some ⟨g,0,none⟩) n c) ds:=by
 subst hn; exact ⟨_,c,rfl,hc,hc',h.yV hd⟩
theorem Row.zA (h:Row w g ds) (hd:kdk ds) (c:Nat) (hc:ds.length<=c) (hc':c<=9223372036854775807):zb1 w (.slice (some ⟨g,0,none⟩) ds.length c) ds:=
 ⟨_,c,rfl,hc,hc',h.yV hd⟩
end
theorem yf4:(Tryz.prog.info? 108).map (fun i=>(i.zero,i.size,i.bytes))=some (some (.int .u32 0),1,4):=by kernel_rfl
theorem zep:(Tryz.prog.info? 108).map (·.size)=some 1:=by kernel_rfl
theorem xdu (n:Int) (h0:0<=n) (h1:n<=35184372088832) (w:World) :
 (Instr.makeSlice 23 (.int .i64 n) (.int .i64 n)).run Tryz.prog w =
   .ok (.slice (some ⟨w.heap.size,0,none⟩) n.toNat n.toNat) (w.alloc (.cells (jdq (List.replicate n.toNat 0)).toArray 108)):=by
 obtain ⟨i0,hi,hz0,hz1,hz2⟩:=info_parts yf4;have key:madeCells (Value.int .u32 0).cells (n.toNat * i0.size)=(jdq (List.replicate n.toNat 0)).toArray:=by
  rw [hz1,th];apply Array.ext';simp only [madeCells,jdq,List.map_replicate];rw [Array.toList_map,Array.toList_range];apply List.ext_getElem
  · simp
  · intro k h1 h2;simp [Value.cells,Nat.mod_one]
 rw [run_make w 23 108 i0 (.int .u32 0) uz hi hz0 .i64 .i64 n n h0 (by omega) (by rw [hz2]; omega) (by omega),key]
def xdq (a b:Int):Int:=if a < b then -1 else if b < a then 1 else 0
theorem xd6 (a b:Int):-1<=xdq a b/\xdq a b<=1:=by unfold xdq; split <;> (try split) <;> omega
theorem zd2 {a b:Int} (h:a < b):xdq a b=-1:=if_pos h
theorem wd8 {a b:Int} (h:b < a):xdq a b=1:=by unfold xdq; rw [if_neg (by omega),if_pos h]
theorem yeg {a b:Int} (h:a=b):xdq a b=0:=by unfold xdq; rw [if_neg (by omega),if_neg (by omega)]
def Only (g:Nat) (w w':World):Prop:=w.grownBy w' (some g)
theorem Only.g {g:Nat} {w w':World} (h:Only g w w'):w.grownBy w' (some g):=h
theorem Only.refl (g:Nat) (w:World):Only g w w:=World.grownBy.refl w _
theorem Only.size {g:Nat} {w w':World} (h:Only g w w'):w.heap.size<=w'.heap.size:=ud h
theorem Only.setCell {g:Nat} {w w':World} (h:Only g w w') (k:Nat) (u:Value):Only g w (w'.setCell ⟨g,k,none⟩ u):=by
 have h':=h.g;exact ⟨h'.os,h'.tape,h'.output,by simpa [World.setCell] using h'.size,fun i hi hne=>(Below.heap_setCell w' ⟨g,k,none⟩ u i (fun e=>hne (by rw [e]))).trans (h'.block i hi hne)⟩
theorem Only.drewN {g:Nat} {w w':World} (h:Only g w w') (n:Nat):Only g w (w'.drewN n):=by
 have h':=h.g;exact ⟨h'.os,h'.tape,h'.output,h'.size,h'.block⟩
theorem Only.trans {g:Nat} {a b c:World} (h:Only g a b) (k:Only g b c):Only g a c:=
 ⟨(rR k).trans (rR h),(rK k).trans (rK h),(rE k).trans (rE h),po h.size k.size,
   fun i hi hne=>(pW k i (pr hi h.size) hne).trans (pW h i hi hne)⟩
theorem Only.qo {g:Nat} {w w':World} (h:Ext w w'):Only g w w':=by
 have h':=h.below;exact ⟨h'.os,h'.tape,h'.output,h'.size,fun i hi _=>h'.block i hi⟩
theorem Only.ext {g:Nat} {w0 w w':World} (hx:Ext w0 w) (h:Only g w w') (hg:w0.heap.size<=g):Ext w0 w':=by
 have h':=hx.below
 exact ⟨(rR h).trans h'.os,(rK h).trans h'.tape,(rE h).trans h'.output,po h'.size h.size,
  fun i hi=>(pW h i (pr hi h'.size) (fun e=>by injection e with e; omega)).trans (h'.block i hi)⟩
theorem Only.block {g:Nat} {w w':World} (h:Only g w w') {i:Nat} (hi:i < w.heap.size) (hne:i ≠ g):w'.heap[i]?=w.heap[i]?:=pW h i hi (fun e=>hne (by injection e))
theorem Only.cell {g:Nat} {w w':World} (h:Only g w w') {p:Addr} (hp:p.block < w.heap.size) (hne:p.block ≠ g):w'.cell? p=w.cell? p:=ph (h.block hp hne)
theorem ydm.only {g:Nat} {w w':World} {A:Option Addr} {ds:List Nat} (h:ydm w A ds) (k:Only g w w') (hne:∀ ad,A=some ad->ad.block ≠ g):ydm w' A ds:=
 ⟨h.1,fun hl=>by
   obtain ⟨ad,e,hb,hc⟩:=h.2 hl
   exact ⟨ad,e,pr hb k.size,fun j hj=>(k.cell (by rw [zc1]; exact hb) (by rw [zc1]; exact hne ad e)).trans (hc j hj)⟩⟩
theorem Row.only {g g':Nat} {w w':World} {ds:List Nat} (h:Row w g ds) (k:Only g' w w') (hne:g ≠ g'):Row w' g ds:=(k.block h.lt hne).trans h
def zdo (B:Nat) (v:Value):Prop:=∀ ad n c,v=.slice (some ad) n c->B<=ad.block
theorem zdo.mk (B:Nat) (ad:Addr) (n c:Nat) (h:B<=ad.block):zdo B (.slice (some ad) n c):=by
 intro ad' n' c' e;injection e with e1
 injection e1 with e2
 rw [<- e2]; exact h
theorem zdo.nil (B n c:Nat):zdo B (.slice none n c):=by
 intro ad' n' c' e;injection e with e1
 cases e1
theorem zdo.mono {B B':Nat} {v:Value} (h:zdo B v) (hB:B'<=B):zdo B' v:=fun ad n c e=>po hB (h ad n c e)
def jea (n:Nat) (w:World) (e:Ending) (w':World):Prop:=∃ v,e=.returned v/\zb1 w' v (dg n)/\Ext w w'
end Go.Proofs.YtheefiaoimbeiaaGreatDoor

set_option maxRecDepth 100000
set_option maxHeartbeats 8000000
namespace Go.Proofs.YtheefiaoimbeiaaGreatDoor
open Go.RowKit
theorem zd8 {k:IntKind} {a b:Int} (h:a=b):Ending.returned (.int k a)=.returned (.int k b):=by rw [h]
theorem gfx {k l:IntKind} {a b c d:Int} (h:a=b) (h':c=d):Ending.returned (.tuple #[.int k a,.int l c])=.returned (.tuple #[.int k b,.int l d]):=by rw [h,h']
theorem uf8 (m:Nat) (h:m < 4294967296):m / 2147483648=(m.testBit 31).toNat:=by
 rw [uu];have:m / 2 ^ 31 < 2:=by omega
 by_cases h1:m / 2 ^ 31 % 2=1
 · simp only [h1,decide_true,Bool.toNat_true]; omega
 · simp only [h1,decide_false,Bool.toNat_false]; omega
theorem qe1 (m:Nat) (h:m < 4294967296):m.testBit 31=decide (2147483648<=m):=by
 rw [uu]
 by_cases h1:2147483648<=m
 · simp only [h1,decide_true,decide_eq_true_eq]; omega
 · simp only [h1,decide_false,decide_eq_false_iff_not]; omega
def bor (x y c:Int):Int:=if x < y+c then 1 else 0
theorem xeg (x y c:Int):0<=bor x y c/\bor x y c<=1:=by unfold bor; split <;> omega
theorem qfw (x y c:Int) (x0:0<=x) (x1:x < 4294967296) (y0:0<=y) (y1:y < 4294967296) (c0:0<=c) (c1:c<=1) :
 bits .or .u32 (bits .and .u32 (bits .xor .u32 IntKind.u32.max x) y) (bits .and .u32 (bits .xor .u32 IntKind.u32.max (bits .xor .u32 x y)) ((x - y - c) % 4294967296)) / 2147483648=bor x y c:=by
 obtain ⟨a,rfl⟩:=ry x0;obtain ⟨b,rfl⟩:=ry y0;obtain ⟨k,rfl⟩:=ry c0;obtain ⟨d,hd⟩:=ry (show 0<=((a:Int) - b - k) % 4294967296 by omega);have hd1:d < 4294967296:=by omega
 have ha:a < 4294967296:=by omega
 have hb:b < 4294967296:=by omega
 have hm:IntKind.u32.max=((4294967295:Nat):Int):=by decide
 have lx:∀ p q:Nat,p < 4294967296->q < 4294967296->p ^^^ q < 4294967296:=fun p q hp hq=>Nat.xor_lt_two_pow (n:=32) hp hq
 have la:∀ p q:Nat,q < 4294967296->p &&& q < 4294967296:=fun p q hq=>Nat.and_lt_two_pow (n:=32) _ hq
 have lo:∀ p q:Nat,p < 4294967296->q < 4294967296->p ||| q < 4294967296:=fun p q hp hq=>Nat.or_lt_two_pow (n:=32) hp hq
 rw [hd,hm,u32_xor_nat _ _ (by omega) ha,u32_and_nat _ _ (lx _ _ (by omega) ha) hb,u32_xor_nat _ _ ha hb,u32_xor_nat _ _ (by omega) (lx _ _ ha hb),
  u32_and_nat _ _ (lx _ _ (by omega) (lx _ _ ha hb)) hd1,u32_or_nat _ _ (la _ _ hb) (la _ _ hd1)]
 have hl:=lo _ _ (la (4294967295 ^^^ a) b hb) (la (4294967295 ^^^ (a ^^^ b)) d hd1);have ht:=uf8 _ hl;rw [Nat.testBit_or,Nat.testBit_and,Nat.testBit_and,Nat.testBit_xor,Nat.testBit_xor,Nat.testBit_xor,qe1 a ha,qe1 b hb,qe1 d hd1] at ht;have hff:(4294967295:Nat).testBit 31=true:=by decide
 rw [hff] at ht;have e:∀ n:Nat,((n:Int) / 2147483648)=((n / 2147483648:Nat):Int):=fun n=>by omega
 rw [e,ht];unfold bor
 by_cases p:2147483648<=a <;> by_cases q:2147483648<=b <;> by_cases r:2147483648<=d <;> by_cases s:(a:Int) < b+k <;> simp [p,q,r,s] <;> omega
theorem add32 (x y c:Int) (w:World) (x0:0<=x) (x1:x < 4294967296) (y0:0<=y) (y1:y < 4294967296) (c0:0<=c) (c1:c<=1) :
 Calls Tryz.prog 141 #[.int .u32 x,.int .u32 y,.int .u32 c] w fun e w' =>
  e=.returned (.tuple #[.int .u32 ((x+y+c) % 4294967296),.int .u32 ((x+y+c) / 4294967296)])/\w=w':=by
 go_enter Tryz.func141,Tryz.ntmps141
 go_wp2
 go_ret2
 exact ⟨rfl,rfl⟩
theorem ufi (x y:Int) (w:World) (x0:0<=x) (x1:x < 4294967296) (y0:0<=y) (y1:y < 4294967296) :
 Calls Tryz.prog 172 #[.int .u32 x,.int .u32 y] w fun e w' =>
  e=.returned (.tuple #[.int .u32 (x * y / 4294967296),.int .u32 (x * y % 4294967296)])/\w=w':=by
 have h0:0<=x * y:=Int.mul_nonneg x0 y0;have h1:x * y<=4294967295 * 4294967295:=tQ (by omega) (by omega) y0 (by omega);go_enter Tryz.func172,Tryz.ntmps172
 go_wp2
 go_ret2
 exact ⟨rfl,rfl⟩
theorem zfg (x y c:Int) (w:World) (x0:0<=x) (x1:x < 4294967296) (y0:0<=y) (y1:y < 4294967296) (c0:0<=c) (c1:c<=1) :
 Calls Tryz.prog 143 #[.int .u32 x,.int .u32 y,.int .u32 c] w fun e w' =>
  e=.returned (.tuple #[.int .u32 ((x - y - c) % 4294967296),.int .u32 (bor x y c)])/\w=w':=by
 have hs:¬ IntKind.u32.signed=true:=by decide
 go_enter Tryz.func143,Tryz.ntmps143
 go_wp2
 go_ret2
 rw [qfw x y c x0 x1 y0 y1 c0 c1];exact ⟨gfx (by omega) rfl,rfl⟩
theorem kf7 (h l d:Int) (w:World) (h0:0<=h) (h1:h < d) (l0:0<=l) (l1:l < 4294967296) (d1:d < 4294967296) :
 Calls Tryz.prog 180 #[.int .u32 h,.int .u32 l,.int .u32 d] w fun e w' =>
  e=.returned (.tuple #[.int .u32 ((h * 4294967296+l) / d),.int .u32 ((h * 4294967296+l) % d)])/\∃ n,w'=w.drewN n:=by
 have hd:(d == 0)=false:=by simp; omega
 have hd':(d != 0)=true:=by simp; omega
 have hdh:decide (d<=h)=false:=by simp; omega
 have hor:bits .or .u64 (h * 4294967296) l=h * 4294967296+l:=by
  obtain ⟨a,rfl⟩:=ry h0;obtain ⟨b,rfl⟩:=ry l0;have:=u64_or_nat (a * 4294967296) b (by omega) (by omega);rw [nat_join 32 (a * 4294967296) b (by omega) (by omega)] at this;simpa using this
 have hq0:0<=(h * 4294967296+l) / d:=Int.ediv_nonneg (by omega) (by omega);have hq1:(h * 4294967296+l) / d < 4294967296:=Int.ediv_lt_of_lt_mul (by omega) (by omega);have hr0:0<=(h * 4294967296+l) % d:=Int.emod_nonneg _ (by omega);have hr1:(h * 4294967296+l) % d < d:=Int.emod_lt_of_pos _ (by omega);go_enter Tryz.func180,Tryz.ntmps180
 go_wp2
 go_quiet (fail)
 go_wp2
 go_ret2
 exact ⟨rfl,_,rfl⟩
end Go.Proofs.YtheefiaoimbeiaaGreatDoor
