/- Plain arithmetic of digit lists in base 2^32, least significant first. No program in sight. -/
import Derived.Test.YtcepajijiabkmaaGreatRows
import Derived.WalkSpells
import Derived.WalkLawsBesides
import Derived.Lib.Hide
import Derived.BigQuiet
import Derived.Deep.RegionHeld3
import Derived.Deep.DrawnRows
import Derived.Laws.CopyOwn
import Derived.Deep.DeepCutAuto
import Derived.Deep.CutBlock
set_option linter.all false
namespace Go.Proofs.YtcepajijiabkmaaGreat
def ph:=@World.cell?_setCell_other
def pj:=@Nat.le_refl
def po:=@List.getD_eq_getElem?_getD
def pr:=@List.getElem?_eq_getElem
def pt:=@List.getElem_mem
def pw:=@List.length_map
def px:=@Nat.lt_of_lt_of_le
def py:=@Nat.le_trans
def pA:=@List.length_take
def pB:=@World.cell?_of_block
def pC:=@List.take_succ_eq_append_getElem
def pD:=@List.mem_singleton
def pE:=@Nat.mul_le_mul_right
def pH:=@List.length_cons
def pL:=@List.length_set
def pN:=@List.mem_cons
def pP:=@World.cell?_setCell_same
def pQ:=@List.take_length
def pS:=@List.mem_map
def pT:=@List.mem_append
def pZ:=@Nat.zero_le
def p8:=@List.take_of_length_le
def ra:=@List.length_replicate
def re:=@List.length_drop
def rh:=@List.length_append
def ri:=@Nat.zero_add
def rj:=@IntKind.wrap_i64
def rk:=@Nat.mul_add
def rm:=@World.frozen?_setCell
def rr:=@List.mem_cons_of_mem
def rz:=@World.grownBy.block
def rA:=@List.length_pos_iff
def rB:=@Array.getElem?_eq_some_iff
def rI:=@List.cons_append
def rK:=@List.length_nil
def rL:=@List.mem_flatMap
def rN:=@List.getElem_map
def rR:=@List.filter_cons
def rS:=@List.mem_cons_self
def rT:=@List.eq_nil_of_length_eq_zero
def r5:=@Nat.add_mul
def r6:=@List.getElem_set_self
def r8:=@Nat.pow_le_pow_right
def r9:=@Nat.mul_assoc
def se:=@Nat.le_succ
def sh:=@List.drop_eq_getElem_cons
def si:=@Nat.pow_succ
def sj:=@Nat.mul_comm
def so:=@Nat.min_eq_left
def sq:=@List.append_nil
def sr:=@List.not_mem_nil
def ss:=@List.map_cons
def sw:=@List.mem_filter
def sy:=@List.cons.injEq
def sA:=@List.getD_cons_succ
def sB:=@Nat.lt_of_le_of_lt
def sC:=@AllReadyH.cons
def sE:=@List.getElem?_eq_none
def sI:=@List.getLast?_eq_getElem?
def sL:=@Nat.mul_le_mul_left
def sM:=@Int.eq_ofNat_of_zero_le
def sP:=@World.frozen?_of_block
def sR:=@List.getD_cons_zero
def sT:=@List.ext_getElem
def sX:=@Int.toNat_natCast
def sY:=@List.getElem_set_ne
def s8:=@Nat.zero_mul
def s9:=@Nat.add_zero
def td:=@List.take_zero
def te:=@List.mem_of_getElem?
def tg:=@Nat.mod_lt
def th:=@List.flatMap_cons
def ti:=@List.set_append_right
def tj:=@List.getElem_of_mem
def tl:=@List.mem_of_mem_take
def tm:=@Value.agg.injEq
def tp:=@Nat.pow_pos
def tr:=@Nat.one_mul
def tt:=@List.length_range
def tw:=@Nat.mod_add_div
def tx:=@Nat.lt_succ_self
def tz:=@List.nil_append
def tB:=@List.size_toArray
def tD:=@List.getElem_take
def tE:=@List.getElem_append_right
def tF:=@Array.mk.injEq
def tG:=@List.pairwise_cons
def tI:=@List.getElem_range
def tL:=@List.filter_append
def tM:=@Nat.lt_or_ge
def tO:=@List.range_succ
def tP:=@World.size_alloc
def tQ:=@List.drop_drop
def tR:=@Nat.add_assoc
def tS:=@List.getElem?_map
def tT:=@Nat.div_lt_of_lt_mul
def tU:=@Nat.eq_zero_or_pos
def tW:=@List.getElem?_drop
def ua:=@List.getElem_cons_zero
def ub:=@List.drop_eq_nil_of_le
def uc:=@List.map_append
def ud:=@List.length_tail
def ue:=@AllReadyH.nil
def ur:=@Nat.mul_one
def uv:=@Int.le_refl
def ux:=@List.mem_append_right
def uE:=@List.length_filter_le
def uL:=@List.getElem_append_left
def uR:=@Nat.add_sub_cancel
def uW:=@List.set_cons_zero
def u5:=@Int.natAbs_natCast
def u6:=@Array.replicate_zero
def u7:=@Array.replicate_succ
def u9:=@Tryz.underlying3
def we:=@List.getElem_replicate
def wg:=@List.getElem_drop
def wh:=@List.append_toArray
def wj:=@Int.lt_trichotomy
def wk:=@List.getElem?_eq_some_iff
def wy:=@Nat.mul_zero
def wN:=@List.take_append_drop
def wT:=@Nat.pow_add
def Pa:=@List.map_map
def Pb:=@Tryz.underlying61
def Pc:=@Nat.mul_left_comm
def Pd:=@List.push_toArray
def Pf:=@Nat.pow_le_pow_left
def Pk:=@Nat.mul_lt_mul_of_pos_right
def Pp:=@Int.mul_ne_zero
def Pr:=@Option.getD_some
def Ps:=@Nat.div_eq_of_lt
def Pt:=@World.cell?_alloc_new
def Pu:=@Rat.pow_succ
def Pw:=@Nat.sub_self
def PC:=@List.length_singleton
def PF:=@Bool.false_eq_true
def PJ:=@List.drop_zero
def Ra:=@List.mem_append_left
def Rb:=@Int.ofNat_eq_natCast
def Rc:=@List.foldl_cons
def Re:=@Nat.succ_mul
def Rm:=@Nat.add_sub_cancel_left
def Rp:=@List.getElem?_cons_zero
def Rr:=@List.getD_nil
def Rs:=@Bool.and_eq_true
def RB:=@Nat.mul_le_mul
def RC:=@List.getElem_cons_succ
def RE:=@List.filter_eq_nil_iff
def RK:=@List.set_cons_succ
def RL:=@Nat.le_div_iff_mul_le
def RM:=@Bool.eq_iff_iff
def RO:=@Array.getElem?_modify
def RR:=@Array.extract_eq_self_of_le
def RT:=@Result.andThen_ok
def RW:=@List.drop_set
def R8:=@Nat.lt_of_mul_lt_mul_right
def R9:=@List.setIfInBounds_toArray
def Sa:=@Nat.add_mul_div_left
def Sb:=@List.mem_of_mem_drop
def Sc:=@Array.getElem?_range
def Sd:=@Nat.add_mul_mod_self_left
def Se:=@List.mem_or_eq_of_mem_set
def Sf:=@Nat.mod_eq_of_lt
def Sg:=@Nat.le_max_right
def Sh:=@List.take_succ_cons
def Sk:=@List.take_set_of_le
def Sn:=@List.replicate_succ
def Sq:=@Nat.le_of_lt
def Ss:=@List.map_nil
def St:=@List.eq_of_mem_replicate
def Sw:=@List.map_replicate
def Sx:=@List.getElem?_cons_succ
def SD:=@List.filter_nil
def SF:=@Array.getElem?_map
def SJ:=@Nat.testBit_eq_decide_div_mod_eq
def SM:=@Nat.le_mul_of_pos_left
def SO:=@List.range_succ_eq_map
def SP:=@List.getElem?_set_self
def SR:=@Tryz.underlying28
def SU:=@List.replicate_append_replicate
def SZ:=@List.append_assoc
def S6:=@Bool.eq_false_iff
def S7:=@List.mem_range
def S8:=@Tryz.underlying4
def Ta:=@List.any_eq_true
def Tb:=@Array.getElem?_setIfInBounds
def Te:=@Nat.mul_pos
def Tg:=@List.map_congr_left
def Th:=@List.flatMap_append
def Tk:=@Int.natAbs_zero
def Tl:=@Array.length_toList
def Tp:=@Nat.mul_lt_mul_of_pos_left
def Tr:=@Nat.mul_lt_mul_of_lt_of_le
def Ts:=@Tryz.ntmps65
def Tw:=@Tryz.ntmps64
def Tx:=@Sem.run_bind
def Ty:=@Nat.succ_pos
def TH:=@Nat.pos_of_ne_zero
def TO:=@Tryz.results40
def TX:=@Nat.lt_of_mul_lt_mul_left
def T2:=@List.pairwise_iff_getElem
def T3:=@Value.slice.injEq
def T5:=@Tryz.underlying48
def T6:=@Tryz.underlying31
def T7:=@Option.some.injEq
def T8:=@List.getLast?_map
def T9:=@List.foldl_append
def Up:=@Int.mul_tdiv_cancel_left
def Uq:=@Array.size_modify
def Uv:=@Tryz.func65
def UP:=@Tryz.func64
def US:=@Nat.le_mul_of_pos_right
def Wc:=@Tryz.sizeOf3
def Wg:=@Tryz.results166
def Wk:=@Tryz.ntmps79
def Wo:=@Tryz.ntmps77
def Wr:=@Rat.mul_eq_zero
def Wt:=@Nat.pow_zero
def Ww:=@Nat.div_lt_iff_lt_mul
def Wz:=@Nat.div_add_mod
def WD:=@List.getElem?_toArray
def WK:=@Exit.noGoto_ret
def paa:=@Std.Legacy.Range.forIn_eq_forIn_range'
def pab:=@World.grownBy.output
def pac:=@List.mem_of_getLast?
def pae:=@Array.getElem_modify
def paf:=@Int.natAbs_mul
def pag:=@DataW.trod_int
def pah:=@Tryz.func79
def pai:=@Tryz.func77
def paj:=@Nat.testBit_two_pow
def pak:=@List.getElem?_range
def pal:=@List.filter_eq_self
def pam:=@List.drop_succ_cons
def pan:=@World.grownBy.tape
def pao:=@Tryz.ntmps166
def paq:=@Int.toNat_add
def pas:=@World.drewN_drewN
def pau:=@World.cells?_some
def pav:=@Tryz.underlying84
def paw:=@Tryz.underlying23
def pax:=@Nat.lt_trichotomy
def pay:=@List.take_add_one
def paz:=@Function.comp_def
def paA:=@Tryz.func166
def paB:=@Nat.gcd_comm
def paC:=@List.set_set
def paD:=@Int.add_zero
def paE:=@World.grownBy.os
def paF:=@Value.bool.injEq
def paG:=@List.drop_length
def paH:=@Int.natCast_zero
def paI:=@DataW.trod_slice
def paJ:=@Array.toList_map
def paK:=@Tryz.zeroValue3
def paL:=@Tryz.results153
def paM:=@Tryz.results114
def paN:=@Tryz.isAgg3
def paO:=@Option.map_some
def paP:=@Nat.testBit_xor
def paQ:=@Nat.testBit_and
def paR:=@Nat.pow_one
def paS:=@Nat.div_lt_self
def paT:=@Nat.div_le_self
def paU:=@Nat.mod_two_eq_zero_or_one
def paV:=@List.getElem?_append_right
def paW:=@Array.toList_setIfInBounds
def paX:=@Tryz.results87
def paY:=@Tryz.results83
def paZ:=@Tryz.results80
def pa0:=@Tryz.results63
def pa3:=@Tryz.results38
def pa4:=@Tryz.results30
def pa5:=@Tryz.results22
def pa6:=@Tryz.results21
def pa7:=@List.mem_take_iff_getElem
def pa8:=@List.getElem?_append_left
def pa9:=@Int.mul_nonneg
def pba:=@Int.mul_le_mul
def pbb:=@Classical.byContradiction
def pbc:=@Array.getElem?_eq_getElem
def pbd:=@List.take_append_getElem
def pbe:=@Tryz.ntmps152
def pbf:=@Tryz.ntmps136
def pbg:=@Tryz.ntmps116
def pbh:=@Tryz.ntmps104
def pbi:=@Option.bind_eq_some_iff
def pbj:=@List.pairwise_singleton
def pbk:=@List.length_eq_zero_iff
def pbl:=@List.getElem?_replicate
def pbm:=@Bool.or_false
theorem n_m {α:Sort _} (x:α):∃ y,x=y:=⟨x,rfl⟩
def B32:Nat:=4294967296
theorem yh:B32=4294967296:=rfl
theorem yj:0 < B32:=by decide
theorem xbq:1 < B32:=by decide
def val : List Nat -> Nat
 | []=>0
 | d :: r=>d+B32 * val r
@[simp] theorem val_nil:val []=0:=rfl
@[simp] theorem val_cons (d:Nat) (r:List Nat):val (d :: r)=d+B32 * val r:=rfl
def ug (ds:List Nat):Prop:=∀ d ∈ ds,d < B32
theorem ug.nil:ug []:=fun _ h=>by cases h
theorem ug.cons {d:Nat} {r:List Nat} (hd:d < B32) (h:ug r):ug (d :: r):=fun x hx=>by
 rcases pN.1 hx with rfl | hx
 · exact hd
 · exact h x hx
theorem ug.head {d:Nat} {r:List Nat} (h:ug (d :: r)):d < B32:=h d (rS)
theorem ug.tail {d:Nat} {r:List Nat} (h:ug (d :: r)):ug r:=fun x hx=>h x (rr _ hx)
theorem ug.take {ds:List Nat} (h:ug ds) (k:Nat):ug (ds.take k):=fun x hx=>h x (tl hx)
theorem ug.drop {ds:List Nat} (h:ug ds) (k:Nat):ug (ds.drop k):=fun x hx=>h x (Sb hx)
theorem ug.append {xs ys:List Nat} (h:ug xs) (k:ug ys):ug (xs ++ ys):=fun x hx=>by
 rcases pT.1 hx with hx | hx
 · exact h x hx
 · exact k x hx
theorem ug.get {ds:List Nat} (h:ug ds) (j:Nat) (hj:j < ds.length):ds[j] < 4294967296:=h _ (pt hj)
theorem ug.replicate (n:Nat):ug (List.replicate n 0):=fun x hx=>by
 rw [(List.mem_replicate.1 hx).2]; decide
theorem ug.set {ds:List Nat} (h:ug ds) (k d:Nat) (hd:d < B32):ug (ds.set k d):=fun x hx=>by
 rcases Se hx with hx | rfl
 · exact h x hx
 · exact hd
theorem val_append (xs ys:List Nat):val (xs ++ ys)=val xs+B32 ^ xs.length * val ys:=by
 induction xs with
 | nil=>simp
 | cons d r ih=>simp only [rI,val_cons,ih,pH,si]; rw [rk,tR]; congr 2; rw [<- r9,sj B32]
theorem jk (ds:List Nat) (k:Nat) (hk:k<=ds.length):val ds=val (ds.take k)+B32 ^ k * val (ds.drop k):=by
 have h:=val_append (ds.take k) (ds.drop k);rw [wN] at h;rw [h,pA,so hk]
theorem uaf (ds:List Nat) (d:Nat):val (ds ++ [d])=val ds+B32 ^ ds.length * d:=by
 rw [val_append]; simp
theorem uac (n:Nat):val (List.replicate n 0)=0:=by
 induction n with
 | zero=>rfl
 | succ n ih=>rw [Sn,val_cons,ih]; rfl
theorem wz {ds:List Nat} (h:ug ds):val ds < B32 ^ ds.length:=by
 induction ds with
 | nil=>simp
 | cons d r ih =>
   have h1:=ih h.tail;have h2:=h.head;have h3:B32 * (val r+1)<=B32 * B32 ^ r.length:=sL _ h1;rw [val_cons,pH,si,sj _ B32];rw [rk] at h3;omega
def dg (n:Nat):List Nat:=if _h:n=0 then [] else (n % B32) :: dg (n / B32)
termination_by n
decreasing_by exact paS (by omega) xbq
theorem zo:dg 0=[]:=by rw [dg]; simp
theorem xa2 {n:Nat} (h:n ≠ 0):dg n=(n % B32) :: dg (n / B32):=by rw [dg]; simp [h]
theorem jg (n:Nat):val (dg n)=n:=by
 induction n using Nat.strongRecOn with
 | _ n ih =>
   by_cases h:n=0
   · subst h; rw [zo]; rfl
   · rw [xa2 h,val_cons,ih _ (paS (by omega) xbq)];exact tw n B32
theorem kan (n:Nat):ug (dg n):=by
 induction n using Nat.strongRecOn with
 | _ n ih =>
   by_cases h:n=0
   · subst h; rw [zo]; exact ug.nil
   · rw [xa2 h]; exact ug.cons (tg _ yj) (ih _ (paS (by omega) xbq))
theorem vbp (d r:Nat) (hd:d < B32) (hr:d+B32 * r ≠ 0):dg (d+B32 * r)=d :: dg r:=by
 rw [xa2 hr,Sd,Sf hd,Sa _ _ yj,Ps hd,ri]
def xad (ds : List Nat) : Nat -> Nat
 | 0=>0
 | n+1=>if ds.getD n 0=0 then xad ds n else n+1
theorem zaq (ds:List Nat) (n:Nat):xad ds n<=n:=by
 induction n with
 | zero=>simp [xad]
 | succ n ih=>unfold xad; split <;> omega
theorem gcn (d:Nat) (r:List Nat) (n:Nat):xad (d :: r) (n+1)=if xad r n=0 then (if d=0 then 0 else 1) else xad r n+1:=by
 induction n with
 | zero=>simp [xad]
 | succ n ih =>
   rw [xad];simp only [sA]
   by_cases h:r.getD n 0=0
   · rw [if_pos h,ih]; simp only [xad,h,if_true]
   · rw [if_neg h]; simp only [xad,h,if_false]; simp
theorem wau (n:Nat):dg n=[] ↔ n=0:=by
 by_cases h:n=0
 · subst h; simp [zo]
 · rw [xa2 h]; simp [h]
theorem gbm {ds:List Nat} (h:ug ds):dg (val ds)=ds.take (xad ds ds.length):=by
 induction ds with
 | nil=>simp [zo,xad]
 | cons d r ih =>
   have h1:=ih h.tail;rw [pH,gcn]
   by_cases hr:xad r r.length=0
   · rw [hr,td,wau] at h1;rw [if_pos hr,val_cons,h1]
     by_cases hd:d=0
     · subst hd; simp [zo]
     · rw [if_neg hd,wy,s9];have:=vbp d 0 h.head (by omega);rw [wy,s9,zo] at this;rw [this]; simp
   · rw [if_neg hr,Sh,<- h1,val_cons,vbp d _ h.head];intro h0;have h2:val r=0:=by
      rcases tU (val r) with h3 | h3
      · exact h3
      · have:=Te yj h3; omega
     rw [h2,zo] at h1;have h4:(r.take (xad r r.length)).length=0:=by rw [<- h1]; rfl
     rw [pA] at h4;have:=zaq r r.length;omega
theorem vai {ds:List Nat} (h:ug ds):(dg (val ds)).length=xad ds ds.length:=by
 rw [gbm h,pA];have:=zaq ds ds.length;omega
theorem yf {n k:Nat} (h:n < B32 ^ k):(dg n).length<=k:=by
 induction k generalizing n with
 | zero => rw [Wt] at h; have : n = 0 := by omega
           subst this; rw [zo]; simp
 | succ k ih =>
   by_cases h0:n=0
   · subst h0; rw [zo]; simp
   · rw [xa2 h0,pH];have:n / B32 < B32 ^ k:=by
      rw [si] at h;exact tT (by rw [sj]; exact h)
     have:=ih this;omega
theorem yaf (n:Nat):n < B32 ^ (dg n).length:=by
 have:=wz (kan n)
 rwa [jg] at this
theorem wu {m n:Nat} (h:m<=n):(dg m).length<=(dg n).length:=
 yf (sB h (yaf n))
theorem zi {ds:List Nat} (h:ug ds):(dg (val ds)).length<=ds.length:=yf (wz h)
theorem vas {m n:Nat} (h:(dg m).length < (dg n).length):m < n:=by
 rcases tM m n with h1 | h1
 · exact h1
 · have:=wu h1; omega
theorem ga6 (m n:Nat):(dg (m+n)).length<=max (dg m).length (dg n).length+1:=by
 apply yf;have h1:=yaf m;have h2:=yaf n;have h3:B32 ^ (dg m).length<=B32 ^ max (dg m).length (dg n).length:=r8 yj (Nat.le_max_left _ _);have h4:B32 ^ (dg n).length<=B32 ^ max (dg m).length (dg n).length:=r8 yj (Sg _ _);rw [si];have:B32 ^ max (dg m).length (dg n).length * 2<=B32 ^ max (dg m).length (dg n).length * B32:=sL _ (by decide);omega
theorem kbz {n:Nat} (h:n ≠ 0):B32 ^ ((dg n).length - 1)<=n:=by
 rcases tM n (B32 ^ ((dg n).length - 1)) with h1 | h1
 · have h2:=yf h1;have h3:dg n ≠ []:=fun e=>h ((wau n).1 e)
   have h4:0 < (dg n).length:=rA.2 h3;omega
 · exact h1
theorem ual {n:Nat} (h:n ≠ 0):0 < (dg n).length:=by
 have h3:dg n ≠ []:=fun e=>h ((wau n).1 e)
 exact rA.2 h3
theorem ja2 {n:Nat} (h:(dg n).length=0):n=0:=(wau n).1 (rT h)
theorem ja5 {n:Nat} (h0:n ≠ 0) (h:n < B32):dg n=[n]:=by
 rw [xa2 h0,Sf h,Ps h,zo]
theorem wdg (a b:Nat) (ha:a < B32) (aX:b ≠ 0) (hb:b < B32):dg (a+B32 * b)=[a,b]:=by
 rw [vbp a b ha,ja5 aX hb];have:=Te yj (TH aX);omega
theorem wbb {xs ys : List Nat} (k : Nat) (hx : ug xs) (AQ : k < xs.length) (hky : k < ys.length) (hl : xs.length = ys.length)
 (he:xs.drop (k+1)=ys.drop (k+1)) (h:xs[k] < ys[k]):val xs < val ys:=by
 have e1:=jk xs k (by omega);have e2:=jk ys k (by omega);rw [sh AQ,val_cons] at e1;rw [sh hky,val_cons,<- he] at e2;have h1:=wz (hx.take k);rw [pA,so (by omega)] at h1;have h2:B32 ^ k * (xs[k]+1+B32 * val (xs.drop (k+1)))<=B32 ^ k * (ys[k]+B32 * val (xs.drop (k+1))):=sL _ (by omega);have h3:B32 ^ k * (xs[k]+1+B32 * val (xs.drop (k+1)))=B32 ^ k * (xs[k]+B32 * val (xs.drop (k+1)))+B32 ^ k:=by
  rw [show xs[k]+1+B32 * val (xs.drop (k+1))=(xs[k]+B32 * val (xs.drop (k+1)))+1 from by omega,rk,ur]
 omega
open Go.RowKit
theorem ja (a:Addr) (n:Nat):(a.add n).block=a.block:=by unfold Addr.add; split <;> rfl
theorem kbn (a:Addr) (i j:Nat):(a.add i).add j=a.add (i+j):=by
 unfold Addr.add
 by_cases hi:i=0 <;> by_cases hj:j=0 <;> simp [hi,hj,tR]
theorem uu (b o n:Nat):(⟨b,o,none⟩:Addr).add n=⟨b,o+n,none⟩:=by unfold Addr.add; split <;> simp_all
def Ext (w w':World):Prop:=Below w.heap.size w w'
theorem Ext.refl (w:World):Ext w w:=Below.refl _ _
theorem Ext.size {w w':World} (h:Ext w w'):w.heap.size<=w'.heap.size:=Below.size h
theorem Ext.trans {a b c:World} (h:Ext a b) (k:Ext b c):Ext a c:=Below.trans h (Below.mono k h.size)
theorem Ext.below {w w':World} (h:Ext w w'):Below w.heap.size w w':=h
theorem Ext.cell {w w':World} (h:Ext w w') {p:Addr} (hp:p.block < w.heap.size):w'.cell? p=w.cell? p:=Below.cell h hp
theorem Ext.frozen {w w':World} (h:Ext w w') {p:Addr} (hp:p.block < w.heap.size):w'.frozen? p=w.frozen? p:=Below.frozen h hp
theorem Ext.alloc {w w':World} (h:Ext w w') (o:Obj):Ext w (w'.alloc o):=Below.alloc h h.size o
theorem Ext.setCell {w w':World} (h:Ext w w') {p:Addr} (hp:w.heap.size<=p.block) (u:Value):Ext w (w'.setCell p u):=Below.setCell h hp u
theorem Ext.drew {w w':World} (h:Ext w w'):Ext w w'.drew:=Below.drew h
theorem Ext.drewN {w w':World} (h:Ext w w') (n:Nat):Ext w (w'.drewN n):=by
 have h':=h.below;exact ⟨h'.os,h'.tape,h'.output,h'.size,h'.block⟩
theorem Ext.cells {W w1:World} (hb:Ext W w1):(∀ b o,b < W.heap.size->w1.cell? ⟨b,o,none⟩=W.cell? ⟨b,o,none⟩)/\(∀ b o,b < W.heap.size->w1.frozen? ⟨b,o,none⟩=W.frozen? ⟨b,o,none⟩):=
 ⟨fun b o h=>hb.cell (p:=⟨b,o,none⟩) h,fun b o h=>hb.frozen (p:=⟨b,o,none⟩) h⟩
def uj (w:World) (A:Option Addr) (ds:List Nat):Prop:=
 ug ds/\(0 < ds.length->∃ ad,A=some ad/\ad.block < w.heap.size/\∀ j (h:j < ds.length),w.cell? (ad.add j)=some (.int .u32 (ds[j]:Nat)))
theorem uj.ext {w w':World} {A:Option Addr} {ds:List Nat} (h:uj w A ds) (k:Ext w w'):uj w' A ds:=
 ⟨h.1,fun hl=>by
   obtain ⟨ad,e,hb,hc⟩:=h.2 hl
   exact ⟨ad,e,px hb k.size,fun j hj=>(k.cell (by rw [ja]; exact hb)).trans (hc j hj)⟩⟩
theorem uj.at_ {w:World} {A:Option Addr} {ds:List Nat} (h:uj w A ds) (k:Nat) (hk:k < ds.length) :
 ∃ ad,A=some ad/\ad.block < w.heap.size/\w.cell? (ad.add k)=some (.int .u32 (ds[k]:Nat))/\ds[k] < 4294967296:=by
 obtain ⟨ad,e,hb,hc⟩:=h.2 (by omega);exact ⟨ad,e,hb,hc k hk,h.1.get k hk⟩
theorem uj.xS {w:World} {A:Option Addr} {ds:List Nat} (h:uj w A ds) (k:Nat) (hk:k < ds.length) :
 ∃ (ad:Addr) (x:Nat),A=some ad/\ad.block < w.heap.size/\w.cell? (ad.add k)=some (.int .u32 (x:Nat))/\x < 4294967296/\Hid (ds[k]?=some x):=by
 obtain ⟨ad,e,hb,hc⟩:=h.2 (by omega);exact ⟨ad,ds[k],e,hb,hc k hk,h.1.get k hk,pr hk⟩
theorem uj.nil (w:World) (A:Option Addr):uj w A []:=⟨ug.nil,fun h=>absurd h (by simp)⟩
theorem uj.take {w:World} {A:Option Addr} {ds:List Nat} (h:uj w A ds) (k:Nat):uj w A (ds.take k):=
 ⟨h.1.take k,fun hl=>by
   rw [pA] at hl;obtain ⟨ad,e,hb,hc⟩:=h.2 (by omega);refine ⟨ad,e,hb,fun j hj=>?_⟩;rw [pA] at hj
   rw [hc j (by omega),tD]⟩
theorem uj.drop {w:World} {A:Option Addr} {ds:List Nat} (h:uj w A ds) (k cap:Nat) (hk:k<=ds.length) (hc:ds.length<=cap) :
 uj w (if cap=k then A else A.map (·.add k)) (ds.drop k):=
 ⟨h.1.drop k,fun hl=>by
   rw [re] at hl;obtain ⟨ad,rfl,hb,aj⟩:=h.2 (by omega);rw [if_neg (by omega)];refine ⟨ad.add k,rfl,by rw [ja]; exact hb,fun j hj=>?_⟩;rw [re] at hj
   rw [kbn,aj (k+j) (by omega),wg]⟩
def jc (w:World) (v:Value) (ds:List Nat):Prop:=
 ∃ A c,v=.slice A ds.length c/\ds.length<=c/\c<=9223372036854775807/\uj w A ds
theorem jc.ext {w w':World} {v:Value} {ds:List Nat} (h:jc w v ds) (k:Ext w w'):jc w' v ds:=by
 obtain ⟨A,c,e,h1,h2,h3⟩:=h;exact ⟨A,c,e,h1,h2,h3.ext k⟩
theorem jc.kr {w:World} {v:Value} {ds:List Nat} (h:jc w v ds):ug ds:=by
 obtain ⟨A,c,e,h1,h2,h3⟩:=h;exact h3.1
theorem jc.nil (w:World):jc w (.slice none 0 0) []:=⟨none,0,rfl,by simp,by simp,uj.nil _ _⟩
def yu (ds:List Nat):List Value:=ds.map fun d=>Value.int .u32 (d:Nat)
theorem xab (ds:List Nat):(yu ds).length=ds.length:=by simp [yu]
theorem ja3 (ds:List Nat) (i:Nat) (h:i < ds.length):(yu ds)[i]?=some (.int .u32 (ds[i]:Nat)):=by
 simp [yu,pr h]
theorem zbw (ds:List Nat):∀ v ∈ yu ds,v.oneCell'=true:=by
 intro v hv;obtain ⟨d,_,rfl⟩:=pS.1 hv
 rfl
theorem ycx (ds:List Nat) (i d:Nat):(yu ds).toArray.setIfInBounds i (.int .u32 (d:Nat))=(yu (ds.set i d)).toArray:=by
 simp [yu,List.map_set]
def Row (w:World) (g:Nat) (ds:List Nat):Prop:=w.heap[g]?=some (.cells (yu ds).toArray 84 (0,0))
section
variable {w w':World} {g:Nat} {ds:List Nat}
theorem Row.lt (h:Row w g ds):g < w.heap.size:=by
 rcases tM g w.heap.size with af | oL
 · exact af
 · unfold Row at h; rw [Array.getElem?_eq_none oL] at h; cases h
theorem Row.cell (h:Row w g ds) (i:Nat) (hi:i < ds.length):w.cell? ⟨g,i,none⟩=some (.int .u32 (ds[i]:Nat)):=by
 rw [cell_of_row w g i _ _ (0,0) h]; simpa using ja3 ds i hi
theorem Row.xS (h:Row w g ds) (k:Nat) (hk:k < ds.length):∃ x:Nat,w.cell? ⟨g,k,none⟩=some (.int .u32 (x:Nat))/\w.frozen? ⟨g,k,none⟩=false/\Hid (ds[k]?=some x):=by
 refine ⟨ds[k],?_,?_,pr hk⟩
 · rw [cell_of_row w g k _ _ (0,0) h]; simpa using ja3 ds k hk
 · unfold Row at h;simp [World.frozen?,h]
theorem Row.frozen (h:Row w g ds) (i:Nat):w.frozen? ⟨g,i,none⟩=false:=by
 unfold Row at h;simp [World.frozen?,h]
theorem Row.new (w:World) (ds:List Nat):Row (w.alloc (.cells (yu ds).toArray 84)) w.heap.size ds:=heap_alloc_new w _
theorem Row.xD (h:Row w g ds) (i d:Nat):Row (w.setCell ⟨g,i,none⟩ (.int .u32 (d:Nat))) g (ds.set i d):=by
 unfold Row at h ⊢;rw [<- ycx];simp [World.setCell,RO,h]
theorem Row.drewN (h:Row w g ds) (n:Nat):Row (w.drewN n) g ds:=h
theorem Row.alloc (h:Row w g ds) (o:Obj):Row (w.alloc o) g ds:=(Below.heap_alloc w o g h.lt).trans h
theorem Row.far (h:Row w g ds) {p:Addr} (hp:g ≠ p.block) (u:Value):Row (w.setCell p u) g ds:=(Below.heap_setCell w p u g hp).trans h
theorem Row.below {B:Nat} (h:Row w g ds) (hb:Below B w w') (hg:g < B):Row w' g ds:=(hb.block g hg).trans h
theorem Row.ext (h:Row w g ds) (hb:Ext w w'):Row w' g ds:=Row.below h hb h.lt
theorem Row.qaT (h:Row w g ds) (hd:ug ds):uj w (some ⟨g,0,none⟩) ds:=
 ⟨hd,fun _=>⟨_,rfl,h.lt,fun j hj=>by rw [uu,ri]; exact h.cell j hj⟩⟩
theorem Row.kO (h:Row w g ds) (hd:ug ds) (n c:Nat) (hn:ds.length=n) (hc:n<=c) (lD:c<=9223372036854775807):jc w (.slice (some ⟨g,0,none⟩) n c) ds:=by
 subst hn; exact ⟨_,c,rfl,hc,lD,h.qaT hd⟩
theorem Row.qaD (h:Row w g ds) (hd:ug ds) (c:Nat) (hc:ds.length<=c) (lD:c<=9223372036854775807):jc w (.slice (some ⟨g,0,none⟩) ds.length c) ds:=
 ⟨_,c,rfl,hc,lD,h.qaT hd⟩
end
theorem wc4:(Tryz.prog.info? 84).map (fun i=>(i.zero,i.size,i.bytes))=some (some (.int .u32 0),1,4):=by kernel_rfl
theorem vbf:(Tryz.prog.info? 84).map (·.size)=some 1:=by kernel_rfl
theorem qab (n:Int) (h0:0<=n) (h1:n<=35184372088832) (w:World) :
 (Instr.makeSlice 28 (.int .i64 n) (.int .i64 n)).run Tryz.prog w =
   .ok (.slice (some ⟨w.heap.size,0,none⟩) n.toNat n.toNat) (w.alloc (.cells (yu (List.replicate n.toNat 0)).toArray 84)):=by
 obtain ⟨i0,hi,iV,iJ,iI⟩:=info_parts wc4;have key:madeCells (Value.int .u32 0).cells (n.toNat * i0.size)=(yu (List.replicate n.toNat 0)).toArray:=by
  rw [iJ,ur];apply Array.ext';simp only [madeCells,yu,Sw];rw [paJ,Array.toList_range];apply sT
  · simp
  · intro k h1 h2;simp [Value.cells,Nat.mod_one]
 rw [run_make w 28 84 i0 (.int .u32 0) SR hi iV .i64 .i64 n n h0 (by omega) (by rw [iI]; omega) (by omega),key]
def uh (a b:Int):Int:=if a < b then -1 else if b < a then 1 else 0
theorem xal (a b:Int):-1<=uh a b/\uh a b<=1:=by unfold uh; split <;> (try split) <;> omega
theorem jah {a b:Int} (h:a < b):uh a b=-1:=if_pos h
theorem kar {a b:Int} (h:b < a):uh a b=1:=by unfold uh; rw [if_neg (by omega),if_pos h]
theorem uaa {a b:Int} (h:a=b):uh a b=0:=by unfold uh; rw [if_neg (by omega),if_neg (by omega)]
def Only (g:Nat) (w w':World):Prop:=w.grownBy w' (some g)
theorem Only.g {g:Nat} {w w':World} (h:Only g w w'):w.grownBy w' (some g):=h
theorem Only.refl (g:Nat) (w:World):Only g w w:=World.grownBy.refl w _
theorem Only.size {g:Nat} {w w':World} (h:Only g w w'):w.heap.size<=w'.heap.size:=World.grownBy.size h
theorem Only.setCell {g:Nat} {w w':World} (h:Only g w w') (k:Nat) (u:Value):Only g w (w'.setCell ⟨g,k,none⟩ u):=by
 have h':=h.g;exact ⟨h'.os,h'.tape,h'.output,by simpa [World.setCell] using h'.size,fun i hi au=>(Below.heap_setCell w' ⟨g,k,none⟩ u i (fun e=>au (by rw [e]))).trans (h'.block i hi au)⟩
theorem Only.drewN {g:Nat} {w w':World} (h:Only g w w') (n:Nat):Only g w (w'.drewN n):=by
 have h':=h.g;exact ⟨h'.os,h'.tape,h'.output,h'.size,h'.block⟩
theorem Only.trans {g:Nat} {a b c:World} (h:Only g a b) (k:Only g b c):Only g a c:=
 ⟨(paE k).trans (paE h),(pan k).trans (pan h),(pab k).trans (pab h),py h.size k.size,
   fun i hi au=>(rz k i (px hi h.size) au).trans (rz h i hi au)⟩
theorem Only.xi {g:Nat} {w w':World} (h:Ext w w'):Only g w w':=by
 have h':=h.below;exact ⟨h'.os,h'.tape,h'.output,h'.size,fun i hi _=>h'.block i hi⟩
theorem Only.ext {g:Nat} {w0 w w':World} (hx:Ext w0 w) (h:Only g w w') (hg:w0.heap.size<=g):Ext w0 w':=by
 have h':=hx.below
 exact ⟨(paE h).trans h'.os,(pan h).trans h'.tape,(pab h).trans h'.output,py h'.size h.size,
  fun i hi=>(rz h i (px hi h'.size) (fun e=>by injection e with e; omega)).trans (h'.block i hi)⟩
theorem Only.block {g:Nat} {w w':World} (h:Only g w w') {i:Nat} (hi:i < w.heap.size) (au:i ≠ g):w'.heap[i]?=w.heap[i]?:=rz h i hi (fun e=>au (by injection e))
theorem Only.cell {g:Nat} {w w':World} (h:Only g w w') {p:Addr} (hp:p.block < w.heap.size) (au:p.block ≠ g):w'.cell? p=w.cell? p:=pB (h.block hp au)
theorem uj.only {g:Nat} {w w':World} {A:Option Addr} {ds:List Nat} (h:uj w A ds) (k:Only g w w') (au:∀ ad,A=some ad->ad.block ≠ g):uj w' A ds:=
 ⟨h.1,fun hl=>by
   obtain ⟨ad,e,hb,hc⟩:=h.2 hl
   exact ⟨ad,e,px hb k.size,fun j hj=>(k.cell (by rw [ja]; exact hb) (by rw [ja]; exact au ad e)).trans (hc j hj)⟩⟩
theorem Row.only {g g':Nat} {w w':World} {ds:List Nat} (h:Row w g ds) (k:Only g' w w') (au:g ≠ g'):Row w' g ds:=(k.block h.lt au).trans h
def wab (B:Nat) (v:Value):Prop:=∀ ad n c,v=.slice (some ad) n c->B<=ad.block
theorem wab.mk (B:Nat) (ad:Addr) (n c:Nat) (h:B<=ad.block):wab B (.slice (some ad) n c):=by
 intro ad' n' c' e;injection e with e1
 injection e1 with e2
 rw [<- e2]; exact h
theorem wab.nil (B n c:Nat):wab B (.slice none n c):=by
 intro ad' n' c' e;injection e with e1
 cases e1
theorem wab.mono {B B':Nat} {v:Value} (h:wab B v) (hB:B'<=B):wab B' v:=fun ad n c e=>py hB (h ad n c e)
def yat (n:Nat) (w:World) (e:Ending) (w':World):Prop:=∃ v,e=.returned v/\jc w' v (dg n)/\Ext w w'
end Go.Proofs.YtcepajijiabkmaaGreat

set_option maxRecDepth 100000
set_option maxHeartbeats 8000000
namespace Go.Proofs.YtcepajijiabkmaaGreat
open Go.RowKit
theorem kaq {k:IntKind} {a b:Int} (h:a=b):Ending.returned (.int k a)=.returned (.int k b):=by rw [h]
theorem wcz {k l:IntKind} {a b c d:Int} (h:a=b) (h':c=d):Ending.returned (.tuple #[.int k a,.int l c])=.returned (.tuple #[.int k b,.int l d]):=by rw [h,h']
theorem uc9 (m:Nat) (h:m < 4294967296):m / 2147483648=(m.testBit 31).toNat:=by
 rw [SJ];have:m / 2 ^ 31 < 2:=by omega
 by_cases h1:m / 2 ^ 31 % 2=1
 · simp only [h1,decide_true,Bool.toNat_true]; omega
 · simp only [h1,decide_false,Bool.toNat_false]; omega
theorem ybw (m:Nat) (h:m < 4294967296):m.testBit 31=decide (2147483648<=m):=by
 rw [SJ]
 by_cases h1:2147483648<=m
 · simp only [h1,decide_true,decide_eq_true_eq]; omega
 · simp only [h1,decide_false,decide_eq_false_iff_not]; omega
def bor (x y c:Int):Int:=if x < y+c then 1 else 0
theorem wa2 (x y c:Int):0<=bor x y c/\bor x y c<=1:=by unfold bor; split <;> omega
theorem ycy (x y c:Int) (x0:0<=x) (x1:x < 4294967296) (y0:0<=y) (y1:y < 4294967296) (c0:0<=c) (c1:c<=1) :
 bits .or .u32 (bits .and .u32 (bits .xor .u32 IntKind.u32.max x) y) (bits .and .u32 (bits .xor .u32 IntKind.u32.max (bits .xor .u32 x y)) ((x - y - c) % 4294967296)) / 2147483648=bor x y c:=by
 obtain ⟨a,rfl⟩:=sM x0;obtain ⟨b,rfl⟩:=sM y0;obtain ⟨k,rfl⟩:=sM c0;obtain ⟨d,hd⟩:=sM (show 0<=((a:Int) - b - k) % 4294967296 by omega);have eH:d < 4294967296:=by omega
 have ha:a < 4294967296:=by omega
 have hb:b < 4294967296:=by omega
 have hm:IntKind.u32.max=((4294967295:Nat):Int):=by decide
 have lx:∀ p q:Nat,p < 4294967296->q < 4294967296->p ^^^ q < 4294967296:=fun p q hp hq=>Nat.xor_lt_two_pow (n:=32) hp hq
 have la:∀ p q:Nat,q < 4294967296->p &&& q < 4294967296:=fun p q hq=>Nat.and_lt_two_pow (n:=32) _ hq
 have lo:∀ p q:Nat,p < 4294967296->q < 4294967296->p ||| q < 4294967296:=fun p q hp hq=>Nat.or_lt_two_pow (n:=32) hp hq
 rw [hd,hm,u32_xor_nat _ _ (by omega) ha,u32_and_nat _ _ (lx _ _ (by omega) ha) hb,u32_xor_nat _ _ ha hb,u32_xor_nat _ _ (by omega) (lx _ _ ha hb),
  u32_and_nat _ _ (lx _ _ (by omega) (lx _ _ ha hb)) eH,u32_or_nat _ _ (la _ _ hb) (la _ _ eH)]
 have hl:=lo _ _ (la (4294967295 ^^^ a) b hb) (la (4294967295 ^^^ (a ^^^ b)) d eH);have ht:=uc9 _ hl;rw [Nat.testBit_or,paQ,paQ,paP,paP,paP,ybw a ha,ybw b hb,ybw d eH] at ht;have OH:(4294967295:Nat).testBit 31=true:=by decide
 rw [OH] at ht;have e:∀ n:Nat,((n:Int) / 2147483648)=((n / 2147483648:Nat):Int):=fun n=>by omega
 rw [e,ht];unfold bor
 by_cases p:2147483648<=a <;> by_cases q:2147483648<=b <;> by_cases r:2147483648<=d <;> by_cases s:(a:Int) < b+k <;> simp [p,q,r,s] <;> omega
theorem add32 (x y c:Int) (w:World) (x0:0<=x) (x1:x < 4294967296) (y0:0<=y) (y1:y < 4294967296) (c0:0<=c) (c1:c<=1) :
 Calls Tryz.prog 125 #[.int .u32 x,.int .u32 y,.int .u32 c] w fun e w' =>
  e=.returned (.tuple #[.int .u32 ((x+y+c) % 4294967296),.int .u32 ((x+y+c) / 4294967296)])/\w=w':=by
 go_enter Tryz.func125,Tryz.ntmps125
 go_wp2
 go_ret2
 exact ⟨rfl,rfl⟩
theorem xcj (x y:Int) (w:World) (x0:0<=x) (x1:x < 4294967296) (y0:0<=y) (y1:y < 4294967296) :
 Calls Tryz.prog 154 #[.int .u32 x,.int .u32 y] w fun e w' =>
  e=.returned (.tuple #[.int .u32 (x * y / 4294967296),.int .u32 (x * y % 4294967296)])/\w=w':=by
 have h0:0<=x * y:=pa9 x0 y0;have h1:x * y<=4294967295 * 4294967295:=pba (by omega) (by omega) y0 (by omega);go_enter Tryz.func154,Tryz.ntmps154
 go_wp2
 go_ret2
 exact ⟨rfl,rfl⟩
theorem ucg (x y c:Int) (w:World) (x0:0<=x) (x1:x < 4294967296) (y0:0<=y) (y1:y < 4294967296) (c0:0<=c) (c1:c<=1) :
 Calls Tryz.prog 127 #[.int .u32 x,.int .u32 y,.int .u32 c] w fun e w' =>
  e=.returned (.tuple #[.int .u32 ((x - y - c) % 4294967296),.int .u32 (bor x y c)])/\w=w':=by
 have hs:¬ IntKind.u32.signed=true:=by decide
 go_enter Tryz.func127,Tryz.ntmps127
 go_wp2
 go_ret2
 rw [ycy x y c x0 x1 y0 y1 c0 c1];exact ⟨wcz (by omega) rfl,rfl⟩
theorem zc9 (h l d:Int) (w:World) (h0:0<=h) (h1:h < d) (l0:0<=l) (l1:l < 4294967296) (d1:d < 4294967296) :
 Calls Tryz.prog 155 #[.int .u32 h,.int .u32 l,.int .u32 d] w fun e w' =>
  e=.returned (.tuple #[.int .u32 ((h * 4294967296+l) / d),.int .u32 ((h * 4294967296+l) % d)])/\∃ n,w'=w.drewN n:=by
 have hd:(d == 0)=false:=by simp; omega
 have FK:(d != 0)=true:=by simp; omega
 have hdh:decide (d<=h)=false:=by simp; omega
 have hor:bits .or .u64 (h * 4294967296) l=h * 4294967296+l:=by
  obtain ⟨a,rfl⟩:=sM h0;obtain ⟨b,rfl⟩:=sM l0;have:=u64_or_nat (a * 4294967296) b (by omega) (by omega);rw [nat_join 32 (a * 4294967296) b (by omega) (by omega)] at this;simpa using this
 have kD:0<=(h * 4294967296+l) / d:=Int.ediv_nonneg (by omega) (by omega);have Hf:(h * 4294967296+l) / d < 4294967296:=Int.ediv_lt_of_lt_mul (by omega) (by omega);have hr0:0<=(h * 4294967296+l) % d:=Int.emod_nonneg _ (by omega);have nS:(h * 4294967296+l) % d < d:=Int.emod_lt_of_pos _ (by omega);go_enter Tryz.func155,Tryz.ntmps155
 go_wp2
 go_quiet (fail)
 go_wp2
 go_ret2
 exact ⟨rfl,_,rfl⟩
end Go.Proofs.YtcepajijiabkmaaGreat
