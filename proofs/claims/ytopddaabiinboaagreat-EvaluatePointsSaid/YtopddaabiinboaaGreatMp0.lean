/- Plain arithmetic of digit lists in base 2^32, least significant first. No program in sight. -/
import Derived.Test.YtopddaabiinboaaGreatRows
import Derived.WalkKit
import Derived.WalkSpells
import Derived.WalkLawsBesides
import Derived.Lib.Hide
import Derived.Deep.QuietTactic
import Derived.BigQuiet
import Derived.Deep.RegionHeld3
import Derived.Deep.DrawnRows
import Derived.Deep.Draws
import Derived.Laws.CopyOwn
import Derived.Deep.DeepCutAuto
import Derived.Deep.CutBlock
set_option linter.unusedSimpArgs false
set_option linter.unusedVariables false

namespace Go.Proofs.YtopddaabiinboaaGreat
theorem n_m {α:Sort _} (x:α):∃ y,x=y:=⟨x,rfl⟩
def B32:Nat:=4294967296
theorem gc3:B32=4294967296:=rfl
theorem zc5:0 < B32:=by decide
theorem vhd:1 < B32:=by decide
def val : List Nat -> Nat
 | []=>0
 | d :: r=>d+B32 * val r
@[simp] theorem val_nil:val []=0:=rfl
@[simp] theorem val_cons (d:Nat) (r:List Nat):val (d :: r)=d+B32 * val r:=rfl
def uc3 (ds:List Nat):Prop:=∀ d ∈ ds,d < B32
theorem uc3.nil:uc3 []:=fun _ h=>by cases h
theorem uc3.cons {d:Nat} {r:List Nat} (hd:d < B32) (h:uc3 r):uc3 (d :: r):=fun x hx=>by
 rcases List.mem_cons.1 hx with rfl | hx
 · exact hd
 · exact h x hx
theorem uc3.head {d:Nat} {r:List Nat} (h:uc3 (d :: r)):d < B32:=h d (List.mem_cons_self)
theorem uc3.tail {d:Nat} {r:List Nat} (h:uc3 (d :: r)):uc3 r:=fun x hx=>h x (List.mem_cons_of_mem _ hx)
theorem uc3.take {ds:List Nat} (h:uc3 ds) (k:Nat):uc3 (ds.take k):=fun x hx=>h x (List.mem_of_mem_take hx)
theorem uc3.drop {ds:List Nat} (h:uc3 ds) (k:Nat):uc3 (ds.drop k):=fun x hx=>h x (List.mem_of_mem_drop hx)
theorem uc3.append {xs ys:List Nat} (h:uc3 xs) (k:uc3 ys):uc3 (xs ++ ys):=fun x hx=>by
 rcases List.mem_append.1 hx with hx | hx
 · exact h x hx
 · exact k x hx
theorem uc3.get {ds:List Nat} (h:uc3 ds) (j:Nat) (hj:j < ds.length):ds[j] < 4294967296:=h _ (List.getElem_mem hj)
theorem uc3.replicate (n:Nat):uc3 (List.replicate n 0):=fun x hx=>by
 rw [(List.mem_replicate.1 hx).2]; decide
theorem uc3.set {ds:List Nat} (h:uc3 ds) (k d:Nat) (hd:d < B32):uc3 (ds.set k d):=fun x hx=>by
 rcases List.mem_or_eq_of_mem_set hx with hx | rfl
 · exact h x hx
 · exact hd
theorem val_append (xs ys:List Nat):val (xs ++ ys)=val xs+B32 ^ xs.length * val ys:=by
 induction xs with
 | nil=>simp
 | cons d r ih=>simp only [List.cons_append,val_cons,ih,List.length_cons,Nat.pow_succ]; rw [Nat.mul_add,Nat.add_assoc]; congr 2; rw [<- Nat.mul_assoc,Nat.mul_comm B32]
theorem wc5 (ds:List Nat) (k:Nat) (hk:k<=ds.length):val ds=val (ds.take k)+B32 ^ k * val (ds.drop k):=by
 have h:=val_append (ds.take k) (ds.drop k);rw [List.take_append_drop] at h;rw [h,List.length_take,Nat.min_eq_left hk]
theorem wdf (ds:List Nat) (d:Nat):val (ds ++ [d])=val ds+B32 ^ ds.length * d:=by
 rw [val_append]; simp
theorem jdc (n:Nat):val (List.replicate n 0)=0:=by
 induction n with
 | zero=>rfl
 | succ n ih=>rw [List.replicate_succ,val_cons,ih]; rfl
theorem gc9 {ds:List Nat} (h:uc3 ds):val ds < B32 ^ ds.length:=by
 induction ds with
 | nil=>simp
 | cons d r ih =>
   have h1:=ih h.tail;have h2:=h.head;have h3:B32 * (val r+1)<=B32 * B32 ^ r.length:=Nat.mul_le_mul_left _ h1;rw [val_cons,List.length_cons,Nat.pow_succ,Nat.mul_comm _ B32];rw [Nat.mul_add] at h3;omega
def dg (n:Nat):List Nat:=if _h:n=0 then [] else (n % B32) :: dg (n / B32)
termination_by n
decreasing_by exact Nat.div_lt_self (by omega) vhd
theorem uc5:dg 0=[]:=by rw [dg]; simp
theorem yg6 {n:Nat} (h:n ≠ 0):dg n=(n % B32) :: dg (n / B32):=by rw [dg]; simp [h]
theorem jc3 (n:Nat):val (dg n)=n:=by
 induction n using Nat.strongRecOn with
 | _ n ih =>
   by_cases h:n=0
   · subst h; rw [uc5]; rfl
   · rw [yg6 h,val_cons,ih _ (Nat.div_lt_self (by omega) vhd)];exact Nat.mod_add_div n B32
theorem qdj (n:Nat):uc3 (dg n):=by
 induction n using Nat.strongRecOn with
 | _ n ih =>
   by_cases h:n=0
   · subst h; rw [uc5]; exact uc3.nil
   · rw [yg6 h]; exact uc3.cons (Nat.mod_lt _ zc5) (ih _ (Nat.div_lt_self (by omega) vhd))
theorem jhn (d r:Nat) (hd:d < B32) (hr:d+B32 * r ≠ 0):dg (d+B32 * r)=d :: dg r:=by
 rw [yg6 hr,Nat.add_mul_mod_self_left,Nat.mod_eq_of_lt hd,Nat.add_mul_div_left _ _ zc5,Nat.div_eq_of_lt hd,Nat.zero_add]
def kdd (ds : List Nat) : Nat -> Nat
 | 0=>0
 | n+1=>if ds.getD n 0=0 then kdd ds n else n+1
theorem ygy (ds:List Nat) (n:Nat):kdd ds n<=n:=by
 induction n with
 | zero=>simp [kdd]
 | succ n ih=>unfold kdd; split <;> omega
theorem wie (d:Nat) (r:List Nat) (n:Nat):kdd (d :: r) (n+1)=if kdd r n=0 then (if d=0 then 0 else 1) else kdd r n+1:=by
 induction n with
 | zero=>simp [kdd]
 | succ n ih =>
   rw [kdd];simp only [List.getD_cons_succ]
   by_cases h:r.getD n 0=0
   · rw [if_pos h,ih]; simp only [kdd,h,if_true]
   · rw [if_neg h]; simp only [kdd,h,if_false]; simp
theorem zg1 (n:Nat):dg n=[] ↔ n=0:=by
 by_cases h:n=0
 · subst h; simp [uc5]
 · rw [yg6 h]; simp [h]
theorem khk {ds:List Nat} (h:uc3 ds):dg (val ds)=ds.take (kdd ds ds.length):=by
 induction ds with
 | nil=>simp [uc5,kdd]
 | cons d r ih =>
   have h1:=ih h.tail;rw [List.length_cons,wie]
   by_cases hr:kdd r r.length=0
   · rw [hr,List.take_zero,zg1] at h1;rw [if_pos hr,val_cons,h1]
     by_cases hd:d=0
     · subst hd; simp [uc5]
     · rw [if_neg hd,Nat.mul_zero,Nat.add_zero];have:=jhn d 0 h.head (by omega);rw [Nat.mul_zero,Nat.add_zero,uc5] at this;rw [this]; simp
   · rw [if_neg hr,List.take_succ_cons,<- h1,val_cons,jhn d _ h.head];intro h0;have h2:val r=0:=by
      rcases Nat.eq_zero_or_pos (val r) with h3 | h3
      · exact h3
      · have:=Nat.mul_pos zc5 h3; omega
     rw [h2,uc5] at h1;have h4:(r.take (kdd r r.length)).length=0:=by rw [<- h1]; rfl
     rw [List.length_take] at h4;have:=ygy r r.length;omega
theorem udi {ds:List Nat} (h:uc3 ds):(dg (val ds)).length=kdd ds ds.length:=by
 rw [khk h,List.length_take];have:=ygy ds ds.length;omega
theorem zc4 {n k:Nat} (h:n < B32 ^ k):(dg n).length<=k:=by
 induction k generalizing n with
 | zero => rw [Nat.pow_zero] at h; have : n = 0 := by omega
           subst this; rw [uc5]; simp
 | succ k ih =>
   by_cases h0:n=0
   · subst h0; rw [uc5]; simp
   · rw [yg6 h0,List.length_cons];have:n / B32 < B32 ^ k:=by
      rw [Nat.pow_succ] at h;exact Nat.div_lt_of_lt_mul (by rw [Nat.mul_comm]; exact h)
     have:=ih this;omega
theorem ydb (n:Nat):n < B32 ^ (dg n).length:=by
 have:=gc9 (qdj n)
 rwa [jc3] at this
theorem xc6 {m n:Nat} (h:m<=n):(dg m).length<=(dg n).length:=
 zc4 (Nat.lt_of_le_of_lt h (ydb n))
theorem vc3 {ds:List Nat} (h:uc3 ds):(dg (val ds)).length<=ds.length:=zc4 (gc9 h)
theorem kgz {m n:Nat} (h:(dg m).length < (dg n).length):m < n:=by
 rcases Nat.lt_or_ge m n with h1 | h1
 · exact h1
 · have:=xc6 h1; omega
theorem zgv (m n:Nat):(dg (m+n)).length<=max (dg m).length (dg n).length+1:=by
 apply zc4;have h1:=ydb m;have h2:=ydb n;have h3:B32 ^ (dg m).length<=B32 ^ max (dg m).length (dg n).length:=Nat.pow_le_pow_right zc5 (Nat.le_max_left _ _);have h4:B32 ^ (dg n).length<=B32 ^ max (dg m).length (dg n).length:=Nat.pow_le_pow_right zc5 (Nat.le_max_right _ _);rw [Nat.pow_succ];have:B32 ^ max (dg m).length (dg n).length * 2<=B32 ^ max (dg m).length (dg n).length * B32:=Nat.mul_le_mul_left _ (by decide);omega
theorem wgu (m n:Nat):(dg (m * n)).length<=(dg m).length+(dg n).length:=by
 apply zc4;rw [Nat.pow_add];have h1:=ydb m;have h2:=ydb n;exact Nat.mul_lt_mul_of_lt_of_le h1 (Nat.le_of_lt h2) (by have:=Nat.pow_pos (n:=(dg n).length) zc5; omega)
theorem yhv {n:Nat} (h:n ≠ 0):B32 ^ ((dg n).length - 1)<=n:=by
 rcases Nat.lt_or_ge n (B32 ^ ((dg n).length - 1)) with h1 | h1
 · have h2:=zc4 h1;have h3:dg n ≠ []:=fun e=>h ((zg1 n).1 e)
   have h4:0 < (dg n).length:=List.length_pos_iff.2 h3;omega
 · exact h1
theorem yg0 {n:Nat} (h:n ≠ 0):0 < (dg n).length:=by
 have h3:dg n ≠ []:=fun e=>h ((zg1 n).1 e)
 exact List.length_pos_iff.2 h3
theorem xg6 {n:Nat} (h:(dg n).length=0):n=0:=(zg1 n).1 (List.eq_nil_of_length_eq_zero h)
theorem ugy {n:Nat} (h0:n ≠ 0) (h:n < B32):dg n=[n]:=by
 rw [yg6 h0,Nat.mod_eq_of_lt h,Nat.div_eq_of_lt h,uc5]
theorem gi8 (a b:Nat) (ha:a < B32) (hb0:b ≠ 0) (hb:b < B32):dg (a+B32 * b)=[a,b]:=by
 rw [jhn a b ha,ugy hb0 hb];have:=Nat.mul_pos zc5 (Nat.pos_of_ne_zero hb0);omega
theorem ghd {xs ys : List Nat} (k : Nat) (hx : uc3 xs) (hkx : k < xs.length) (hky : k < ys.length) (hl : xs.length = ys.length)
 (he:xs.drop (k+1)=ys.drop (k+1)) (h:xs[k] < ys[k]):val xs < val ys:=by
 have e1:=wc5 xs k (by omega);have e2:=wc5 ys k (by omega);rw [List.drop_eq_getElem_cons hkx,val_cons] at e1;rw [List.drop_eq_getElem_cons hky,val_cons,<- he] at e2;have h1:=gc9 (hx.take k);rw [List.length_take,Nat.min_eq_left (by omega)] at h1;have h2:B32 ^ k * (xs[k]+1+B32 * val (xs.drop (k+1)))<=B32 ^ k * (ys[k]+B32 * val (xs.drop (k+1))):=Nat.mul_le_mul_left _ (by omega);have h3:B32 ^ k * (xs[k]+1+B32 * val (xs.drop (k+1)))=B32 ^ k * (xs[k]+B32 * val (xs.drop (k+1)))+B32 ^ k:=by
  rw [show xs[k]+1+B32 * val (xs.drop (k+1))=(xs[k]+B32 * val (xs.drop (k+1)))+1 from by omega,Nat.mul_add,Nat.mul_one]
 omega
end Go.Proofs.YtopddaabiinboaaGreat

/- Words for memory: what a value of the program's types means in a world, and that it stays so while only new blocks are made. -/
namespace Go.Proofs.YtopddaabiinboaaGreat
open Go.RowKit
theorem uc2 (a:Addr) (n:Nat):(a.add n).block=a.block:=by unfold Addr.add; split <;> rfl
theorem zhl (a:Addr) (i j:Nat):(a.add i).add j=a.add (i+j):=by
 unfold Addr.add
 by_cases hi:i=0 <;> by_cases hj:j=0 <;> simp [hi,hj,Nat.add_assoc]
theorem zc9 (b o n:Nat):(⟨b,o,none⟩:Addr).add n=⟨b,o+n,none⟩:=by unfold Addr.add; split <;> simp_all
def Ext (w w':World):Prop:=Below w.heap.size w w'
theorem Ext.refl (w:World):Ext w w:=Below.refl _ _
theorem Ext.size {w w':World} (h:Ext w w'):w.heap.size<=w'.heap.size:=Below.size h
theorem Ext.trans {a b c:World} (h:Ext a b) (k:Ext b c):Ext a c:=Below.trans h (Below.mono k h.size)
theorem Ext.below {w w':World} (h:Ext w w'):Below w.heap.size w w':=h
theorem Ext.cell {w w':World} (h:Ext w w') {p:Addr} (hp:p.block < w.heap.size):w'.cell? p=w.cell? p:=Below.cell h hp
theorem Ext.frozen {w w':World} (h:Ext w w') {p:Addr} (hp:p.block < w.heap.size):w'.frozen? p=w.frozen? p:=Below.frozen h hp
theorem Ext.alloc {w w':World} (h:Ext w w') (o:Obj):Ext w (w'.alloc o):=Below.alloc h h.size o
theorem Ext.setCell {w w':World} (h:Ext w w') {p:Addr} (hp:w.heap.size<=p.block) (u:Value):Ext w (w'.setCell p u):=Below.setCell h hp u
theorem Ext.drew {w w':World} (h:Ext w w'):Ext w w'.drew:=Below.drew h
theorem Ext.drewN {w w':World} (h:Ext w w') (n:Nat):Ext w (w'.drewN n):=by
 have h':=h.below;exact ⟨h'.os,h'.tape,h'.output,h'.size,h'.block⟩
theorem Ext.cells {W w1:World} (hb:Ext W w1):(∀ b o,b < W.heap.size->w1.cell? ⟨b,o,none⟩=W.cell? ⟨b,o,none⟩)/\(∀ b o,b < W.heap.size->w1.frozen? ⟨b,o,none⟩=W.frozen? ⟨b,o,none⟩):=
 ⟨fun b o h=>hb.cell (p:=⟨b,o,none⟩) h,fun b o h=>hb.frozen (p:=⟨b,o,none⟩) h⟩
def wc4 (w:World) (A:Option Addr) (ds:List Nat):Prop:=
 uc3 ds/\(0 < ds.length->∃ ad,A=some ad/\ad.block < w.heap.size/\∀ j (h:j < ds.length),w.cell? (ad.add j)=some (.int .u32 (ds[j]:Nat)))
theorem wc4.ext {w w':World} {A:Option Addr} {ds:List Nat} (h:wc4 w A ds) (k:Ext w w'):wc4 w' A ds:=
 ⟨h.1,fun hl=>by
   obtain ⟨ad,e,hb,hc⟩:=h.2 hl
   exact ⟨ad,e,Nat.lt_of_lt_of_le hb k.size,fun j hj=>(k.cell (by rw [uc2]; exact hb)).trans (hc j hj)⟩⟩
theorem wc4.at_ {w:World} {A:Option Addr} {ds:List Nat} (h:wc4 w A ds) (k:Nat) (hk:k < ds.length) :
 ∃ ad,A=some ad/\ad.block < w.heap.size/\w.cell? (ad.add k)=some (.int .u32 (ds[k]:Nat))/\ds[k] < 4294967296:=by
 obtain ⟨ad,e,hb,hc⟩:=h.2 (by omega);exact ⟨ad,e,hb,hc k hk,h.1.get k hk⟩
theorem wc4.get_ {w:World} {A:Option Addr} {ds:List Nat} (h:wc4 w A ds) (k:Nat) (hk:k < ds.length) :
 ∃ (ad:Addr) (x:Nat),A=some ad/\ad.block < w.heap.size/\w.cell? (ad.add k)=some (.int .u32 (x:Nat))/\x < 4294967296/\Hid (ds[k]?=some x):=by
 obtain ⟨ad,e,hb,hc⟩:=h.2 (by omega);exact ⟨ad,ds[k],e,hb,hc k hk,h.1.get k hk,List.getElem?_eq_getElem hk⟩
theorem wc4.nil (w:World) (A:Option Addr):wc4 w A []:=⟨uc3.nil,fun h=>absurd h (by simp)⟩
theorem wc4.take {w:World} {A:Option Addr} {ds:List Nat} (h:wc4 w A ds) (k:Nat):wc4 w A (ds.take k):=
 ⟨h.1.take k,fun hl=>by
   rw [List.length_take] at hl;obtain ⟨ad,e,hb,hc⟩:=h.2 (by omega);refine ⟨ad,e,hb,fun j hj=>?_⟩;rw [List.length_take] at hj
   rw [hc j (by omega),List.getElem_take]⟩
theorem wc4.drop {w:World} {A:Option Addr} {ds:List Nat} (h:wc4 w A ds) (k cap:Nat) (hk:k<=ds.length) (hc:ds.length<=cap) :
 wc4 w (if cap=k then A else A.map (·.add k)) (ds.drop k):=
 ⟨h.1.drop k,fun hl=>by
   rw [List.length_drop] at hl;obtain ⟨ad,rfl,hb,hcell⟩:=h.2 (by omega);rw [if_neg (by omega)];refine ⟨ad.add k,rfl,by rw [uc2]; exact hb,fun j hj=>?_⟩;rw [List.length_drop] at hj
   rw [zhl,hcell (k+j) (by omega),List.getElem_drop]⟩
def vc2 (w:World) (v:Value) (ds:List Nat):Prop:=
 ∃ A c,v=.slice A ds.length c/\ds.length<=c/\c<=9223372036854775807/\wc4 w A ds
theorem vc2.ext {w w':World} {v:Value} {ds:List Nat} (h:vc2 w v ds) (k:Ext w w'):vc2 w' v ds:=by
 obtain ⟨A,c,e,h1,h2,h3⟩:=h;exact ⟨A,c,e,h1,h2,h3.ext k⟩
theorem vc2.digs {w:World} {v:Value} {ds:List Nat} (h:vc2 w v ds):uc3 ds:=by
 obtain ⟨A,c,e,h1,h2,h3⟩:=h;exact h3.1
theorem vc2.nil (w:World):vc2 w (.slice none 0 0) []:=⟨none,0,rfl,by simp,by simp,wc4.nil _ _⟩
def jc8 (ds:List Nat):List Value:=ds.map fun d=>Value.int .u32 (d:Nat)
theorem uda (ds:List Nat):(jc8 ds).length=ds.length:=by simp [jc8]
theorem gg6 (ds:List Nat) (i:Nat) (h:i < ds.length):(jc8 ds)[i]?=some (.int .u32 (ds[i]:Nat)):=by
 simp [jc8,List.getElem?_eq_getElem h]
theorem ghr (ds:List Nat):∀ v ∈ jc8 ds,v.oneCell'=true:=by
 intro v hv;obtain ⟨d,_,rfl⟩:=List.mem_map.1 hv
 rfl
theorem uim (ds:List Nat) (i d:Nat):(jc8 ds).toArray.setIfInBounds i (.int .u32 (d:Nat))=(jc8 (ds.set i d)).toArray:=by
 simp [jc8,List.map_set]
def Row (w:World) (g:Nat) (ds:List Nat):Prop:=w.heap[g]?=some (.cells (jc8 ds).toArray 61 (0,0))
section
variable {w w':World} {g:Nat} {ds:List Nat}
theorem Row.lt (h:Row w g ds):g < w.heap.size:=by
 rcases Nat.lt_or_ge g w.heap.size with hlt | hge
 · exact hlt
 · unfold Row at h; rw [Array.getElem?_eq_none hge] at h; cases h
theorem Row.cell (h:Row w g ds) (i:Nat) (hi:i < ds.length):w.cell? ⟨g,i,none⟩=some (.int .u32 (ds[i]:Nat)):=by
 rw [cell_of_row w g i _ _ (0,0) h]; simpa using gg6 ds i hi
theorem Row.get_ (h:Row w g ds) (k:Nat) (hk:k < ds.length):∃ x:Nat,w.cell? ⟨g,k,none⟩=some (.int .u32 (x:Nat))/\w.frozen? ⟨g,k,none⟩=false/\Hid (ds[k]?=some x):=by
 refine ⟨ds[k],?_,?_,List.getElem?_eq_getElem hk⟩
 · rw [cell_of_row w g k _ _ (0,0) h]; simpa using gg6 ds k hk
 · unfold Row at h;simp [World.frozen?,h]
theorem Row.frozen (h:Row w g ds) (i:Nat):w.frozen? ⟨g,i,none⟩=false:=by
 unfold Row at h;simp [World.frozen?,h]
theorem Row.new (w:World) (ds:List Nat):Row (w.alloc (.cells (jc8 ds).toArray 61)) w.heap.size ds:=heap_alloc_new w _
theorem Row.set_ (h:Row w g ds) (i d:Nat):Row (w.setCell ⟨g,i,none⟩ (.int .u32 (d:Nat))) g (ds.set i d):=by
 unfold Row at h ⊢;rw [<- uim];simp [World.setCell,Array.getElem?_modify,h]
theorem Row.drewN (h:Row w g ds) (n:Nat):Row (w.drewN n) g ds:=h
theorem Row.alloc (h:Row w g ds) (o:Obj):Row (w.alloc o) g ds:=(Below.heap_alloc w o g h.lt).trans h
theorem Row.far (h:Row w g ds) {p:Addr} (hp:g ≠ p.block) (u:Value):Row (w.setCell p u) g ds:=(Below.heap_setCell w p u g hp).trans h
theorem Row.below {B:Nat} (h:Row w g ds) (hb:Below B w w') (hg:g < B):Row w' g ds:=(hb.block g hg).trans h
theorem Row.ext (h:Row w g ds) (hb:Ext w w'):Row w' g ds:=Row.below h hb h.lt
theorem Row.digAt (h:Row w g ds) (hd:uc3 ds):wc4 w (some ⟨g,0,none⟩) ds:=
 ⟨hd,fun _=>⟨_,rfl,h.lt,fun j hj=>by rw [zc9,Nat.zero_add]; exact h.cell j hj⟩⟩
theorem Row.natVn (h:Row w g ds) (hd:uc3 ds) (n c:Nat) (hn:ds.length=n) (hc:n<=c) (hc':c<=9223372036854775807):vc2 w (.slice (some ⟨g,0,none⟩) n c) ds:=by
 subst hn; exact ⟨_,c,rfl,hc,hc',h.digAt hd⟩
theorem Row.natV (h:Row w g ds) (hd:uc3 ds) (c:Nat) (hc:ds.length<=c) (hc':c<=9223372036854775807):vc2 w (.slice (some ⟨g,0,none⟩) ds.length c) ds:=
 ⟨_,c,rfl,hc,hc',h.digAt hd⟩
end
theorem qis:(Tryz.prog.info? 61).map (fun i=>(i.zero,i.size,i.bytes))=some (some (.int .u32 0),1,4):=by kernel_rfl
theorem vhg:(Tryz.prog.info? 61).map (·.size)=some 1:=by kernel_rfl
theorem gda (n:Int) (h0:0<=n) (h1:n<=35184372088832) (w:World) :
 (Instr.makeSlice 25 (.int .i64 n) (.int .i64 n)).run Tryz.prog w =
   .ok (.slice (some ⟨w.heap.size,0,none⟩) n.toNat n.toNat) (w.alloc (.cells (jc8 (List.replicate n.toNat 0)).toArray 61)):=by
 obtain ⟨i0,hi,hz0,hz1,hz2⟩:=info_parts qis;have key:madeCells (Value.int .u32 0).cells (n.toNat * i0.size)=(jc8 (List.replicate n.toNat 0)).toArray:=by
  rw [hz1,Nat.mul_one];apply Array.ext';simp only [madeCells,jc8,List.map_replicate];rw [Array.toList_map,Array.toList_range];apply List.ext_getElem
  · simp
  · intro k h1 h2;simp [Value.cells,Nat.mod_one]
 rw [run_make w 25 61 i0 (.int .u32 0) Tryz.underlying25 hi hz0 .i64 .i64 n n h0 (by omega) (by rw [hz2]; omega) (by omega),key]
def kc4 (a b:Int):Int:=if a < b then -1 else if b < a then 1 else 0
theorem jgw (a b:Int):-1<=kc4 a b/\kc4 a b<=1:=by unfold kc4; split <;> (try split) <;> omega
theorem kdg {a b:Int} (h:a < b):kc4 a b=-1:=if_pos h
theorem qgw {a b:Int} (h:b < a):kc4 a b=1:=by unfold kc4; rw [if_neg (by omega),if_pos h]
theorem jda {a b:Int} (h:a=b):kc4 a b=0:=by unfold kc4; rw [if_neg (by omega),if_neg (by omega)]
def Only (g:Nat) (w w':World):Prop:=w.grownBy w' (some g)
theorem Only.g {g:Nat} {w w':World} (h:Only g w w'):w.grownBy w' (some g):=h
theorem Only.refl (g:Nat) (w:World):Only g w w:=World.grownBy.refl w _
theorem Only.size {g:Nat} {w w':World} (h:Only g w w'):w.heap.size<=w'.heap.size:=World.grownBy.size h
theorem Only.setCell {g:Nat} {w w':World} (h:Only g w w') (k:Nat) (u:Value):Only g w (w'.setCell ⟨g,k,none⟩ u):=by
 have h':=h.g;exact ⟨h'.os,h'.tape,h'.output,by simpa [World.setCell] using h'.size,fun i hi hne=>(Below.heap_setCell w' ⟨g,k,none⟩ u i (fun e=>hne (by rw [e]))).trans (h'.block i hi hne)⟩
theorem Only.drewN {g:Nat} {w w':World} (h:Only g w w') (n:Nat):Only g w (w'.drewN n):=by
 have h':=h.g;exact ⟨h'.os,h'.tape,h'.output,h'.size,h'.block⟩
theorem Only.trans {g:Nat} {a b c:World} (h:Only g a b) (k:Only g b c):Only g a c:=
 ⟨(World.grownBy.os k).trans (World.grownBy.os h),(World.grownBy.tape k).trans (World.grownBy.tape h),(World.grownBy.output k).trans (World.grownBy.output h),Nat.le_trans h.size k.size,
   fun i hi hne=>(World.grownBy.block k i (Nat.lt_of_lt_of_le hi h.size) hne).trans (World.grownBy.block h i hi hne)⟩
theorem Only.of_ext {g:Nat} {w w':World} (h:Ext w w'):Only g w w':=by
 have h':=h.below;exact ⟨h'.os,h'.tape,h'.output,h'.size,fun i hi _=>h'.block i hi⟩
theorem Only.ext {g:Nat} {w0 w w':World} (hx:Ext w0 w) (h:Only g w w') (hg:w0.heap.size<=g):Ext w0 w':=by
 have h':=hx.below
 exact ⟨(World.grownBy.os h).trans h'.os,(World.grownBy.tape h).trans h'.tape,(World.grownBy.output h).trans h'.output,Nat.le_trans h'.size h.size,
  fun i hi=>(World.grownBy.block h i (Nat.lt_of_lt_of_le hi h'.size) (fun e=>by injection e with e; omega)).trans (h'.block i hi)⟩
theorem Only.block {g:Nat} {w w':World} (h:Only g w w') {i:Nat} (hi:i < w.heap.size) (hne:i ≠ g):w'.heap[i]?=w.heap[i]?:=World.grownBy.block h i hi (fun e=>hne (by injection e))
theorem Only.cell {g:Nat} {w w':World} (h:Only g w w') {p:Addr} (hp:p.block < w.heap.size) (hne:p.block ≠ g):w'.cell? p=w.cell? p:=World.cell?_of_block (h.block hp hne)
theorem wc4.only {g:Nat} {w w':World} {A:Option Addr} {ds:List Nat} (h:wc4 w A ds) (k:Only g w w') (hne:∀ ad,A=some ad->ad.block ≠ g):wc4 w' A ds:=
 ⟨h.1,fun hl=>by
   obtain ⟨ad,e,hb,hc⟩:=h.2 hl
   exact ⟨ad,e,Nat.lt_of_lt_of_le hb k.size,fun j hj=>(k.cell (by rw [uc2]; exact hb) (by rw [uc2]; exact hne ad e)).trans (hc j hj)⟩⟩
theorem Row.only {g g':Nat} {w w':World} {ds:List Nat} (h:Row w g ds) (k:Only g' w w') (hne:g ≠ g'):Row w' g ds:=(k.block h.lt hne).trans h
def wc6 (B:Nat) (v:Value):Prop:=∀ ad n c,v=.slice (some ad) n c->B<=ad.block
theorem wc6.mk (B:Nat) (ad:Addr) (n c:Nat) (h:B<=ad.block):wc6 B (.slice (some ad) n c):=by
 intro ad' n' c' e;injection e with e1
 injection e1 with e2
 rw [<- e2]; exact h
theorem wc6.nil (B n c:Nat):wc6 B (.slice none n c):=by
 intro ad' n' c' e;injection e with e1
 cases e1
theorem wc6.mono {B B':Nat} {v:Value} (h:wc6 B v) (hB:B'<=B):wc6 B' v:=fun ad n c e=>Nat.le_trans hB (h ad n c e)
def ugz (n:Nat) (w:World) (e:Ending) (w':World):Prop:=∃ v,e=.returned v/\vc2 w' v (dg n)/\Ext w w'
end Go.Proofs.YtopddaabiinboaaGreat

/- The functions of math/bits that the program calls, each as an equation on integers. -/
set_option maxRecDepth 100000
set_option maxHeartbeats 8000000
namespace Go.Proofs.YtopddaabiinboaaGreat
open Go.RowKit
theorem qgy {k:IntKind} {a b:Int} (h:a=b):Ending.returned (.int k a)=.returned (.int k b):=by rw [h]
theorem vip {k l:IntKind} {a b c d:Int} (h:a=b) (h':c=d):Ending.returned (.tuple #[.int k a,.int l c])=.returned (.tuple #[.int k b,.int l d]):=by rw [h,h']
theorem gix (m:Nat) (h:m < 4294967296):m / 2147483648=(m.testBit 31).toNat:=by
 rw [Nat.testBit_eq_decide_div_mod_eq];have:m / 2 ^ 31 < 2:=by omega
 by_cases h1:m / 2 ^ 31 % 2=1
 · simp only [h1,decide_true,Bool.toNat_true]; omega
 · simp only [h1,decide_false,Bool.toNat_false]; omega
theorem zhs (m:Nat) (h:m < 4294967296):m.testBit 31=decide (2147483648<=m):=by
 rw [Nat.testBit_eq_decide_div_mod_eq]
 by_cases h1:2147483648<=m
 · simp only [h1,decide_true,decide_eq_true_eq]; omega
 · simp only [h1,decide_false,decide_eq_false_iff_not]; omega
def bor (x y c:Int):Int:=if x < y+c then 1 else 0
theorem jg6 (x y c:Int):0<=bor x y c/\bor x y c<=1:=by unfold bor; split <;> omega
theorem zio (x y c:Int) (x0:0<=x) (x1:x < 4294967296) (y0:0<=y) (y1:y < 4294967296) (c0:0<=c) (c1:c<=1) :
 bits .or .u32 (bits .and .u32 (bits .xor .u32 IntKind.u32.max x) y) (bits .and .u32 (bits .xor .u32 IntKind.u32.max (bits .xor .u32 x y)) ((x - y - c) % 4294967296)) / 2147483648=bor x y c:=by
 obtain ⟨a,rfl⟩:=Int.eq_ofNat_of_zero_le x0;obtain ⟨b,rfl⟩:=Int.eq_ofNat_of_zero_le y0;obtain ⟨k,rfl⟩:=Int.eq_ofNat_of_zero_le c0;obtain ⟨d,hd⟩:=Int.eq_ofNat_of_zero_le (show 0<=((a:Int) - b - k) % 4294967296 by omega);have hd1:d < 4294967296:=by omega
 have ha:a < 4294967296:=by omega
 have hb:b < 4294967296:=by omega
 have hm:IntKind.u32.max=((4294967295:Nat):Int):=by decide
 have lx:∀ p q:Nat,p < 4294967296->q < 4294967296->p ^^^ q < 4294967296:=fun p q hp hq=>Nat.xor_lt_two_pow (n:=32) hp hq
 have la:∀ p q:Nat,q < 4294967296->p &&& q < 4294967296:=fun p q hq=>Nat.and_lt_two_pow (n:=32) _ hq
 have lo:∀ p q:Nat,p < 4294967296->q < 4294967296->p ||| q < 4294967296:=fun p q hp hq=>Nat.or_lt_two_pow (n:=32) hp hq
 rw [hd,hm,u32_xor_nat _ _ (by omega) ha,u32_and_nat _ _ (lx _ _ (by omega) ha) hb,u32_xor_nat _ _ ha hb,u32_xor_nat _ _ (by omega) (lx _ _ ha hb),
  u32_and_nat _ _ (lx _ _ (by omega) (lx _ _ ha hb)) hd1,u32_or_nat _ _ (la _ _ hb) (la _ _ hd1)]
 have hl:=lo _ _ (la (4294967295 ^^^ a) b hb) (la (4294967295 ^^^ (a ^^^ b)) d hd1);have ht:=gix _ hl;rw [Nat.testBit_or,Nat.testBit_and,Nat.testBit_and,Nat.testBit_xor,Nat.testBit_xor,Nat.testBit_xor,zhs a ha,zhs b hb,zhs d hd1] at ht;have hff:(4294967295:Nat).testBit 31=true:=by decide
 rw [hff] at ht;have e:∀ n:Nat,((n:Int) / 2147483648)=((n / 2147483648:Nat):Int):=fun n=>by omega
 rw [e,ht];unfold bor
 by_cases p:2147483648<=a <;> by_cases q:2147483648<=b <;> by_cases r:2147483648<=d <;> by_cases s:(a:Int) < b+k <;> simp [p,q,r,s] <;> omega
theorem add32 (x y c:Int) (w:World) (x0:0<=x) (x1:x < 4294967296) (y0:0<=y) (y1:y < 4294967296) (c0:0<=c) (c1:c<=1) :
 Calls Tryz.prog 169 #[.int .u32 x,.int .u32 y,.int .u32 c] w fun e w' =>
  e=.returned (.tuple #[.int .u32 ((x+y+c) % 4294967296),.int .u32 ((x+y+c) / 4294967296)])/\w=w':=by
 go_enter Tryz.func169,Tryz.ntmps169
 go_wp2
 go_ret2
 exact ⟨rfl,rfl⟩
theorem uh9 (x y:Int) (w:World) (x0:0<=x) (x1:x < 4294967296) (y0:0<=y) (y1:y < 4294967296) :
 Calls Tryz.prog 219 #[.int .u32 x,.int .u32 y] w fun e w' =>
  e=.returned (.tuple #[.int .u32 (x * y / 4294967296),.int .u32 (x * y % 4294967296)])/\w=w':=by
 have h0:0<=x * y:=Int.mul_nonneg x0 y0;have h1:x * y<=4294967295 * 4294967295:=Int.mul_le_mul (by omega) (by omega) y0 (by omega);go_enter Tryz.func219,Tryz.ntmps219
 go_wp2
 go_ret2
 exact ⟨rfl,rfl⟩
theorem uh7 (x y c:Int) (w:World) (x0:0<=x) (x1:x < 4294967296) (y0:0<=y) (y1:y < 4294967296) (c0:0<=c) (c1:c<=1) :
 Calls Tryz.prog 171 #[.int .u32 x,.int .u32 y,.int .u32 c] w fun e w' =>
  e=.returned (.tuple #[.int .u32 ((x - y - c) % 4294967296),.int .u32 (bor x y c)])/\w=w':=by
 have hs:¬ IntKind.u32.signed=true:=by decide
 go_enter Tryz.func171,Tryz.ntmps171
 go_wp2
 go_ret2
 rw [zio x y c x0 x1 y0 y1 c0 c1];exact ⟨vip (by omega) rfl,rfl⟩
theorem giw (h l d:Int) (w:World) (h0:0<=h) (h1:h < d) (l0:0<=l) (l1:l < 4294967296) (d1:d < 4294967296) :
 Calls Tryz.prog 256 #[.int .u32 h,.int .u32 l,.int .u32 d] w fun e w' =>
  e=.returned (.tuple #[.int .u32 ((h * 4294967296+l) / d),.int .u32 ((h * 4294967296+l) % d)])/\∃ n,w'=w.drewN n:=by
 have hd:(d == 0)=false:=by simp; omega
 have hd':(d != 0)=true:=by simp; omega
 have hdh:decide (d<=h)=false:=by simp; omega
 have hor:bits .or .u64 (h * 4294967296) l=h * 4294967296+l:=by
  obtain ⟨a,rfl⟩:=Int.eq_ofNat_of_zero_le h0;obtain ⟨b,rfl⟩:=Int.eq_ofNat_of_zero_le l0;have:=u64_or_nat (a * 4294967296) b (by omega) (by omega);rw [nat_join 32 (a * 4294967296) b (by omega) (by omega)] at this;simpa using this
 have hq0:0<=(h * 4294967296+l) / d:=Int.ediv_nonneg (by omega) (by omega);have hq1:(h * 4294967296+l) / d < 4294967296:=Int.ediv_lt_of_lt_mul (by omega) (by omega);have hr0:0<=(h * 4294967296+l) % d:=Int.emod_nonneg _ (by omega);have hr1:(h * 4294967296+l) % d < d:=Int.emod_lt_of_pos _ (by omega);go_enter Tryz.func256,Tryz.ntmps256
 go_wp2
 go_quiet (fail)
 go_wp2
 go_ret2
 exact ⟨rfl,_,rfl⟩
end Go.Proofs.YtopddaabiinboaaGreat

/- Layer 1 (natural): what each function returns, of digit lists. -/
set_option maxRecDepth 100000
set_option maxHeartbeats 8000000
namespace Go.Proofs.YtopddaabiinboaaGreat
open Go.RowKit
theorem qhg (A:Option Addr) (c n:Nat) (ds:List Nat) (w:World) (hd:wc4 w A ds) (hl:ds.length=n) (hn:n<=c) (hc:c<=9223372036854775807) :
 Calls Tryz.prog 95 #[.slice A n c] w fun e w'=>e=.returned (.slice A (kdd ds n) c)/\w=w':=by
 have HD:=Lib.hid hd; clear hd;have HN:=Lib.hid hl; clear hl;go_enter Tryz.func95,Tryz.ntmps95
 go_wp2
 go_loop [3] (fun i=>∃ k:Nat,k<=n/\i=.int .i64 k/\kdd ds k=kdd ds n) (fun i=>(intOf i).toNat)
 case atStart=>exact ⟨n,Nat.le_refl _,rfl,rfl⟩
 case round =>
  obtain ⟨k,hk,rfl,ht⟩:=hrel;have HT:=Lib.hid ht; clear ht;rcases k with _ | k
  · go_wp2
    go_ret;exact ⟨by rw [<- HT.out]; rfl,rfl⟩
  · have hkl:k < ds.length:=by have:=HN.out; omega
    obtain ⟨ad,rfl,hb,hcell,hlt⟩:=HD.out.at_ k hkl
    by_cases h0:ds[k]'hkl=0
    · rw [h0] at hcell
      go_wp2
      go_round
      case rel=>exact ⟨k,by omega,rfl,by rw [<- HT.out,kdd,if_pos]; rw [List.getD_eq_getElem?_getD,List.getElem?_eq_getElem hkl]; exact h0⟩
      case measure=>simp [intOf]
    · go_wp2
      go_ret;exact ⟨by rw [<- HT.out,kdd,if_neg]; rfl; rw [List.getD_eq_getElem?_getD,List.getElem?_eq_getElem hkl]; exact h0,rfl⟩
theorem jc9 (v:Value) (ds:List Nat) (w:World) (h:vc2 w v ds) :
 Calls Tryz.prog 95 #[v] w fun e w'=>∃ v',e=.returned v'/\vc2 w v' (dg (val ds))/\w=w':=by
 obtain ⟨A,c,rfl,h1,h2,h3⟩:=h;refine (qhg A c ds.length ds w h3 rfl h1 h2).mono ?_;rintro e w' ⟨rfl,rfl⟩;refine ⟨_,rfl,⟨A,c,?_,?_,h2,?_⟩,rfl⟩
 · rw [udi h3.1]
 · rw [udi h3.1]; exact Nat.le_trans (ygy _ _) h1
 · rw [khk h3.1]; exact h3.take _
theorem yha (B:Nat) (v:Value) (ds:List Nat) (w:World) (h:vc2 w v ds) (hf:wc6 B v) :
 Calls Tryz.prog 95 #[v] w fun e w'=>∃ v',e=.returned v'/\vc2 w v' (dg (val ds))/\wc6 B v'/\w=w':=by
 obtain ⟨A,c,rfl,h1,h2,h3⟩:=h;refine (qhg A c ds.length ds w h3 rfl h1 h2).mono ?_;rintro e w' ⟨rfl,rfl⟩;refine ⟨_,rfl,⟨A,c,?_,?_,h2,?_⟩,?_,rfl⟩
 · rw [udi h3.1]
 · rw [udi h3.1]; exact Nat.le_trans (ygy _ _) h1
 · rw [khk h3.1]; exact h3.take _
 · rcases A with _ | ad
   · exact wc6.nil _ _ _
   · exact wc6.mk _ _ _ _ (hf ad _ _ rfl)
theorem qdi (v:Value) (ds:List Nat) (w:World) (h:vc2 w v ds) :
 Calls Tryz.prog 102 #[v] w fun e w'=>e=.returned (.bool (val ds == 0))/\w=w':=by
 obtain ⟨A,c,rfl,h1,h2,h3⟩:=h;have ht:=ygy ds ds.length;have hz:(kdd ds ds.length == 0)=(val ds == 0):=by
  rw [<- udi h3.1,Bool.eq_iff_iff,beq_iff_eq,beq_iff_eq];exact ⟨xg6,fun e=>by rw [e,uc5]; rfl⟩
 have H3:=Lib.hid h3; clear h3;have HZ:=Lib.hid hz; clear hz;go_enter Tryz.func102,Tryz.ntmps102;go_wp2_with fail;refine (qhg A c ds.length ds _ H3.out rfl h1 h2).mono ?_;rintro e w' ⟨rfl,rfl⟩
 go_wp2
 go_ret;refine ⟨?_,rfl⟩;have:=HZ.out;rw [Bool.eq_iff_iff,beq_iff_eq,beq_iff_eq] at this;show Ending.returned (Value.bool _)=_
 congr 2
 rw [Bool.eq_iff_iff,beq_iff_eq,beq_iff_eq,<- this];omega
theorem xdc (v:Value) (ds:List Nat) (w:World) (h:vc2 w v ds) (hs:ds.length<=35184372088832) :
 Calls Tryz.prog 60 #[v] w (ugz (val ds) w):=by
 have ht:(dg (val ds)).length<=ds.length:=vc3 h.digs;go_enter Tryz.func60,Tryz.ntmps60;go_wp2_with fail;refine (jc9 v ds _ h).mono ?_;rintro e w' ⟨v',rfl,hv,rfl⟩;obtain ⟨A,c,rfl,h1,h2,h3⟩:=hv;have hmk:=fun W=>gda ((dg (val ds)).length:Nat) (by omega) (by omega) W
 have H3:=Lib.hid h3;have HD:=Lib.hid (qdj (val ds));clear h3;generalize hE:dg (val ds)=E at *;have HE:=Lib.hid hE;clear hE;go_wp2_with (with_reducible refine wpList_copy_splice rfl (.tmp 9) (.tmp 10) _ _ rfl 61 Tryz.underlying25 vhg _ _ _ _ _ _ rfl rfl w.heap.size 0 (jc8 (List.replicate E.length 0)) 61 ?_ (jc8 E) ?_ ?_ ?_ ?_ w.heap.size w ?_ ?_ ?_)
 · exact heap_alloc_new _ _
 · rw [uda]; simp
 · intro hp;rw [uda] at hp;obtain ⟨ad,e,hb,hc⟩:=H3.out.2 hp;refine ⟨ad,e,fun j x hx=>?_⟩;have hj:j < E.length:=by
    rcases Nat.lt_or_ge j E.length with hj | hj
    · exact hj
    · rw [List.getElem?_eq_none (by rw [uda]; exact hj)] at hx; cases hx
   rw [gg6 E j hj] at hx;rw [World.cell?_alloc_lt _ _ _ (by rw [uc2]; exact hb),hc j hj,hx]
 · rw [uda,uda]; simp
 · exact ghr E
 · exact (Below.refl _ _).alloc (Nat.le_refl _) _
 · exact Nat.le_refl _
 · intro w' hrow hb;have hsp:splice (jc8 (List.replicate E.length 0)) 0 (jc8 E)=jc8 E:=by
    simp [splice,jc8]
   rw [hsp] at hrow;have HR:Hid (Row w' w.heap.size E):=hrow;have HB:Hid (Ext w w'):=hb;clear hrow hb hsp
   go_wp2
   go_ret;refine ⟨_,rfl,?_,HB.out⟩;rw [HE.out];exact HR.out.natV HD.out _ (Nat.le_refl _) (by omega)
theorem jgz (n:Nat) (w:World) (hn:n < 18446744073709551616) :
 Calls Tryz.prog 29 #[.int .u64 n] w (ugz n w):=by
 go_enter Tryz.func29,Tryz.ntmps29;go_wp2_with fail;have hr:Row (w.alloc (Obj.cells #[Value.int IntKind.u32 (↑n % 4294967296),Value.int IntKind.u32 (↑n / 4294967296)] 61)) w.heap.size [n % 4294967296,n / 4294967296]:=by
  have:=Row.new w [n % 4294967296,n / 4294967296];simpa [jc8] using this
 have hd:uc3 [n % 4294967296,n / 4294967296]:=uc3.cons (Nat.mod_lt _ (by decide)) (uc3.cons (by rw [gc3]; omega) uc3.nil);refine (xdc _ _ _ (hr.natV hd 2 (Nat.le_refl _) (by omega)) (by simp)).mono ?_;rintro e w' ⟨v,rfl,hv,hx⟩;have hval:val [n % 4294967296,n / 4294967296]=n:=by simp [val,gc3]; omega
 rw [hval] at hv;have HV:=Lib.hid hv;have HX:=Lib.hid hx;clear hv hx hval hr
 go_wp2
 go_ret;exact ⟨_,rfl,HV.out,((Ext.refl w).alloc _).trans HX.out⟩
theorem wgy (u v:Value) (ds es:List Nat) (w:World) (h:vc2 w u ds) (k:vc2 w v es) :
 Calls Tryz.prog 125 #[u,v] w fun e w'=>e=.returned (.int .i64 (kc4 (val ds) (val es)))/\∃ n,w'=w.drewN n:=by
 go_enter Tryz.func125,Tryz.ntmps125;go_wp2_with fail;refine (jc9 u ds _ h).mono ?_;rintro e w' ⟨u',rfl,hu,rfl⟩;go_wp2_with fail;refine (jc9 v es _ k).mono ?_;rintro e w' ⟨v',rfl,hv,rfl⟩;obtain ⟨A,c,rfl,h1,h2,h3⟩:=hu;obtain ⟨A',c',rfl,h1',h2',h3'⟩:=hv;generalize hM:val ds=M at *;generalize hN:val es=N at *;have H3:=Lib.hid h3;have H3':=Lib.hid h3';have HM:=Lib.hid hM;have HN:=Lib.hid hN;clear h3 h3' hM hN h k;rcases Nat.lt_trichotomy (dg M).length (dg N).length with hlt | heq | hgt
 · go_wp2
   go_ret;exact ⟨by rw [HM.out,HN.out,kdg (by have:=kgz hlt; omega)]; rfl,0,rfl⟩
 · generalize hL:(dg N).length=L at *;rw [heq] at h1 ⊢;have HL:=Lib.hid hL;have HEQ:=Lib.hid heq;clear heq hL;have HMd:=Lib.hid (qdj M);have HNd:=Lib.hid (qdj N)
   go_wp2
   go_loopw [5] (fun i wr=>∃ k n:Nat,k<=L/\i=.int .i64 ((k:Int) - 1)/\Hid ((dg M).drop k=(dg N).drop k)/\wr=w.drewN n) (fun i _=>(intOf i+1).toNat)
   case atStart=>exact ⟨L,0,Nat.le_refl _,rfl,Lib.hid (by rw [List.drop_eq_nil_of_le (by have:=HEQ.out; omega),List.drop_eq_nil_of_le (by have:=HL.out; omega)]),rfl⟩
   case round =>
    obtain ⟨k,n,hk,rfl,HK,rfl⟩:=hrel;rcases k with _ | k
    · go_wp2
      go_ret;refine ⟨?_,_,rfl⟩;have hMN:M=N:=by
       have:=HK.out;rw [List.drop_zero,List.drop_zero] at this;rw [<- jc3 M,this,jc3]
      rw [HM.out,HN.out,jda (by rw [hMN])]
      rfl
    · have hkM:k < (dg M).length:=by have:=HEQ.out; omega
      have hkN:k < (dg N).length:=by have:=HL.out; omega
      obtain ⟨ad,rfl,hb,hcell,hlt⟩:=H3.out.at_ k hkM;obtain ⟨ad',rfl,hb',hcell',hlt'⟩:=H3'.out.at_ k hkN;obtain ⟨x,hx⟩:∃ x,x=(dg M)[k]:=⟨_,rfl⟩;obtain ⟨y,hy⟩:∃ y,y=(dg N)[k]:=⟨_,rfl⟩;rw [<- hx] at hcell hlt;rw [<- hy] at hcell' hlt';have HX:=Lib.hid hx;have HY:=Lib.hid hy;clear hx hy;have hk0:(0:Int)<=k:=by omega
      rcases Nat.lt_trichotomy x y with hxy | hxy | hxy
      · go_wp2
        go_quiet (fail)
        go_wp2
        go_ret;refine ⟨?_,_,World.drewN_drewN _ _ _⟩;have:=ghd k HMd.out hkM hkN (HEQ.out.trans HL.out.symm) HK.out (by rw [<- HX.out,<- HY.out]; exact hxy);rw [jc3,jc3] at this;rw [HM.out,HN.out,kdg (by omega)]
        rfl
      · subst hxy
        go_wp2
        go_quiet (fail)
        go_wp2
        go_quiet (fail)
        go_wp2
        go_roundw
        case rel=>exact ⟨k,_,by omega,by go_num,Lib.hid (by rw [List.drop_eq_getElem_cons hkM,List.drop_eq_getElem_cons hkN,HK.out,<- HX.out,<- HY.out]),rfl⟩
        case measure=>simp [intOf]
      · go_wp2
        go_quiet (fail)
        go_wp2
        go_quiet (fail)
        go_wp2
        go_ret;refine ⟨?_,_,by rw [World.drewN_drewN,World.drewN_drewN]⟩;have:=ghd k HNd.out hkN hkM (HL.out.trans HEQ.out.symm) HK.out.symm (by rw [<- HX.out,<- HY.out]; exact hxy);rw [jc3,jc3] at this;rw [HM.out,HN.out,qgw (by omega)]
        rfl
 · go_wp2
   go_ret;exact ⟨by rw [HM.out,HN.out,qgw (by have:=kgz hgt; omega)]; rfl,0,rfl⟩
end Go.Proofs.YtopddaabiinboaaGreat

/- Layer 1 (natural): sums and differences. -/
set_option maxRecDepth 100000
set_option maxHeartbeats 8000000
namespace Go.Proofs.YtopddaabiinboaaGreat
open Go.RowKit
theorem vhs (z a b c x y P s:Nat) (h:z+P * c=a+b) (hs:s=x+y+c):z+P * (s % B32)+P * B32 * (s / B32)=(a+P * x)+(b+P * y):=by
 have e:P * (s % B32)+P * B32 * (s / B32)=P * s:=by rw [Nat.mul_assoc,<- Nat.mul_add,Nat.mod_add_div]
 have e2:P * s=P * x+P * y+P * c:=by rw [hs,Nat.mul_add,Nat.mul_add]
 omega
theorem yhl (x y c : Int) (p : Addr) (w : World) (hc : w.cell? p = some (.int .u32 c)) (hf : w.frozen? p = false)
 (x0:0<=x) (x1:x < 4294967296) (y0:0<=y) (y1:y < 4294967296) (c0:0<=c) (c1:c<=1) :
 Calls Tryz.prog 168 #[.int .u32 x,.int .u32 y,.pointer (some p)] w fun e w' =>
  e=.returned (.int .u32 ((x+y+c) % 4294967296))/\w.setCell p (.int .u32 ((x+y+c) / 4294967296))=w':=by
 go_enter Tryz.func168,Tryz.ntmps168;go_wp2_with (go_at_call 169; refine (add32 _ _ _ _ (by omega) (by omega) (by omega) (by omega) (by omega) (by omega)).mono ?_; rintro e w' ⟨rfl,rfl⟩)
 go_ret;exact ⟨rfl,rfl⟩
theorem yda (zs:List Nat) (k d:Nat) (hk:k < zs.length):(zs.set k d).take (k+1)=zs.take k ++ [d]:=by
 rw [List.take_add_one,List.take_set_of_le (Nat.le_refl k),List.getElem?_set_self hk]
 rfl
theorem jg9 (zs:List Nat) (k:Nat) (hk:k < zs.length):zs.take (k+1)=zs.take k ++ [zs[k]]:=by
 rw [List.take_add_one,List.getElem?_eq_getElem hk]; rfl
def Cell (w:World) (g:Nat) (x:Int):Prop:=w.heap[g]?=some (.cells #[.int .u32 x] 61 (0,0))
theorem Cell.cell {w:World} {g:Nat} {x:Int} (h:Cell w g x):w.cell? ⟨g,0,none⟩=some (.int .u32 x):=by
 rw [cell_of_row w g 0 _ _ (0,0) h]; rfl
theorem Cell.frozen {w:World} {g:Nat} {x:Int} (h:Cell w g x):w.frozen? ⟨g,0,none⟩=false:=by
 unfold Cell at h;simp [World.frozen?,h]
theorem Cell.set_ {w:World} {g:Nat} {x:Int} (h:Cell w g x) (y:Int):Cell (w.setCell ⟨g,0,none⟩ (.int .u32 y)) g y:=by
 unfold Cell at h ⊢;simp [World.setCell,Array.getElem?_modify,h]
theorem Cell.far {w:World} {g:Nat} {x:Int} (h:Cell w g x) {p:Addr} (hp:g ≠ p.block) (u:Value):Cell (w.setCell p u) g x:=(Below.heap_setCell w p u g hp).trans h
theorem Cell.new (w:World) (x:Int):Cell (w.alloc (.cells #[.int .u32 x] 61)) w.heap.size x:=heap_alloc_new w _
theorem Cell.lt {w:World} {g:Nat} {x:Int} (h:Cell w g x):g < w.heap.size:=by
 rcases Nat.lt_or_ge g w.heap.size with hlt | hge
 · exact hlt
 · unfold Cell at h; rw [Array.getElem?_eq_none hge] at h; cases h
theorem Cell.alloc {w:World} {g:Nat} {x:Int} (h:Cell w g x) (o:Obj):Cell (w.alloc o) g x:=(Below.heap_alloc w o g h.lt).trans h
def yg3 (w0:World) (gc gz:Nat) (E F:List Nat) (k:Nat) (wr:World):Prop:=
 ∃ (zs:List Nat) (cy:Nat),Cell wr gc (cy:Int)/\Row wr gz zs/\zs.length=E.length+1/\uc3 zs/\cy<=1/\val (zs.take k)+B32 ^ k * cy=val (E.take k)+val (F.take k)/\Ext w0 wr
theorem yg3.step {w0 wr : World} {gc gz : Nat} {E F : List Nat} {k x y cy : Nat} {zs : List Nat} (hc : Cell wr gc (cy : Int)) (hr : Row wr gz zs) (hl : zs.length = E.length + 1) (hd : uc3 zs)
 (he:val (zs.take k)+B32 ^ k * cy=val (E.take k)+val (F.take k)) (hx:Ext w0 wr) (hne:gc ≠ gz) (h0:w0.heap.size<=gc) (h0':w0.heap.size<=gz)
 (hk:k < E.length) (x1:x < 4294967296) (y1:y < 4294967296) (c1:cy<=1) (hxE:val (E.take (k+1))=val (E.take k)+B32 ^ k * x) (hyF:val (F.take (k+1))=val (F.take k)+B32 ^ k * y) :
 yg3 w0 gc gz E F (k+1) ((wr.setCell ⟨gc,0,none⟩ (.int .u32 (((x:Int)+y+cy) / 4294967296))).setCell ⟨gz,k,none⟩ (.int .u32 (((x:Int)+y+cy) % 4294967296))):=by
 have e1:(((x:Int)+y+cy) / 4294967296)=(((x+y+cy) / B32:Nat):Int):=by rw [gc3]; omega
 have e2:(((x:Int)+y+cy) % 4294967296)=(((x+y+cy) % B32:Nat):Int):=by rw [gc3]; omega
 rw [e1,e2];have hlen:k < zs.length:=by omega
 refine ⟨zs.set k ((x+y+cy) % B32),(x+y+cy) / B32,(hc.set_ _).far (by simpa using hne) _,(hr.far (by simpa using Ne.symm hne) _).set_ _ _,by rw [List.length_set,hl],hd.set _ _ (Nat.mod_lt _ zc5),
  by rw [gc3]; omega,?_,(hx.setCell (by simpa using h0) _).setCell (by simpa using h0') _⟩
 rw [yda zs k _ hlen,wdf,List.length_take,Nat.min_eq_left (by omega),hxE,hyF,Nat.pow_succ];exact vhs _ _ _ _ _ _ _ _ he rfl
theorem wc3 {E:List Nat} {k x:Nat} (hk:Hid (E[k]?=some x)):val (E.take (k+1))=val (E.take k)+B32 ^ k * x:=by
 obtain ⟨h,e⟩:=List.getElem?_eq_some_iff.1 hk.out;rw [jg9 E k h,wdf,List.length_take,Nat.min_eq_left (by omega),e]
theorem zg0 {E:List Nat} {k:Nat} (hk:E.length<=k):val (E.take (k+1))=val (E.take k)+B32 ^ k * 0:=by
 rw [List.take_of_length_le hk,List.take_of_length_le (by omega)]; simp
def jja (w:World) (m L:Nat) (s0 s1:Value) (wx:World):Prop:=
 ∃ A c A' c' E F,s0=.slice A E.length c/\s1=.slice A' F.length c'/\F.length<=E.length/\E.length<=c/\c<=9223372036854775807/\F.length<=c'/\c'<=9223372036854775807 /\
   wc4 w A E/\wc4 w A' F/\val E+val F=m/\E.length<=L/\wx=w
theorem xhd (u v:Value) (ds es:List Nat) (w:World) (h:vc2 w u ds) (k:vc2 w v es) (hs:ds.length+es.length<=35184372088000) :
 Calls Tryz.prog 124 #[u,v] w (ugz (val ds+val es) w):=by
 have hls:(dg (val ds)).length<=ds.length:=vc3 h.digs;have hls':(dg (val es)).length<=es.length:=vc3 k.digs;go_enter Tryz.func124,Tryz.ntmps124;go_wp2_with fail;refine (jc9 u ds _ h).mono ?_;rintro e w' ⟨u',rfl,hu,rfl⟩;go_wp2_with fail;refine (jc9 v es _ k).mono ?_;rintro e w' ⟨v',rfl,hv,rfl⟩;obtain ⟨A,c,rfl,h1,h2,h3⟩:=hu;obtain ⟨A',c',rfl,h1',h2',h3'⟩:=hv;have H3:=Lib.hid h3;have H3':=Lib.hid h3';clear h3 h3' h k
 go_upto_if 19 with (fail)
 go_cut [0,1] (fun s0 s1 wx=>jja w (val ds+val es) (ds.length+es.length) s0 s1 wx)
 case first =>
  by_cases hlt:(dg (val ds)).length < (dg (val es)).length
  · go_wp2
    go_meet
    exact ⟨_,_,_,_,_,_,rfl,rfl,by omega,h1',h2',h1,h2,H3'.out,H3.out,by rw [jc3,jc3]; omega,by omega,rfl⟩
  · go_wp2
    go_meet
    exact ⟨_,_,_,_,_,_,rfl,rfl,by omega,h1,h2,h1',h2',H3.out,H3'.out,by rw [jc3,jc3],by omega,rfl⟩
 case rest =>
  obtain ⟨A,c,A',c',E,F,rfl,rfl,hFE,g1,g2,g3,g4,g5,g6,g7,g8,rfl⟩:=hcut;have G5:=Lib.hid g5;have G6:=Lib.hid g6;have G7:=Lib.hid g7;clear g5 g6 g7 H3 H3' h1 h2 h1' h2' hls hls';have hmk:=fun W=>gda ((E.length:Int)+1) (by omega) (by omega) W
  go_wp2_with fail
  have hinv:yg3 wc wc.heap.size (wc.heap.size+1) E F 0 ((wc.alloc (Obj.cells #[Value.int IntKind.u32 0] 61)).alloc (Obj.cells (jc8 (List.replicate (E.length+1) 0)).toArray 61)):=
   ⟨List.replicate (E.length+1) 0,0,(Cell.new wc 0).alloc _,by have:=Row.new (wc.alloc (Obj.cells #[Value.int IntKind.u32 0] 61)) (List.replicate (E.length+1) 0); simpa using this,by simp,uc3.replicate _,by omega,by simp,((Ext.refl _).alloc _).alloc _⟩
  have HINV:=Lib.hid hinv;clear hinv
  go_loopw [29] (fun i wr=>∃ k:Nat,k<=F.length/\i=.int .i64 k/\Hid (yg3 wc wc.heap.size (wc.heap.size+1) E F k wr)) (fun i _=>F.length - (intOf i).toNat)
  case atStart=>exact ⟨0,by omega,rfl,HINV⟩
  case round =>
   obtain ⟨k,hk,rfl,HI⟩:=hrel
   by_cases hlt:k < F.length
   · obtain ⟨zs,cy,hcy,hrow,hzl,hzd,hc1,hsum,hext⟩:=HI.out;obtain ⟨ad,x,rfl,hb,hcell,hx1,HX⟩:=(G5.out.ext hext).get_ k (by omega);obtain ⟨ad',y,rfl,hb',hcell',hy1,HY⟩:=(G6.out.ext hext).get_ k hlt;have hcc:=hcy.cell;have hcf:=hcy.frozen;obtain ⟨z,hzc,hzf,_⟩:=hrow.get_ k (by omega);have HS:=Lib.hid (yg3.step hcy hrow hzl hzd hsum hext (by omega) (by omega) (by omega) (by omega) hx1 hy1 hc1 (wc3 HX) (wc3 HY));clear HI hcy hrow hzl hzd hsum hext;go_wp2_with fail;refine (yhl _ _ _ _ _ hcc hcf (by omega) (by omega) (by omega) (by omega) (by omega) (by omega)).mono ?_;rintro e w' ⟨rfl,rfl⟩;go_wp2_with fail
     go_roundw
     case rel=>exact ⟨k+1,by omega,by go_num,HS⟩
     case measure=>simp [intOf]; omega
   · obtain rfl:k=F.length:=by omega
     go_wp2_with fail
     go_loopw [10] (fun i wr=>∃ k:Nat,F.length<=k/\k<=E.length/\i=.int .i64 k/\Hid (yg3 wc wc.heap.size (wc.heap.size+1) E F k wr)) (fun i _=>E.length - (intOf i).toNat)
     case atStart=>exact ⟨F.length,Nat.le_refl _,hFE,rfl,HI⟩
     case round =>
      clear HI;obtain ⟨k,hk0,hk,rfl,HI⟩:=hrel;obtain ⟨zs,cy,hcy,hrow,hzl,hzd,hc1,hsum,hext⟩:=HI.out
      by_cases hlt2:k < E.length
      · obtain ⟨ad,x,rfl,hb,hcell,hx1,HX⟩:=(G5.out.ext hext).get_ k (by omega);have hcc:=hcy.cell;have hcf:=hcy.frozen;obtain ⟨z,hzc,hzf,_⟩:=hrow.get_ k (by omega);have HS:=Lib.hid (yg3.step (y:=0) hcy hrow hzl hzd hsum hext (by omega) (by omega) (by omega) (by omega) hx1 (by omega) hc1 (wc3 HX) (zg0 hk0));rw [Int.natCast_zero,Int.add_zero] at HS;clear HI hcy hrow hzl hzd hsum hext;go_wp2_with fail;refine (yhl _ 0 _ _ _ hcc hcf (by omega) (by omega) (by omega) (by omega) (by omega) (by omega)).mono ?_;rw [Int.add_zero];rintro e w' ⟨rfl,rfl⟩;go_wp2_with fail
        go_roundw
        case rel=>exact ⟨k+1,by omega,by omega,by go_num,HS⟩
        case measure=>simp [intOf]; omega
      · obtain rfl:k=E.length:=by omega
        have hcc:=hcy.cell;obtain ⟨z,hzc,hzf,_⟩:=hrow.get_ E.length (by omega);have hrow':=hrow.set_ E.length cy;have hext':=hext.setCell (p:=⟨wc.heap.size+1,E.length,none⟩) (by simp) (.int .u32 (cy:Int));have hd':=hzd.set E.length cy (by rw [gc3]; omega);have hval:val (zs.set E.length cy)=val ds+val es:=by
         have e1:=yda zs E.length cy (by omega);rw [List.take_of_length_le (by rw [List.length_set]; omega)] at e1;rw [e1,wdf,List.length_take,Nat.min_eq_left (by omega),hsum,List.take_of_length_le (Nat.le_refl _),List.take_of_length_le hFE];exact G7.out
        have hlen:(zs.set E.length cy).length=E.length+1:=by rw [List.length_set,hzl]
        have HN:Hid (vc2 (wr.setCell ⟨wc.heap.size+1,E.length,none⟩ (.int .u32 (cy:Int))) (.slice (some ⟨wc.heap.size+1,0,none⟩) (E.length+1) (E.length+1)) (zs.set E.length cy)):=by
         have:=hrow'.natV hd' (E.length+1) (by omega) (by omega);rw [hlen] at this;exact this
        have HV:=Lib.hid hval;have HX:=Lib.hid hext';clear HI hcy hrow hzl hzd hsum hext hrow' hext' hd' hval hlen;go_wp2_with fail;refine (jc9 _ _ _ HN.out).mono ?_;rintro e w' ⟨v',rfl,hv,rfl⟩;have HV2:=Lib.hid hv;clear hv;go_wp2_with fail;go_ret;refine ⟨v',rfl,?_,HX.out⟩;rw [<- HV.out];exact HV2.out
end Go.Proofs.YtopddaabiinboaaGreat

/- Layer 1 (natural): differences. -/
set_option maxRecDepth 100000
set_option maxHeartbeats 8000000
namespace Go.Proofs.YtopddaabiinboaaGreat
open Go.RowKit
theorem zhi (x y c : Int) (p : Addr) (w : World) (hc : w.cell? p = some (.int .u32 c)) (hf : w.frozen? p = false)
 (x0:0<=x) (x1:x < 4294967296) (y0:0<=y) (y1:y < 4294967296) (c0:0<=c) (c1:c<=1) :
 Calls Tryz.prog 170 #[.int .u32 x,.int .u32 y,.pointer (some p)] w fun e w' =>
  e=.returned (.int .u32 ((x - y - c) % 4294967296))/\w.setCell p (.int .u32 (bor x y c))=w':=by
 go_enter Tryz.func170,Tryz.ntmps170;go_wp2_with (go_at_call 171; refine (uh7 _ _ _ _ (by omega) (by omega) (by omega) (by omega) (by omega) (by omega)).mono ?_; rintro e w' ⟨rfl,rfl⟩)
 go_ret;exact ⟨rfl,rfl⟩
theorem giu (z a b c x y P d c':Nat) (h:z+b=a+P * c) (hd:d+y+c=x+B32 * c'):(z+P * d)+(b+P * y)=(a+P * x)+P * B32 * c'+2 * (P * c) - 2 * (P * c):=by
 have e:P * d+P * y+P * c=P * x+P * B32 * c':=by rw [<- Nat.mul_add,<- Nat.mul_add,hd,Nat.mul_add,Nat.mul_assoc]
 omega
def gg2 (w0:World) (gc gz:Nat) (E F:List Nat) (k:Nat) (wr:World):Prop:=
 ∃ (zs:List Nat) (cy:Nat),Cell wr gc (cy:Int)/\Row wr gz zs/\zs.length=E.length/\uc3 zs/\cy<=1/\val (zs.take k)+val (F.take k)=val (E.take k)+B32 ^ k * cy/\Ext w0 wr
theorem gg2.step {w0 wr : World} {gc gz : Nat} {E F : List Nat} {k x y cy : Nat} {zs : List Nat} (hc : Cell wr gc (cy : Int)) (hr : Row wr gz zs) (hl : zs.length = E.length) (hd : uc3 zs)
 (he:val (zs.take k)+val (F.take k)=val (E.take k)+B32 ^ k * cy) (hx:Ext w0 wr) (hne:gc ≠ gz) (h0:w0.heap.size<=gc) (h0':w0.heap.size<=gz)
 (hk:k < E.length) (x1:x < 4294967296) (y1:y < 4294967296) (c1:cy<=1) (hxE:val (E.take (k+1))=val (E.take k)+B32 ^ k * x) (hyF:val (F.take (k+1))=val (F.take k)+B32 ^ k * y) :
 gg2 w0 gc gz E F (k+1) ((wr.setCell ⟨gc,0,none⟩ (.int .u32 (bor x y cy))).setCell ⟨gz,k,none⟩ (.int .u32 (((x:Int) - y - cy) % 4294967296))):=by
 obtain ⟨d,hd1⟩:=Int.eq_ofNat_of_zero_le (show 0<=((x:Int) - y - cy) % 4294967296 by omega);obtain ⟨c',hc'⟩:=Int.eq_ofNat_of_zero_le (jg6 x y cy).1;have hc2:=(jg6 x y cy).2;rw [hc'] at hc2;have hdc:d+y+cy=x+B32 * c':=by
  rw [gc3];unfold bor at hc'
  split at hc' <;> omega
 rw [hd1,hc'];have hlen:k < zs.length:=by omega
 refine ⟨zs.set k d,c',(hc.set_ _).far (by simpa using hne) _,(hr.far (by simpa using Ne.symm hne) _).set_ _ _,by rw [List.length_set,hl],hd.set _ _ (by rw [gc3]; omega),
  by omega,?_,(hx.setCell (by simpa using h0) _).setCell (by simpa using h0') _⟩
 rw [yda zs k _ hlen,wdf,List.length_take,Nat.min_eq_left (by omega),hxE,hyF,Nat.pow_succ];have:=giu _ _ _ _ _ _ _ _ _ he hdc;omega
def xi5 (n:Nat) (w:World) (e:Ending) (w':World):Prop:=∃ v,e=.returned (.tuple #[v,.bool true])/\vc2 w' v (dg n)/\wc6 w.heap.size v/\Ext w w'
theorem ghl (u v:Value) (ds es:List Nat) (w:World) (h:vc2 w u ds) (k:vc2 w v es) (hs:ds.length<=35184372088000) (hge:val es<=val ds) :
 Calls Tryz.prog 126 #[u,v] w (xi5 (val ds - val es) w):=by
 have hls:(dg (val ds)).length<=ds.length:=vc3 h.digs;have hFE:(dg (val es)).length<=(dg (val ds)).length:=xc6 hge;go_enter Tryz.func126,Tryz.ntmps126;go_wp2_with fail;refine (jc9 u ds _ h).mono ?_;rintro e w' ⟨u',rfl,hu,rfl⟩;go_wp2_with fail;refine (jc9 v es _ k).mono ?_;rintro e w' ⟨v',rfl,hv,rfl⟩;go_wp2_with fail;refine (wgy _ _ _ _ _ hu hv).mono ?_;rw [jc3,jc3];have hcmp:0<=kc4 (val ds) (val es):=by unfold kc4; split <;> (try split) <;> omega
 have hcmp1:=(jgw (val ds) (val es)).2;generalize kc4 (val ds) (val es)=cm at *;rintro e wc ⟨rfl,n,hw⟩;have hxw:Ext w wc:=by rw [hw]; exact (Ext.refl w).drewN n
 clear hw;obtain ⟨A,c,rfl,h1,h2,h3⟩:=hu;obtain ⟨A',c',rfl,h1',h2',h3'⟩:=hv;have G5:=Lib.hid (h3.ext hxw);have G6:=Lib.hid (h3'.ext hxw);have HXW:=Lib.hid hxw;clear h3 h3' hxw h k;generalize hE:dg (val ds)=E at *;generalize hF:dg (val es)=F at *;have HE:=Lib.hid hE;have HF:=Lib.hid hF;clear hE hF;have hmk:=fun W=>gda (E.length:Int) (by omega) (by omega) W
 go_wp2_with fail
 have hinv:gg2 wc wc.heap.size (wc.heap.size+1) E F 0 ((wc.alloc (Obj.cells #[Value.int IntKind.u32 0] 61)).alloc (Obj.cells (jc8 (List.replicate E.length 0)).toArray 61)):=
  ⟨List.replicate E.length 0,0,(Cell.new wc 0).alloc _,by have:=Row.new (wc.alloc (Obj.cells #[Value.int IntKind.u32 0] 61)) (List.replicate E.length 0); simpa using this,by simp,uc3.replicate _,by omega,by simp,((Ext.refl _).alloc _).alloc _⟩
 have HINV:=Lib.hid hinv;clear hinv
 go_loopw [26] (fun i wr=>∃ k:Nat,k<=F.length/\i=.int .i64 k/\Hid (gg2 wc wc.heap.size (wc.heap.size+1) E F k wr)) (fun i _=>F.length - (intOf i).toNat)
 case atStart=>exact ⟨0,by omega,rfl,HINV⟩
 case round =>
  obtain ⟨k,hk,rfl,HI⟩:=hrel
  by_cases hlt:k < F.length
  · obtain ⟨zs,cy,hcy,hrow,hzl,hzd,hc1,hsum,hext⟩:=HI.out;obtain ⟨ad,x,rfl,hb,hcell,hx1,HX⟩:=(G5.out.ext hext).get_ k (by omega);obtain ⟨ad',y,rfl,hb',hcell',hy1,HY⟩:=(G6.out.ext hext).get_ k hlt;have hcc:=hcy.cell;have hcf:=hcy.frozen;obtain ⟨z,hzc,hzf,_⟩:=hrow.get_ k (by omega);have HS:=Lib.hid (gg2.step hcy hrow hzl hzd hsum hext (by omega) (by omega) (by omega) (by omega) hx1 hy1 hc1 (wc3 HX) (wc3 HY));clear HI hcy hrow hzl hzd hsum hext;go_wp2_with fail;refine (zhi _ _ _ _ _ hcc hcf (by omega) (by omega) (by omega) (by omega) (by omega) (by omega)).mono ?_;rintro e w' ⟨rfl,rfl⟩;go_wp2_with fail
    go_roundw
    case rel=>exact ⟨k+1,by omega,by go_num,HS⟩
    case measure=>simp [intOf]; omega
  · obtain rfl:k=F.length:=by omega
    go_wp2_with fail
    go_loopw [11] (fun i wr=>∃ k:Nat,F.length<=k/\k<=E.length/\i=.int .i64 k/\Hid (gg2 wc wc.heap.size (wc.heap.size+1) E F k wr)) (fun i _=>E.length - (intOf i).toNat)
    case atStart=>exact ⟨F.length,Nat.le_refl _,hFE,rfl,HI⟩
    case round =>
     clear HI;obtain ⟨k,hk0,hk,rfl,HI⟩:=hrel;obtain ⟨zs,cy,hcy,hrow,hzl,hzd,hc1,hsum,hext⟩:=HI.out
     by_cases hlt2:k < E.length
     · obtain ⟨ad,x,rfl,hb,hcell,hx1,HX⟩:=(G5.out.ext hext).get_ k (by omega);have hcc:=hcy.cell;have hcf:=hcy.frozen;obtain ⟨z,hzc,hzf,_⟩:=hrow.get_ k (by omega);have HS:=Lib.hid (gg2.step (y:=0) hcy hrow hzl hzd hsum hext (by omega) (by omega) (by omega) (by omega) hx1 (by omega) hc1 (wc3 HX) (zg0 hk0));rw [Int.natCast_zero,Int.sub_zero] at HS;clear HI hcy hrow hzl hzd hsum hext;go_wp2_with fail;refine (zhi _ 0 _ _ _ hcc hcf (by omega) (by omega) (by omega) (by omega) (by omega) (by omega)).mono ?_;rw [Int.sub_zero];rintro e w' ⟨rfl,rfl⟩;go_wp2_with fail
       go_roundw
       case rel=>exact ⟨k+1,by omega,by omega,by go_num,HS⟩
       case measure=>simp [intOf]; omega
     · obtain rfl:k=E.length:=by omega
       have hval:val zs=val ds - val es:=by
        have hb:=gc9 hzd;rw [List.take_of_length_le (by omega),List.take_of_length_le hFE,List.take_of_length_le (Nat.le_refl _),<- HE.out,<- HF.out,jc3,jc3] at hsum;rw [hzl,<- HE.out] at hb;have hcy0:cy=0:=by
         rcases Nat.eq_zero_or_pos cy with e | e
         · exact e
         · obtain rfl:cy=1:=by omega
           rw [Nat.mul_one] at hsum;omega
        rw [hcy0] at hsum;omega
       have HN:Hid (vc2 wr (.slice (some ⟨wc.heap.size+1,0,none⟩) E.length E.length) zs):=by
        have:=hrow.natV hzd E.length (by omega) (by omega);rw [hzl] at this;exact this
       have HV:=Lib.hid hval;have HX:=Lib.hid hext;clear HI hcy hrow hzl hzd hsum hext hval;go_wp2_with fail;refine (yha w.heap.size _ _ _ HN.out (wc6.mk _ _ _ _ (by have:=HXW.out.size; simp; omega))).mono ?_;rintro e w' ⟨v',rfl,hv,hfr,rfl⟩;have HV2:=Lib.hid hv;have HFR:=Lib.hid hfr;clear hv hfr;go_wp2_with fail
       go_ret2
       refine ⟨v',rfl,?_,HFR.out,HXW.out.trans HX.out⟩;rw [<- HV.out];exact HV2.out
end Go.Proofs.YtopddaabiinboaaGreat
