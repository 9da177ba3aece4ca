/- Plain arithmetic of digit lists in base 2^32, least significant first. No program in sight. -/
import Derived.Test.YtklnlgnnlmdibaaGreatRows
import Derived.WalkSpells
import Derived.WalkLawsBesides
import Derived.Lib.Hide
import Derived.BigQuiet
import Derived.Deep.RegionHeld3
import Derived.Deep.DrawnRows
import Derived.Laws.CopyOwn
import Derived.Deep.DeepCutAuto
import Derived.Deep.CutBlock
set_option linter.unusedSimpArgs false
set_option linter.unusedVariables false

namespace Go.Proofs.YtklnlgnnlmdibaaGreat
theorem n_m {α:Sort _} (x:α):∃ y,x=y:=⟨x,rfl⟩
def B32:Nat:=4294967296
theorem zh:B32=4294967296:=rfl
theorem yj:0 < B32:=by decide
theorem ybi:1 < B32:=by decide
def val : List Nat -> Nat
 | []=>0
 | d :: r=>d+B32 * val r
@[simp] theorem val_nil:val []=0:=rfl
@[simp] theorem val_cons (d:Nat) (r:List Nat):val (d :: r)=d+B32 * val r:=rfl
def jg (ds:List Nat):Prop:=∀ d ∈ ds,d < B32
theorem jg.nil:jg []:=fun _ h=>by cases h
theorem jg.cons {d:Nat} {r:List Nat} (hd:d < B32) (h:jg r):jg (d :: r):=fun x hx=>by
 rcases List.mem_cons.1 hx with rfl | hx
 · exact hd
 · exact h x hx
theorem jg.head {d:Nat} {r:List Nat} (h:jg (d :: r)):d < B32:=h d (List.mem_cons_self)
theorem jg.tail {d:Nat} {r:List Nat} (h:jg (d :: r)):jg r:=fun x hx=>h x (List.mem_cons_of_mem _ hx)
theorem jg.take {ds:List Nat} (h:jg ds) (k:Nat):jg (ds.take k):=fun x hx=>h x (List.mem_of_mem_take hx)
theorem jg.drop {ds:List Nat} (h:jg ds) (k:Nat):jg (ds.drop k):=fun x hx=>h x (List.mem_of_mem_drop hx)
theorem jg.append {xs ys:List Nat} (h:jg xs) (k:jg ys):jg (xs ++ ys):=fun x hx=>by
 rcases List.mem_append.1 hx with hx | hx
 · exact h x hx
 · exact k x hx
theorem jg.get {ds:List Nat} (h:jg ds) (j:Nat) (hj:j < ds.length):ds[j] < 4294967296:=h _ (List.getElem_mem hj)
theorem jg.replicate (n:Nat):jg (List.replicate n 0):=fun x hx=>by
 rw [(List.mem_replicate.1 hx).2]; decide
theorem jg.set {ds:List Nat} (h:jg ds) (k d:Nat) (hd:d < B32):jg (ds.set k d):=fun x hx=>by
 rcases List.mem_or_eq_of_mem_set hx with hx | rfl
 · exact h x hx
 · exact hd
theorem val_append (xs ys:List Nat):val (xs ++ ys)=val xs+B32 ^ xs.length * val ys:=by
 induction xs with
 | nil=>simp
 | cons d r ih=>simp only [List.cons_append,val_cons,ih,List.length_cons,Nat.pow_succ]; rw [Nat.mul_add,Nat.add_assoc]; congr 2; rw [<- Nat.mul_assoc,Nat.mul_comm B32]
theorem vk (ds:List Nat) (k:Nat) (hk:k<=ds.length):val ds=val (ds.take k)+B32 ^ k * val (ds.drop k):=by
 have h:=val_append (ds.take k) (ds.drop k);rw [List.take_append_drop] at h;rw [h,List.length_take,Nat.min_eq_left hk]
theorem kae (ds:List Nat) (d:Nat):val (ds ++ [d])=val ds+B32 ^ ds.length * d:=by
 rw [val_append]; simp
theorem wab (n:Nat):val (List.replicate n 0)=0:=by
 induction n with
 | zero=>rfl
 | succ n ih=>rw [List.replicate_succ,val_cons,ih]; rfl
theorem jy {ds:List Nat} (h:jg ds):val ds < B32 ^ ds.length:=by
 induction ds with
 | nil=>simp
 | cons d r ih =>
   have h1:=ih h.tail;have h2:=h.head;have h3:B32 * (val r+1)<=B32 * B32 ^ r.length:=Nat.mul_le_mul_left _ h1;rw [val_cons,List.length_cons,Nat.pow_succ,Nat.mul_comm _ B32];rw [Nat.mul_add] at h3;omega
def dg (n:Nat):List Nat:=if _h:n=0 then [] else (n % B32) :: dg (n / B32)
termination_by n
decreasing_by exact Nat.div_lt_self (by omega) ybi
theorem jm:dg 0=[]:=by rw [dg]; simp
theorem waw {n:Nat} (h:n ≠ 0):dg n=(n % B32) :: dg (n / B32):=by rw [dg]; simp [h]
theorem xg (n:Nat):val (dg n)=n:=by
 induction n using Nat.strongRecOn with
 | _ n ih =>
   by_cases h:n=0
   · subst h; rw [jm]; rfl
   · rw [waw h,val_cons,ih _ (Nat.div_lt_self (by omega) ybi)];exact Nat.mod_add_div n B32
theorem gak (n:Nat):jg (dg n):=by
 induction n using Nat.strongRecOn with
 | _ n ih =>
   by_cases h:n=0
   · subst h; rw [jm]; exact jg.nil
   · rw [waw h]; exact jg.cons (Nat.mod_lt _ yj) (ih _ (Nat.div_lt_self (by omega) ybi))
theorem vbh (d r:Nat) (hd:d < B32) (hr:d+B32 * r ≠ 0):dg (d+B32 * r)=d :: dg r:=by
 rw [waw hr,Nat.add_mul_mod_self_left,Nat.mod_eq_of_lt hd,Nat.add_mul_div_left _ _ yj,Nat.div_eq_of_lt hd,Nat.zero_add]
def qac (ds : List Nat) : Nat -> Nat
 | 0=>0
 | n+1=>if ds.getD n 0=0 then qac ds n else n+1
theorem gam (ds:List Nat) (n:Nat):qac ds n<=n:=by
 induction n with
 | zero=>simp [qac]
 | succ n ih=>unfold qac; split <;> omega
theorem vb7 (d:Nat) (r:List Nat) (n:Nat):qac (d :: r) (n+1)=if qac r n=0 then (if d=0 then 0 else 1) else qac r n+1:=by
 induction n with
 | zero=>simp [qac]
 | succ n ih =>
   rw [qac];simp only [List.getD_cons_succ]
   by_cases h:r.getD n 0=0
   · rw [if_pos h,ih]; simp only [qac,h,if_true]
   · rw [if_neg h]; simp only [qac,h,if_false]; simp
theorem uaq (n:Nat):dg n=[] ↔ n=0:=by
 by_cases h:n=0
 · subst h; simp [jm]
 · rw [waw h]; simp [h]
theorem gbe {ds:List Nat} (h:jg ds):dg (val ds)=ds.take (qac ds ds.length):=by
 induction ds with
 | nil=>simp [jm,qac]
 | cons d r ih =>
   have h1:=ih h.tail;rw [List.length_cons,vb7]
   by_cases hr:qac r r.length=0
   · rw [hr,List.take_zero,uaq] at h1;rw [if_pos hr,val_cons,h1]
     by_cases hd:d=0
     · subst hd; simp [jm]
     · rw [if_neg hd,Nat.mul_zero,Nat.add_zero];have:=vbh d 0 h.head (by omega);rw [Nat.mul_zero,Nat.add_zero,jm] at this;rw [this]; simp
   · rw [if_neg hr,List.take_succ_cons,<- h1,val_cons,vbh d _ h.head];intro h0;have h2:val r=0:=by
      rcases Nat.eq_zero_or_pos (val r) with h3 | h3
      · exact h3
      · have:=Nat.mul_pos yj h3; omega
     rw [h2,jm] at h1;have h4:(r.take (qac r r.length)).length=0:=by rw [<- h1]; rfl
     rw [List.length_take] at h4;have:=gam r r.length;omega
theorem uag {ds:List Nat} (h:jg ds):(dg (val ds)).length=qac ds ds.length:=by
 rw [gbe h,List.length_take];have:=gam ds ds.length;omega
theorem zg {n k:Nat} (h:n < B32 ^ k):(dg n).length<=k:=by
 induction k generalizing n with
 | zero => rw [Nat.pow_zero] at h; have : n = 0 := by omega
           subst this; rw [jm]; simp
 | succ k ih =>
   by_cases h0:n=0
   · subst h0; rw [jm]; simp
   · rw [waw h0,List.length_cons];have:n / B32 < B32 ^ k:=by
      rw [Nat.pow_succ] at h;exact Nat.div_lt_of_lt_mul (by rw [Nat.mul_comm]; exact h)
     have:=ih this;omega
theorem wad (n:Nat):n < B32 ^ (dg n).length:=by
 have:=jy (gak n)
 rwa [xg] at this
theorem yu {m n:Nat} (h:m<=n):(dg m).length<=(dg n).length:=
 zg (Nat.lt_of_le_of_lt h (wad n))
theorem jh {ds:List Nat} (h:jg ds):(dg (val ds)).length<=ds.length:=zg (jy h)
theorem wao {m n:Nat} (h:(dg m).length < (dg n).length):m < n:=by
 rcases Nat.lt_or_ge m n with h1 | h1
 · exact h1
 · have:=yu h1; omega
theorem wa1 (m n:Nat):(dg (m+n)).length<=max (dg m).length (dg n).length+1:=by
 apply zg;have h1:=wad m;have h2:=wad n;have h3:B32 ^ (dg m).length<=B32 ^ max (dg m).length (dg n).length:=Nat.pow_le_pow_right yj (Nat.le_max_left _ _);have h4:B32 ^ (dg n).length<=B32 ^ max (dg m).length (dg n).length:=Nat.pow_le_pow_right yj (Nat.le_max_right _ _);rw [Nat.pow_succ];have:B32 ^ max (dg m).length (dg n).length * 2<=B32 ^ max (dg m).length (dg n).length * B32:=Nat.mul_le_mul_left _ (by decide);omega
theorem qbp {n:Nat} (h:n ≠ 0):B32 ^ ((dg n).length - 1)<=n:=by
 rcases Nat.lt_or_ge n (B32 ^ ((dg n).length - 1)) with h1 | h1
 · have h2:=zg h1;have h3:dg n ≠ []:=fun e=>h ((uaq n).1 e)
   have h4:0 < (dg n).length:=List.length_pos_iff.2 h3;omega
 · exact h1
theorem kaj {n:Nat} (h:n ≠ 0):0 < (dg n).length:=by
 have h3:dg n ≠ []:=fun e=>h ((uaq n).1 e)
 exact List.length_pos_iff.2 h3
theorem zax {n:Nat} (h:(dg n).length=0):n=0:=(uaq n).1 (List.eq_nil_of_length_eq_zero h)
theorem ya0 {n:Nat} (h0:n ≠ 0) (h:n < B32):dg n=[n]:=by
 rw [waw h0,Nat.mod_eq_of_lt h,Nat.div_eq_of_lt h,jm]
theorem vcy (a b:Nat) (ha:a < B32) (aV:b ≠ 0) (hb:b < B32):dg (a+B32 * b)=[a,b]:=by
 rw [vbh a b ha,ya0 aV hb];have:=Nat.mul_pos yj (Nat.pos_of_ne_zero aV);omega
theorem qa6 {xs ys : List Nat} (k : Nat) (hx : jg xs) (Bc : k < xs.length) (hky : k < ys.length) (hl : xs.length = ys.length)
 (he:xs.drop (k+1)=ys.drop (k+1)) (h:xs[k] < ys[k]):val xs < val ys:=by
 have e1:=vk xs k (by omega);have e2:=vk ys k (by omega);rw [List.drop_eq_getElem_cons Bc,val_cons] at e1;rw [List.drop_eq_getElem_cons hky,val_cons,<- he] at e2;have h1:=jy (hx.take k);rw [List.length_take,Nat.min_eq_left (by omega)] at h1;have h2:B32 ^ k * (xs[k]+1+B32 * val (xs.drop (k+1)))<=B32 ^ k * (ys[k]+B32 * val (xs.drop (k+1))):=Nat.mul_le_mul_left _ (by omega);have h3:B32 ^ k * (xs[k]+1+B32 * val (xs.drop (k+1)))=B32 ^ k * (xs[k]+B32 * val (xs.drop (k+1)))+B32 ^ k:=by
  rw [show xs[k]+1+B32 * val (xs.drop (k+1))=(xs[k]+B32 * val (xs.drop (k+1)))+1 from by omega,Nat.mul_add,Nat.mul_one]
 omega
open Go.RowKit
theorem ja (a:Addr) (n:Nat):(a.add n).block=a.block:=by unfold Addr.add; split <;> rfl
theorem qbf (a:Addr) (i j:Nat):(a.add i).add j=a.add (i+j):=by
 unfold Addr.add
 by_cases hi:i=0 <;> by_cases hj:j=0 <;> simp [hi,hj,Nat.add_assoc]
theorem kw (b o n:Nat):(⟨b,o,none⟩:Addr).add n=⟨b,o+n,none⟩:=by unfold Addr.add; split <;> simp_all
def Ext (w w':World):Prop:=Below w.heap.size w w'
theorem Ext.refl (w:World):Ext w w:=Below.refl _ _
theorem Ext.size {w w':World} (h:Ext w w'):w.heap.size<=w'.heap.size:=Below.size h
theorem Ext.trans {a b c:World} (h:Ext a b) (k:Ext b c):Ext a c:=Below.trans h (Below.mono k h.size)
theorem Ext.below {w w':World} (h:Ext w w'):Below w.heap.size w w':=h
theorem Ext.cell {w w':World} (h:Ext w w') {p:Addr} (hp:p.block < w.heap.size):w'.cell? p=w.cell? p:=Below.cell h hp
theorem Ext.frozen {w w':World} (h:Ext w w') {p:Addr} (hp:p.block < w.heap.size):w'.frozen? p=w.frozen? p:=Below.frozen h hp
theorem Ext.alloc {w w':World} (h:Ext w w') (o:Obj):Ext w (w'.alloc o):=Below.alloc h h.size o
theorem Ext.setCell {w w':World} (h:Ext w w') {p:Addr} (hp:w.heap.size<=p.block) (u:Value):Ext w (w'.setCell p u):=Below.setCell h hp u
theorem Ext.drew {w w':World} (h:Ext w w'):Ext w w'.drew:=Below.drew h
theorem Ext.drewN {w w':World} (h:Ext w w') (n:Nat):Ext w (w'.drewN n):=by
 have h':=h.below;exact ⟨h'.os,h'.tape,h'.output,h'.size,h'.block⟩
theorem Ext.cells {W w1:World} (hb:Ext W w1):(∀ b o,b < W.heap.size->w1.cell? ⟨b,o,none⟩=W.cell? ⟨b,o,none⟩)/\(∀ b o,b < W.heap.size->w1.frozen? ⟨b,o,none⟩=W.frozen? ⟨b,o,none⟩):=
 ⟨fun b o h=>hb.cell (p:=⟨b,o,none⟩) h,fun b o h=>hb.frozen (p:=⟨b,o,none⟩) h⟩
def zk (w:World) (A:Option Addr) (ds:List Nat):Prop:=
 jg ds/\(0 < ds.length->∃ ad,A=some ad/\ad.block < w.heap.size/\∀ j (h:j < ds.length),w.cell? (ad.add j)=some (.int .u32 (ds[j]:Nat)))
theorem zk.ext {w w':World} {A:Option Addr} {ds:List Nat} (h:zk w A ds) (k:Ext w w'):zk w' A ds:=
 ⟨h.1,fun hl=>by
   obtain ⟨ad,e,hb,hc⟩:=h.2 hl
   exact ⟨ad,e,Nat.lt_of_lt_of_le hb k.size,fun j hj=>(k.cell (by rw [ja]; exact hb)).trans (hc j hj)⟩⟩
theorem zk.at_ {w:World} {A:Option Addr} {ds:List Nat} (h:zk w A ds) (k:Nat) (hk:k < ds.length) :
 ∃ ad,A=some ad/\ad.block < w.heap.size/\w.cell? (ad.add k)=some (.int .u32 (ds[k]:Nat))/\ds[k] < 4294967296:=by
 obtain ⟨ad,e,hb,hc⟩:=h.2 (by omega);exact ⟨ad,e,hb,hc k hk,h.1.get k hk⟩
theorem zk.get_ {w:World} {A:Option Addr} {ds:List Nat} (h:zk w A ds) (k:Nat) (hk:k < ds.length) :
 ∃ (ad:Addr) (x:Nat),A=some ad/\ad.block < w.heap.size/\w.cell? (ad.add k)=some (.int .u32 (x:Nat))/\x < 4294967296/\Hid (ds[k]?=some x):=by
 obtain ⟨ad,e,hb,hc⟩:=h.2 (by omega);exact ⟨ad,ds[k],e,hb,hc k hk,h.1.get k hk,List.getElem?_eq_getElem hk⟩
theorem zk.nil (w:World) (A:Option Addr):zk w A []:=⟨jg.nil,fun h=>absurd h (by simp)⟩
theorem zk.take {w:World} {A:Option Addr} {ds:List Nat} (h:zk w A ds) (k:Nat):zk w A (ds.take k):=
 ⟨h.1.take k,fun hl=>by
   rw [List.length_take] at hl;obtain ⟨ad,e,hb,hc⟩:=h.2 (by omega);refine ⟨ad,e,hb,fun j hj=>?_⟩;rw [List.length_take] at hj
   rw [hc j (by omega),List.getElem_take]⟩
theorem zk.drop {w:World} {A:Option Addr} {ds:List Nat} (h:zk w A ds) (k cap:Nat) (hk:k<=ds.length) (hc:ds.length<=cap) :
 zk w (if cap=k then A else A.map (·.add k)) (ds.drop k):=
 ⟨h.1.drop k,fun hl=>by
   rw [List.length_drop] at hl;obtain ⟨ad,rfl,hb,aj⟩:=h.2 (by omega);rw [if_neg (by omega)];refine ⟨ad.add k,rfl,by rw [ja]; exact hb,fun j hj=>?_⟩;rw [List.length_drop] at hj
   rw [qbf,aj (k+j) (by omega),List.getElem_drop]⟩
def jd (w:World) (v:Value) (ds:List Nat):Prop:=
 ∃ A c,v=.slice A ds.length c/\ds.length<=c/\c<=9223372036854775807/\zk w A ds
theorem jd.ext {w w':World} {v:Value} {ds:List Nat} (h:jd w v ds) (k:Ext w w'):jd w' v ds:=by
 obtain ⟨A,c,e,h1,h2,h3⟩:=h;exact ⟨A,c,e,h1,h2,h3.ext k⟩
theorem jd.digs {w:World} {v:Value} {ds:List Nat} (h:jd w v ds):jg ds:=by
 obtain ⟨A,c,e,h1,h2,h3⟩:=h;exact h3.1
theorem jd.nil (w:World):jd w (.slice none 0 0) []:=⟨none,0,rfl,by simp,by simp,zk.nil _ _⟩
def yt (ds:List Nat):List Value:=ds.map fun d=>Value.int .u32 (d:Nat)
theorem yaa (ds:List Nat):(yt ds).length=ds.length:=by simp [yt]
theorem zay (ds:List Nat) (i:Nat) (h:i < ds.length):(yt ds)[i]?=some (.int .u32 (ds[i]:Nat)):=by
 simp [yt,List.getElem?_eq_getElem h]
theorem kbm (ds:List Nat):∀ v ∈ yt ds,v.oneCell'=true:=by
 intro v hv;obtain ⟨d,_,rfl⟩:=List.mem_map.1 hv
 rfl
theorem kcg (ds:List Nat) (i d:Nat):(yt ds).toArray.setIfInBounds i (.int .u32 (d:Nat))=(yt (ds.set i d)).toArray:=by
 simp [yt,List.map_set]
def Row (w:World) (g:Nat) (ds:List Nat):Prop:=w.heap[g]?=some (.cells (yt ds).toArray 90 (0,0))
section
variable {w w':World} {g:Nat} {ds:List Nat}
theorem Row.lt (h:Row w g ds):g < w.heap.size:=by
 rcases Nat.lt_or_ge g w.heap.size with af | oN
 · exact af
 · unfold Row at h; rw [Array.getElem?_eq_none oN] at h; cases h
theorem Row.cell (h:Row w g ds) (i:Nat) (hi:i < ds.length):w.cell? ⟨g,i,none⟩=some (.int .u32 (ds[i]:Nat)):=by
 rw [cell_of_row w g i _ _ (0,0) h]; simpa using zay ds i hi
theorem Row.get_ (h:Row w g ds) (k:Nat) (hk:k < ds.length):∃ x:Nat,w.cell? ⟨g,k,none⟩=some (.int .u32 (x:Nat))/\w.frozen? ⟨g,k,none⟩=false/\Hid (ds[k]?=some x):=by
 refine ⟨ds[k],?_,?_,List.getElem?_eq_getElem hk⟩
 · rw [cell_of_row w g k _ _ (0,0) h]; simpa using zay ds k hk
 · unfold Row at h;simp [World.frozen?,h]
theorem Row.frozen (h:Row w g ds) (i:Nat):w.frozen? ⟨g,i,none⟩=false:=by
 unfold Row at h;simp [World.frozen?,h]
theorem Row.new (w:World) (ds:List Nat):Row (w.alloc (.cells (yt ds).toArray 90)) w.heap.size ds:=heap_alloc_new w _
theorem Row.set_ (h:Row w g ds) (i d:Nat):Row (w.setCell ⟨g,i,none⟩ (.int .u32 (d:Nat))) g (ds.set i d):=by
 unfold Row at h ⊢;rw [<- kcg];simp [World.setCell,Array.getElem?_modify,h]
theorem Row.drewN (h:Row w g ds) (n:Nat):Row (w.drewN n) g ds:=h
theorem Row.alloc (h:Row w g ds) (o:Obj):Row (w.alloc o) g ds:=(Below.heap_alloc w o g h.lt).trans h
theorem Row.far (h:Row w g ds) {p:Addr} (hp:g ≠ p.block) (u:Value):Row (w.setCell p u) g ds:=(Below.heap_setCell w p u g hp).trans h
theorem Row.below {B:Nat} (h:Row w g ds) (hb:Below B w w') (hg:g < B):Row w' g ds:=(hb.block g hg).trans h
theorem Row.ext (h:Row w g ds) (hb:Ext w w'):Row w' g ds:=Row.below h hb h.lt
theorem Row.digAt (h:Row w g ds) (hd:jg ds):zk w (some ⟨g,0,none⟩) ds:=
 ⟨hd,fun _=>⟨_,rfl,h.lt,fun j hj=>by rw [kw,Nat.zero_add]; exact h.cell j hj⟩⟩
theorem Row.natVn (h:Row w g ds) (hd:jg ds) (n c:Nat) (hn:ds.length=n) (hc:n<=c) (lw:c<=9223372036854775807):jd w (.slice (some ⟨g,0,none⟩) n c) ds:=by
 subst hn; exact ⟨_,c,rfl,hc,lw,h.digAt hd⟩
theorem Row.natV (h:Row w g ds) (hd:jg ds) (c:Nat) (hc:ds.length<=c) (lw:c<=9223372036854775807):jd w (.slice (some ⟨g,0,none⟩) ds.length c) ds:=
 ⟨_,c,rfl,hc,lw,h.digAt hd⟩
end
theorem kcm:(Tryz.prog.info? 90).map (fun i=>(i.zero,i.size,i.bytes))=some (some (.int .u32 0),1,4):=by kernel_rfl
theorem ga9:(Tryz.prog.info? 90).map (·.size)=some 1:=by kernel_rfl
theorem xaa (n:Int) (h0:0<=n) (h1:n<=35184372088832) (w:World) :
 (Instr.makeSlice 31 (.int .i64 n) (.int .i64 n)).run Tryz.prog w =
   .ok (.slice (some ⟨w.heap.size,0,none⟩) n.toNat n.toNat) (w.alloc (.cells (yt (List.replicate n.toNat 0)).toArray 90)):=by
 obtain ⟨i0,hi,jI,kZ,jT⟩:=info_parts kcm;have key:madeCells (Value.int .u32 0).cells (n.toNat * i0.size)=(yt (List.replicate n.toNat 0)).toArray:=by
  rw [kZ,Nat.mul_one];apply Array.ext';simp only [madeCells,yt,List.map_replicate];rw [Array.toList_map,Array.toList_range];apply List.ext_getElem
  · simp
  · intro k h1 h2;simp [Value.cells,Nat.mod_one]
 rw [run_make w 31 90 i0 (.int .u32 0) Tryz.underlying31 hi jI .i64 .i64 n n h0 (by omega) (by rw [jT]; omega) (by omega),key]
def qi (a b:Int):Int:=if a < b then -1 else if b < a then 1 else 0
theorem wak (a b:Int):-1<=qi a b/\qi a b<=1:=by unfold qi; split <;> (try split) <;> omega
theorem qaf {a b:Int} (h:a < b):qi a b=-1:=if_pos h
theorem wan {a b:Int} (h:b < a):qi a b=1:=by unfold qi; rw [if_neg (by omega),if_pos h]
theorem uz {a b:Int} (h:a=b):qi a b=0:=by unfold qi; rw [if_neg (by omega),if_neg (by omega)]
def Only (g:Nat) (w w':World):Prop:=w.grownBy w' (some g)
theorem Only.g {g:Nat} {w w':World} (h:Only g w w'):w.grownBy w' (some g):=h
theorem Only.refl (g:Nat) (w:World):Only g w w:=World.grownBy.refl w _
theorem Only.size {g:Nat} {w w':World} (h:Only g w w'):w.heap.size<=w'.heap.size:=World.grownBy.size h
theorem Only.setCell {g:Nat} {w w':World} (h:Only g w w') (k:Nat) (u:Value):Only g w (w'.setCell ⟨g,k,none⟩ u):=by
 have h':=h.g;exact ⟨h'.os,h'.tape,h'.output,by simpa [World.setCell] using h'.size,fun i hi ak=>(Below.heap_setCell w' ⟨g,k,none⟩ u i (fun e=>ak (by rw [e]))).trans (h'.block i hi ak)⟩
theorem Only.drewN {g:Nat} {w w':World} (h:Only g w w') (n:Nat):Only g w (w'.drewN n):=by
 have h':=h.g;exact ⟨h'.os,h'.tape,h'.output,h'.size,h'.block⟩
theorem Only.trans {g:Nat} {a b c:World} (h:Only g a b) (k:Only g b c):Only g a c:=
 ⟨(World.grownBy.os k).trans (World.grownBy.os h),(World.grownBy.tape k).trans (World.grownBy.tape h),(World.grownBy.output k).trans (World.grownBy.output h),Nat.le_trans h.size k.size,
   fun i hi ak=>(World.grownBy.block k i (Nat.lt_of_lt_of_le hi h.size) ak).trans (World.grownBy.block h i hi ak)⟩
theorem Only.of_ext {g:Nat} {w w':World} (h:Ext w w'):Only g w w':=by
 have h':=h.below;exact ⟨h'.os,h'.tape,h'.output,h'.size,fun i hi _=>h'.block i hi⟩
theorem Only.ext {g:Nat} {w0 w w':World} (hx:Ext w0 w) (h:Only g w w') (hg:w0.heap.size<=g):Ext w0 w':=by
 have h':=hx.below
 exact ⟨(World.grownBy.os h).trans h'.os,(World.grownBy.tape h).trans h'.tape,(World.grownBy.output h).trans h'.output,Nat.le_trans h'.size h.size,
  fun i hi=>(World.grownBy.block h i (Nat.lt_of_lt_of_le hi h'.size) (fun e=>by injection e with e; omega)).trans (h'.block i hi)⟩
theorem Only.block {g:Nat} {w w':World} (h:Only g w w') {i:Nat} (hi:i < w.heap.size) (ak:i ≠ g):w'.heap[i]?=w.heap[i]?:=World.grownBy.block h i hi (fun e=>ak (by injection e))
theorem Only.cell {g:Nat} {w w':World} (h:Only g w w') {p:Addr} (hp:p.block < w.heap.size) (ak:p.block ≠ g):w'.cell? p=w.cell? p:=World.cell?_of_block (h.block hp ak)
theorem zk.only {g:Nat} {w w':World} {A:Option Addr} {ds:List Nat} (h:zk w A ds) (k:Only g w w') (ak:∀ ad,A=some ad->ad.block ≠ g):zk w' A ds:=
 ⟨h.1,fun hl=>by
   obtain ⟨ad,e,hb,hc⟩:=h.2 hl
   exact ⟨ad,e,Nat.lt_of_lt_of_le hb k.size,fun j hj=>(k.cell (by rw [ja]; exact hb) (by rw [ja]; exact ak ad e)).trans (hc j hj)⟩⟩
theorem Row.only {g g':Nat} {w w':World} {ds:List Nat} (h:Row w g ds) (k:Only g' w w') (ak:g ≠ g'):Row w' g ds:=(k.block h.lt ak).trans h
def waa (B:Nat) (v:Value):Prop:=∀ ad n c,v=.slice (some ad) n c->B<=ad.block
theorem waa.mk (B:Nat) (ad:Addr) (n c:Nat) (h:B<=ad.block):waa B (.slice (some ad) n c):=by
 intro ad' n' c' e;injection e with e1
 injection e1 with e2
 rw [<- e2]; exact h
theorem waa.nil (B n c:Nat):waa B (.slice none n c):=by
 intro ad' n' c' e;injection e with e1
 cases e1
theorem waa.mono {B B':Nat} {v:Value} (h:waa B v) (hB:B'<=B):waa B' v:=fun ad n c e=>Nat.le_trans hB (h ad n c e)
def qap (n:Nat) (w:World) (e:Ending) (w':World):Prop:=∃ v,e=.returned v/\jd w' v (dg n)/\Ext w w'
end Go.Proofs.YtklnlgnnlmdibaaGreat

set_option maxRecDepth 100000
set_option maxHeartbeats 8000000
namespace Go.Proofs.YtklnlgnnlmdibaaGreat
open Go.RowKit
theorem yan {k:IntKind} {a b:Int} (h:a=b):Ending.returned (.int k a)=.returned (.int k b):=by rw [h]
theorem xcj {k l:IntKind} {a b c d:Int} (h:a=b) (h':c=d):Ending.returned (.tuple #[.int k a,.int l c])=.returned (.tuple #[.int k b,.int l d]):=by rw [h,h']
theorem wcq (m:Nat) (h:m < 4294967296):m / 2147483648=(m.testBit 31).toNat:=by
 rw [Nat.testBit_eq_decide_div_mod_eq];have:m / 2 ^ 31 < 2:=by omega
 by_cases h1:m / 2 ^ 31 % 2=1
 · simp only [h1,decide_true,Bool.toNat_true]; omega
 · simp only [h1,decide_false,Bool.toNat_false]; omega
theorem vbm (m:Nat) (h:m < 4294967296):m.testBit 31=decide (2147483648<=m):=by
 rw [Nat.testBit_eq_decide_div_mod_eq]
 by_cases h1:2147483648<=m
 · simp only [h1,decide_true,decide_eq_true_eq]; omega
 · simp only [h1,decide_false,decide_eq_false_iff_not]; omega
def bor (x y c:Int):Int:=if x < y+c then 1 else 0
theorem kax (x y c:Int):0<=bor x y c/\bor x y c<=1:=by unfold bor; split <;> omega
theorem jch (x y c:Int) (x0:0<=x) (x1:x < 4294967296) (y0:0<=y) (y1:y < 4294967296) (c0:0<=c) (c1:c<=1) :
 bits .or .u32 (bits .and .u32 (bits .xor .u32 IntKind.u32.max x) y) (bits .and .u32 (bits .xor .u32 IntKind.u32.max (bits .xor .u32 x y)) ((x - y - c) % 4294967296)) / 2147483648=bor x y c:=by
 obtain ⟨a,rfl⟩:=Int.eq_ofNat_of_zero_le x0;obtain ⟨b,rfl⟩:=Int.eq_ofNat_of_zero_le y0;obtain ⟨k,rfl⟩:=Int.eq_ofNat_of_zero_le c0;obtain ⟨d,hd⟩:=Int.eq_ofNat_of_zero_le (show 0<=((a:Int) - b - k) % 4294967296 by omega);have eG:d < 4294967296:=by omega
 have ha:a < 4294967296:=by omega
 have hb:b < 4294967296:=by omega
 have hm:IntKind.u32.max=((4294967295:Nat):Int):=by decide
 have lx:∀ p q:Nat,p < 4294967296->q < 4294967296->p ^^^ q < 4294967296:=fun p q hp hq=>Nat.xor_lt_two_pow (n:=32) hp hq
 have la:∀ p q:Nat,q < 4294967296->p &&& q < 4294967296:=fun p q hq=>Nat.and_lt_two_pow (n:=32) _ hq
 have lo:∀ p q:Nat,p < 4294967296->q < 4294967296->p ||| q < 4294967296:=fun p q hp hq=>Nat.or_lt_two_pow (n:=32) hp hq
 rw [hd,hm,u32_xor_nat _ _ (by omega) ha,u32_and_nat _ _ (lx _ _ (by omega) ha) hb,u32_xor_nat _ _ ha hb,u32_xor_nat _ _ (by omega) (lx _ _ ha hb),
  u32_and_nat _ _ (lx _ _ (by omega) (lx _ _ ha hb)) eG,u32_or_nat _ _ (la _ _ hb) (la _ _ eG)]
 have hl:=lo _ _ (la (4294967295 ^^^ a) b hb) (la (4294967295 ^^^ (a ^^^ b)) d eG);have ht:=wcq _ hl;rw [Nat.testBit_or,Nat.testBit_and,Nat.testBit_and,Nat.testBit_xor,Nat.testBit_xor,Nat.testBit_xor,vbm a ha,vbm b hb,vbm d eG] at ht;have OW:(4294967295:Nat).testBit 31=true:=by decide
 rw [OW] at ht;have e:∀ n:Nat,((n:Int) / 2147483648)=((n / 2147483648:Nat):Int):=fun n=>by omega
 rw [e,ht];unfold bor
 by_cases p:2147483648<=a <;> by_cases q:2147483648<=b <;> by_cases r:2147483648<=d <;> by_cases s:(a:Int) < b+k <;> simp [p,q,r,s] <;> omega
theorem add32 (x y c:Int) (w:World) (x0:0<=x) (x1:x < 4294967296) (y0:0<=y) (y1:y < 4294967296) (c0:0<=c) (c1:c<=1) :
 Calls Tryz.prog 142 #[.int .u32 x,.int .u32 y,.int .u32 c] w fun e w' =>
  e=.returned (.tuple #[.int .u32 ((x+y+c) % 4294967296),.int .u32 ((x+y+c) / 4294967296)])/\w=w':=by
 go_enter Tryz.func142,Tryz.ntmps142
 go_wp2
 go_ret2
 exact ⟨rfl,rfl⟩
theorem kb4 (x y:Int) (w:World) (x0:0<=x) (x1:x < 4294967296) (y0:0<=y) (y1:y < 4294967296) :
 Calls Tryz.prog 168 #[.int .u32 x,.int .u32 y] w fun e w' =>
  e=.returned (.tuple #[.int .u32 (x * y / 4294967296),.int .u32 (x * y % 4294967296)])/\w=w':=by
 have h0:0<=x * y:=Int.mul_nonneg x0 y0;have h1:x * y<=4294967295 * 4294967295:=Int.mul_le_mul (by omega) (by omega) y0 (by omega);go_enter Tryz.func168,Tryz.ntmps168
 go_wp2
 go_ret2
 exact ⟨rfl,rfl⟩
theorem ub1 (x y c:Int) (w:World) (x0:0<=x) (x1:x < 4294967296) (y0:0<=y) (y1:y < 4294967296) (c0:0<=c) (c1:c<=1) :
 Calls Tryz.prog 144 #[.int .u32 x,.int .u32 y,.int .u32 c] w fun e w' =>
  e=.returned (.tuple #[.int .u32 ((x - y - c) % 4294967296),.int .u32 (bor x y c)])/\w=w':=by
 have hs:¬ IntKind.u32.signed=true:=by decide
 go_enter Tryz.func144,Tryz.ntmps144
 go_wp2
 go_ret2
 rw [jch x y c x0 x1 y0 y1 c0 c1];exact ⟨xcj (by omega) rfl,rfl⟩
theorem ycq (h l d:Int) (w:World) (h0:0<=h) (h1:h < d) (l0:0<=l) (l1:l < 4294967296) (d1:d < 4294967296) :
 Calls Tryz.prog 169 #[.int .u32 h,.int .u32 l,.int .u32 d] w fun e w' =>
  e=.returned (.tuple #[.int .u32 ((h * 4294967296+l) / d),.int .u32 ((h * 4294967296+l) % d)])/\∃ n,w'=w.drewN n:=by
 have hd:(d == 0)=false:=by simp; omega
 have LJ:(d != 0)=true:=by simp; omega
 have hdh:decide (d<=h)=false:=by simp; omega
 have hor:bits .or .u64 (h * 4294967296) l=h * 4294967296+l:=by
  obtain ⟨a,rfl⟩:=Int.eq_ofNat_of_zero_le h0;obtain ⟨b,rfl⟩:=Int.eq_ofNat_of_zero_le l0;have:=u64_or_nat (a * 4294967296) b (by omega) (by omega);rw [nat_join 32 (a * 4294967296) b (by omega) (by omega)] at this;simpa using this
 have kC:0<=(h * 4294967296+l) / d:=Int.ediv_nonneg (by omega) (by omega);have Fh:(h * 4294967296+l) / d < 4294967296:=Int.ediv_lt_of_lt_mul (by omega) (by omega);have hr0:0<=(h * 4294967296+l) % d:=Int.emod_nonneg _ (by omega);have lT:(h * 4294967296+l) % d < d:=Int.emod_lt_of_pos _ (by omega);go_enter Tryz.func169,Tryz.ntmps169
 go_wp2
 go_quiet (fail)
 go_wp2
 go_ret2
 exact ⟨rfl,_,rfl⟩
end Go.Proofs.YtklnlgnnlmdibaaGreat
