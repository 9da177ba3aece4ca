/- Plain arithmetic of digit lists in base 2^32, least significant first. No program in sight. -/
import Derived.Test.YtcepajijiabkmaaGreatRows
import Derived.WalkSpells
import Derived.WalkLawsBesides
import Derived.Lib.Hide
import Derived.BigQuiet
import Derived.Deep.RegionHeld3
import Derived.Deep.DrawnRows
import Derived.Laws.CopyOwn
import Derived.Deep.DeepCutAuto
import Derived.Deep.CutBlock
set_option linter.unusedSimpArgs false
set_option linter.unusedVariables false

namespace Go.Proofs.YtcepajijiabkmaaGreat
theorem n_m {α:Sort _} (x:α):∃ y,x=y:=⟨x,rfl⟩
def B32:Nat:=4294967296
theorem ug:B32=4294967296:=rfl
theorem ui:0 < B32:=by decide
theorem kbk:1 < B32:=by decide
def val : List Nat -> Nat
 | []=>0
 | d :: r=>d+B32 * val r
@[simp] theorem val_nil:val []=0:=rfl
@[simp] theorem val_cons (d:Nat) (r:List Nat):val (d :: r)=d+B32 * val r:=rfl
def vg (ds:List Nat):Prop:=∀ d ∈ ds,d < B32
theorem vg.nil:vg []:=fun _ h=>by cases h
theorem vg.cons {d:Nat} {r:List Nat} (hd:d < B32) (h:vg r):vg (d :: r):=fun x hx=>by
 rcases List.mem_cons.1 hx with rfl | hx
 · exact hd
 · exact h x hx
theorem vg.head {d:Nat} {r:List Nat} (h:vg (d :: r)):d < B32:=h d (List.mem_cons_self)
theorem vg.tail {d:Nat} {r:List Nat} (h:vg (d :: r)):vg r:=fun x hx=>h x (List.mem_cons_of_mem _ hx)
theorem vg.take {ds:List Nat} (h:vg ds) (k:Nat):vg (ds.take k):=fun x hx=>h x (List.mem_of_mem_take hx)
theorem vg.drop {ds:List Nat} (h:vg ds) (k:Nat):vg (ds.drop k):=fun x hx=>h x (List.mem_of_mem_drop hx)
theorem vg.append {xs ys:List Nat} (h:vg xs) (k:vg ys):vg (xs ++ ys):=fun x hx=>by
 rcases List.mem_append.1 hx with hx | hx
 · exact h x hx
 · exact k x hx
theorem vg.get {ds:List Nat} (h:vg ds) (j:Nat) (hj:j < ds.length):ds[j] < 4294967296:=h _ (List.getElem_mem hj)
theorem vg.replicate (n:Nat):vg (List.replicate n 0):=fun x hx=>by
 rw [(List.mem_replicate.1 hx).2]; decide
theorem vg.set {ds:List Nat} (h:vg ds) (k d:Nat) (hd:d < B32):vg (ds.set k d):=fun x hx=>by
 rcases List.mem_or_eq_of_mem_set hx with hx | rfl
 · exact h x hx
 · exact hd
theorem val_append (xs ys:List Nat):val (xs ++ ys)=val xs+B32 ^ xs.length * val ys:=by
 induction xs with
 | nil=>simp
 | cons d r ih=>simp only [List.cons_append,val_cons,ih,List.length_cons,Nat.pow_succ]; rw [Nat.mul_add,Nat.add_assoc]; congr 2; rw [<- Nat.mul_assoc,Nat.mul_comm B32]
theorem zk (ds:List Nat) (k:Nat) (hk:k<=ds.length):val ds=val (ds.take k)+B32 ^ k * val (ds.drop k):=by
 have h:=val_append (ds.take k) (ds.drop k);rw [List.take_append_drop] at h;rw [h,List.length_take,Nat.min_eq_left hk]
theorem gad (ds:List Nat) (d:Nat):val (ds ++ [d])=val ds+B32 ^ ds.length * d:=by
 rw [val_append]; simp
theorem kab (n:Nat):val (List.replicate n 0)=0:=by
 induction n with
 | zero=>rfl
 | succ n ih=>rw [List.replicate_succ,val_cons,ih]; rfl
theorem zy {ds:List Nat} (h:vg ds):val ds < B32 ^ ds.length:=by
 induction ds with
 | nil=>simp
 | cons d r ih =>
   have h1:=ih h.tail;have h2:=h.head;have h3:B32 * (val r+1)<=B32 * B32 ^ r.length:=Nat.mul_le_mul_left _ h1;rw [val_cons,List.length_cons,Nat.pow_succ,Nat.mul_comm _ B32];rw [Nat.mul_add] at h3;omega
def dg (n:Nat):List Nat:=if _h:n=0 then [] else (n % B32) :: dg (n / B32)
termination_by n
decreasing_by exact Nat.div_lt_self (by omega) kbk
theorem xn:dg 0=[]:=by rw [dg]; simp
theorem kay {n:Nat} (h:n ≠ 0):dg n=(n % B32) :: dg (n / B32):=by rw [dg]; simp [h]
theorem qg (n:Nat):val (dg n)=n:=by
 induction n using Nat.strongRecOn with
 | _ n ih =>
   by_cases h:n=0
   · subst h; rw [xn]; rfl
   · rw [kay h,val_cons,ih _ (Nat.div_lt_self (by omega) kbk)];exact Nat.mod_add_div n B32
theorem zal (n:Nat):vg (dg n):=by
 induction n using Nat.strongRecOn with
 | _ n ih =>
   by_cases h:n=0
   · subst h; rw [xn]; exact vg.nil
   · rw [kay h]; exact vg.cons (Nat.mod_lt _ ui) (ih _ (Nat.div_lt_self (by omega) kbk))
theorem xbk (d r:Nat) (hd:d < B32) (hr:d+B32 * r ≠ 0):dg (d+B32 * r)=d :: dg r:=by
 rw [kay hr,Nat.add_mul_mod_self_left,Nat.mod_eq_of_lt hd,Nat.add_mul_div_left _ _ ui,Nat.div_eq_of_lt hd,Nat.zero_add]
def gab (ds : List Nat) : Nat -> Nat
 | 0=>0
 | n+1=>if ds.getD n 0=0 then gab ds n else n+1
theorem zan (ds:List Nat) (n:Nat):gab ds n<=n:=by
 induction n with
 | zero=>simp [gab]
 | succ n ih=>unfold gab; split <;> omega
theorem wcf (d:Nat) (r:List Nat) (n:Nat):gab (d :: r) (n+1)=if gab r n=0 then (if d=0 then 0 else 1) else gab r n+1:=by
 induction n with
 | zero=>simp [gab]
 | succ n ih =>
   rw [gab];simp only [List.getD_cons_succ]
   by_cases h:r.getD n 0=0
   · rw [if_pos h,ih]; simp only [gab,h,if_true]
   · rw [if_neg h]; simp only [gab,h,if_false]; simp
theorem uar (n:Nat):dg n=[] ↔ n=0:=by
 by_cases h:n=0
 · subst h; simp [xn]
 · rw [kay h]; simp [h]
theorem qbh {ds:List Nat} (h:vg ds):dg (val ds)=ds.take (gab ds ds.length):=by
 induction ds with
 | nil=>simp [xn,gab]
 | cons d r ih =>
   have h1:=ih h.tail;rw [List.length_cons,wcf]
   by_cases hr:gab r r.length=0
   · rw [hr,List.take_zero,uar] at h1;rw [if_pos hr,val_cons,h1]
     by_cases hd:d=0
     · subst hd; simp [xn]
     · rw [if_neg hd,Nat.mul_zero,Nat.add_zero];have:=xbk d 0 h.head (by omega);rw [Nat.mul_zero,Nat.add_zero,xn] at this;rw [this]; simp
   · rw [if_neg hr,List.take_succ_cons,<- h1,val_cons,xbk d _ h.head];intro h0;have h2:val r=0:=by
      rcases Nat.eq_zero_or_pos (val r) with h3 | h3
      · exact h3
      · have:=Nat.mul_pos ui h3; omega
     rw [h2,xn] at h1;have h4:(r.take (gab r r.length)).length=0:=by rw [<- h1]; rfl
     rw [List.length_take] at h4;have:=zan r r.length;omega
theorem gaf {ds:List Nat} (h:vg ds):(dg (val ds)).length=gab ds ds.length:=by
 rw [qbh h,List.length_take];have:=zan ds ds.length;omega
theorem ve {n k:Nat} (h:n < B32 ^ k):(dg n).length<=k:=by
 induction k generalizing n with
 | zero => rw [Nat.pow_zero] at h; have : n = 0 := by omega
           subst this; rw [xn]; simp
 | succ k ih =>
   by_cases h0:n=0
   · subst h0; rw [xn]; simp
   · rw [kay h0,List.length_cons];have:n / B32 < B32 ^ k:=by
      rw [Nat.pow_succ] at h;exact Nat.div_lt_of_lt_mul (by rw [Nat.mul_comm]; exact h)
     have:=ih this;omega
theorem qad (n:Nat):n < B32 ^ (dg n).length:=by
 have:=zy (zal n)
 rwa [qg] at this
theorem ku {m n:Nat} (h:m<=n):(dg m).length<=(dg n).length:=
 ve (Nat.lt_of_le_of_lt h (qad n))
theorem uh {ds:List Nat} (h:vg ds):(dg (val ds)).length<=ds.length:=ve (zy h)
theorem jap {m n:Nat} (h:(dg m).length < (dg n).length):m < n:=by
 rcases Nat.lt_or_ge m n with h1 | h1
 · exact h1
 · have:=ku h1; omega
theorem ua3 (m n:Nat):(dg (m+n)).length<=max (dg m).length (dg n).length+1:=by
 apply ve;have h1:=qad m;have h2:=qad n;have h3:B32 ^ (dg m).length<=B32 ^ max (dg m).length (dg n).length:=Nat.pow_le_pow_right ui (Nat.le_max_left _ _);have h4:B32 ^ (dg n).length<=B32 ^ max (dg m).length (dg n).length:=Nat.pow_le_pow_right ui (Nat.le_max_right _ _);rw [Nat.pow_succ];have:B32 ^ max (dg m).length (dg n).length * 2<=B32 ^ max (dg m).length (dg n).length * B32:=Nat.mul_le_mul_left _ (by decide);omega
theorem jbt {n:Nat} (h:n ≠ 0):B32 ^ ((dg n).length - 1)<=n:=by
 rcases Nat.lt_or_ge n (B32 ^ ((dg n).length - 1)) with h1 | h1
 · have h2:=ve h1;have h3:dg n ≠ []:=fun e=>h ((uar n).1 e)
   have h4:0 < (dg n).length:=List.length_pos_iff.2 h3;omega
 · exact h1
theorem waj {n:Nat} (h:n ≠ 0):0 < (dg n).length:=by
 have h3:dg n ≠ []:=fun e=>h ((uar n).1 e)
 exact List.length_pos_iff.2 h3
theorem vay {n:Nat} (h:(dg n).length=0):n=0:=(uar n).1 (List.eq_nil_of_length_eq_zero h)
theorem ya2 {n:Nat} (h0:n ≠ 0) (h:n < B32):dg n=[n]:=by
 rw [kay h0,Nat.mod_eq_of_lt h,Nat.div_eq_of_lt h,xn]
theorem xc6 (a b:Nat) (ha:a < B32) (bU:b ≠ 0) (hb:b < B32):dg (a+B32 * b)=[a,b]:=by
 rw [xbk a b ha,ya2 bU hb];have:=Nat.mul_pos ui (Nat.pos_of_ne_zero bU);omega
theorem wa7 {xs ys : List Nat} (k : Nat) (hx : vg xs) (Dy : k < xs.length) (hky : k < ys.length) (hl : xs.length = ys.length)
 (he:xs.drop (k+1)=ys.drop (k+1)) (h:xs[k] < ys[k]):val xs < val ys:=by
 have e1:=zk xs k (by omega);have e2:=zk ys k (by omega);rw [List.drop_eq_getElem_cons Dy,val_cons] at e1;rw [List.drop_eq_getElem_cons hky,val_cons,<- he] at e2;have h1:=zy (hx.take k);rw [List.length_take,Nat.min_eq_left (by omega)] at h1;have h2:B32 ^ k * (xs[k]+1+B32 * val (xs.drop (k+1)))<=B32 ^ k * (ys[k]+B32 * val (xs.drop (k+1))):=Nat.mul_le_mul_left _ (by omega);have h3:B32 ^ k * (xs[k]+1+B32 * val (xs.drop (k+1)))=B32 ^ k * (xs[k]+B32 * val (xs.drop (k+1)))+B32 ^ k:=by
  rw [show xs[k]+1+B32 * val (xs.drop (k+1))=(xs[k]+B32 * val (xs.drop (k+1)))+1 from by omega,Nat.mul_add,Nat.mul_one]
 omega
open Go.RowKit
theorem ja (a:Addr) (n:Nat):(a.add n).block=a.block:=by unfold Addr.add; split <;> rfl
theorem wbh (a:Addr) (i j:Nat):(a.add i).add j=a.add (i+j):=by
 unfold Addr.add
 by_cases hi:i=0 <;> by_cases hj:j=0 <;> simp [hi,hj,Nat.add_assoc]
theorem uq (b o n:Nat):(⟨b,o,none⟩:Addr).add n=⟨b,o+n,none⟩:=by unfold Addr.add; split <;> simp_all
def Ext (w w':World):Prop:=Below w.heap.size w w'
theorem Ext.refl (w:World):Ext w w:=Below.refl _ _
theorem Ext.size {w w':World} (h:Ext w w'):w.heap.size<=w'.heap.size:=Below.size h
theorem Ext.trans {a b c:World} (h:Ext a b) (k:Ext b c):Ext a c:=Below.trans h (Below.mono k h.size)
theorem Ext.below {w w':World} (h:Ext w w'):Below w.heap.size w w':=h
theorem Ext.cell {w w':World} (h:Ext w w') {p:Addr} (hp:p.block < w.heap.size):w'.cell? p=w.cell? p:=Below.cell h hp
theorem Ext.frozen {w w':World} (h:Ext w w') {p:Addr} (hp:p.block < w.heap.size):w'.frozen? p=w.frozen? p:=Below.frozen h hp
theorem Ext.alloc {w w':World} (h:Ext w w') (o:Obj):Ext w (w'.alloc o):=Below.alloc h h.size o
theorem Ext.setCell {w w':World} (h:Ext w w') {p:Addr} (hp:w.heap.size<=p.block) (u:Value):Ext w (w'.setCell p u):=Below.setCell h hp u
theorem Ext.drew {w w':World} (h:Ext w w'):Ext w w'.drew:=Below.drew h
theorem Ext.drewN {w w':World} (h:Ext w w') (n:Nat):Ext w (w'.drewN n):=by
 have h':=h.below;exact ⟨h'.os,h'.tape,h'.output,h'.size,h'.block⟩
theorem Ext.cells {W w1:World} (hb:Ext W w1):(∀ b o,b < W.heap.size->w1.cell? ⟨b,o,none⟩=W.cell? ⟨b,o,none⟩)/\(∀ b o,b < W.heap.size->w1.frozen? ⟨b,o,none⟩=W.frozen? ⟨b,o,none⟩):=
 ⟨fun b o h=>hb.cell (p:=⟨b,o,none⟩) h,fun b o h=>hb.frozen (p:=⟨b,o,none⟩) h⟩
def yj (w:World) (A:Option Addr) (ds:List Nat):Prop:=
 vg ds/\(0 < ds.length->∃ ad,A=some ad/\ad.block < w.heap.size/\∀ j (h:j < ds.length),w.cell? (ad.add j)=some (.int .u32 (ds[j]:Nat)))
theorem yj.ext {w w':World} {A:Option Addr} {ds:List Nat} (h:yj w A ds) (k:Ext w w'):yj w' A ds:=
 ⟨h.1,fun hl=>by
   obtain ⟨ad,e,hb,hc⟩:=h.2 hl
   exact ⟨ad,e,Nat.lt_of_lt_of_le hb k.size,fun j hj=>(k.cell (by rw [ja]; exact hb)).trans (hc j hj)⟩⟩
theorem yj.at_ {w:World} {A:Option Addr} {ds:List Nat} (h:yj w A ds) (k:Nat) (hk:k < ds.length) :
 ∃ ad,A=some ad/\ad.block < w.heap.size/\w.cell? (ad.add k)=some (.int .u32 (ds[k]:Nat))/\ds[k] < 4294967296:=by
 obtain ⟨ad,e,hb,hc⟩:=h.2 (by omega);exact ⟨ad,e,hb,hc k hk,h.1.get k hk⟩
theorem yj.get_ {w:World} {A:Option Addr} {ds:List Nat} (h:yj w A ds) (k:Nat) (hk:k < ds.length) :
 ∃ (ad:Addr) (x:Nat),A=some ad/\ad.block < w.heap.size/\w.cell? (ad.add k)=some (.int .u32 (x:Nat))/\x < 4294967296/\Hid (ds[k]?=some x):=by
 obtain ⟨ad,e,hb,hc⟩:=h.2 (by omega);exact ⟨ad,ds[k],e,hb,hc k hk,h.1.get k hk,List.getElem?_eq_getElem hk⟩
theorem yj.nil (w:World) (A:Option Addr):yj w A []:=⟨vg.nil,fun h=>absurd h (by simp)⟩
theorem yj.take {w:World} {A:Option Addr} {ds:List Nat} (h:yj w A ds) (k:Nat):yj w A (ds.take k):=
 ⟨h.1.take k,fun hl=>by
   rw [List.length_take] at hl;obtain ⟨ad,e,hb,hc⟩:=h.2 (by omega);refine ⟨ad,e,hb,fun j hj=>?_⟩;rw [List.length_take] at hj
   rw [hc j (by omega),List.getElem_take]⟩
theorem yj.drop {w:World} {A:Option Addr} {ds:List Nat} (h:yj w A ds) (k cap:Nat) (hk:k<=ds.length) (hc:ds.length<=cap) :
 yj w (if cap=k then A else A.map (·.add k)) (ds.drop k):=
 ⟨h.1.drop k,fun hl=>by
   rw [List.length_drop] at hl;obtain ⟨ad,rfl,hb,ai⟩:=h.2 (by omega);rw [if_neg (by omega)];refine ⟨ad.add k,rfl,by rw [ja]; exact hb,fun j hj=>?_⟩;rw [List.length_drop] at hj
   rw [wbh,ai (k+j) (by omega),List.getElem_drop]⟩
def jb (w:World) (v:Value) (ds:List Nat):Prop:=
 ∃ A c,v=.slice A ds.length c/\ds.length<=c/\c<=9223372036854775807/\yj w A ds
theorem jb.ext {w w':World} {v:Value} {ds:List Nat} (h:jb w v ds) (k:Ext w w'):jb w' v ds:=by
 obtain ⟨A,c,e,h1,h2,h3⟩:=h;exact ⟨A,c,e,h1,h2,h3.ext k⟩
theorem jb.digs {w:World} {v:Value} {ds:List Nat} (h:jb w v ds):vg ds:=by
 obtain ⟨A,c,e,h1,h2,h3⟩:=h;exact h3.1
theorem jb.nil (w:World):jb w (.slice none 0 0) []:=⟨none,0,rfl,by simp,by simp,yj.nil _ _⟩
def zt (ds:List Nat):List Value:=ds.map fun d=>Value.int .u32 (d:Nat)
theorem xaa (ds:List Nat):(zt ds).length=ds.length:=by simp [zt]
theorem vaz (ds:List Nat) (i:Nat) (h:i < ds.length):(zt ds)[i]?=some (.int .u32 (ds[i]:Nat)):=by
 simp [zt,List.getElem?_eq_getElem h]
theorem vbp (ds:List Nat):∀ v ∈ zt ds,v.oneCell'=true:=by
 intro v hv;obtain ⟨d,_,rfl⟩:=List.mem_map.1 hv
 rfl
theorem wcn (ds:List Nat) (i d:Nat):(zt ds).toArray.setIfInBounds i (.int .u32 (d:Nat))=(zt (ds.set i d)).toArray:=by
 simp [zt,List.map_set]
def Row (w:World) (g:Nat) (ds:List Nat):Prop:=w.heap[g]?=some (.cells (zt ds).toArray 84 (0,0))
section
variable {w w':World} {g:Nat} {ds:List Nat}
theorem Row.lt (h:Row w g ds):g < w.heap.size:=by
 rcases Nat.lt_or_ge g w.heap.size with af | lS
 · exact af
 · unfold Row at h; rw [Array.getElem?_eq_none lS] at h; cases h
theorem Row.cell (h:Row w g ds) (i:Nat) (hi:i < ds.length):w.cell? ⟨g,i,none⟩=some (.int .u32 (ds[i]:Nat)):=by
 rw [cell_of_row w g i _ _ (0,0) h]; simpa using vaz ds i hi
theorem Row.get_ (h:Row w g ds) (k:Nat) (hk:k < ds.length):∃ x:Nat,w.cell? ⟨g,k,none⟩=some (.int .u32 (x:Nat))/\w.frozen? ⟨g,k,none⟩=false/\Hid (ds[k]?=some x):=by
 refine ⟨ds[k],?_,?_,List.getElem?_eq_getElem hk⟩
 · rw [cell_of_row w g k _ _ (0,0) h]; simpa using vaz ds k hk
 · unfold Row at h;simp [World.frozen?,h]
theorem Row.frozen (h:Row w g ds) (i:Nat):w.frozen? ⟨g,i,none⟩=false:=by
 unfold Row at h;simp [World.frozen?,h]
theorem Row.new (w:World) (ds:List Nat):Row (w.alloc (.cells (zt ds).toArray 84)) w.heap.size ds:=heap_alloc_new w _
theorem Row.set_ (h:Row w g ds) (i d:Nat):Row (w.setCell ⟨g,i,none⟩ (.int .u32 (d:Nat))) g (ds.set i d):=by
 unfold Row at h ⊢;rw [<- wcn];simp [World.setCell,Array.getElem?_modify,h]
theorem Row.drewN (h:Row w g ds) (n:Nat):Row (w.drewN n) g ds:=h
theorem Row.alloc (h:Row w g ds) (o:Obj):Row (w.alloc o) g ds:=(Below.heap_alloc w o g h.lt).trans h
theorem Row.far (h:Row w g ds) {p:Addr} (hp:g ≠ p.block) (u:Value):Row (w.setCell p u) g ds:=(Below.heap_setCell w p u g hp).trans h
theorem Row.below {B:Nat} (h:Row w g ds) (hb:Below B w w') (hg:g < B):Row w' g ds:=(hb.block g hg).trans h
theorem Row.ext (h:Row w g ds) (hb:Ext w w'):Row w' g ds:=Row.below h hb h.lt
theorem Row.digAt (h:Row w g ds) (hd:vg ds):yj w (some ⟨g,0,none⟩) ds:=
 ⟨hd,fun _=>⟨_,rfl,h.lt,fun j hj=>by rw [uq,Nat.zero_add]; exact h.cell j hj⟩⟩
theorem Row.natVn (h:Row w g ds) (hd:vg ds) (n c:Nat) (hn:ds.length=n) (hc:n<=c) (jH:c<=9223372036854775807):jb w (.slice (some ⟨g,0,none⟩) n c) ds:=by
 subst hn; exact ⟨_,c,rfl,hc,jH,h.digAt hd⟩
theorem Row.natV (h:Row w g ds) (hd:vg ds) (c:Nat) (hc:ds.length<=c) (jH:c<=9223372036854775807):jb w (.slice (some ⟨g,0,none⟩) ds.length c) ds:=
 ⟨_,c,rfl,hc,jH,h.digAt hd⟩
end
theorem xcu:(Tryz.prog.info? 84).map (fun i=>(i.zero,i.size,i.bytes))=some (some (.int .u32 0),1,4):=by kernel_rfl
theorem qbb:(Tryz.prog.info? 84).map (·.size)=some 1:=by kernel_rfl
theorem qaa (n:Int) (h0:0<=n) (h1:n<=35184372088832) (w:World) :
 (Instr.makeSlice 28 (.int .i64 n) (.int .i64 n)).run Tryz.prog w =
   .ok (.slice (some ⟨w.heap.size,0,none⟩) n.toNat n.toNat) (w.alloc (.cells (zt (List.replicate n.toNat 0)).toArray 84)):=by
 obtain ⟨i0,hi,lh,gK,iU⟩:=info_parts xcu;have key:madeCells (Value.int .u32 0).cells (n.toNat * i0.size)=(zt (List.replicate n.toNat 0)).toArray:=by
  rw [gK,Nat.mul_one];apply Array.ext';simp only [madeCells,zt,List.map_replicate];rw [Array.toList_map,Array.toList_range];apply List.ext_getElem
  · simp
  · intro k h1 h2;simp [Value.cells,Nat.mod_one]
 rw [run_make w 28 84 i0 (.int .u32 0) Tryz.underlying28 hi lh .i64 .i64 n n h0 (by omega) (by rw [iU]; omega) (by omega),key]
def xh (a b:Int):Int:=if a < b then -1 else if b < a then 1 else 0
theorem yaj (a b:Int):-1<=xh a b/\xh a b<=1:=by unfold xh; split <;> (try split) <;> omega
theorem uae {a b:Int} (h:a < b):xh a b=-1:=if_pos h
theorem qao {a b:Int} (h:b < a):xh a b=1:=by unfold xh; rw [if_neg (by omega),if_pos h]
theorem uz {a b:Int} (h:a=b):xh a b=0:=by unfold xh; rw [if_neg (by omega),if_neg (by omega)]
def Only (g:Nat) (w w':World):Prop:=w.grownBy w' (some g)
theorem Only.g {g:Nat} {w w':World} (h:Only g w w'):w.grownBy w' (some g):=h
theorem Only.refl (g:Nat) (w:World):Only g w w:=World.grownBy.refl w _
theorem Only.size {g:Nat} {w w':World} (h:Only g w w'):w.heap.size<=w'.heap.size:=World.grownBy.size h
theorem Only.setCell {g:Nat} {w w':World} (h:Only g w w') (k:Nat) (u:Value):Only g w (w'.setCell ⟨g,k,none⟩ u):=by
 have h':=h.g;exact ⟨h'.os,h'.tape,h'.output,by simpa [World.setCell] using h'.size,fun i hi au=>(Below.heap_setCell w' ⟨g,k,none⟩ u i (fun e=>au (by rw [e]))).trans (h'.block i hi au)⟩
theorem Only.drewN {g:Nat} {w w':World} (h:Only g w w') (n:Nat):Only g w (w'.drewN n):=by
 have h':=h.g;exact ⟨h'.os,h'.tape,h'.output,h'.size,h'.block⟩
theorem Only.trans {g:Nat} {a b c:World} (h:Only g a b) (k:Only g b c):Only g a c:=
 ⟨(World.grownBy.os k).trans (World.grownBy.os h),(World.grownBy.tape k).trans (World.grownBy.tape h),(World.grownBy.output k).trans (World.grownBy.output h),Nat.le_trans h.size k.size,
   fun i hi au=>(World.grownBy.block k i (Nat.lt_of_lt_of_le hi h.size) au).trans (World.grownBy.block h i hi au)⟩
theorem Only.of_ext {g:Nat} {w w':World} (h:Ext w w'):Only g w w':=by
 have h':=h.below;exact ⟨h'.os,h'.tape,h'.output,h'.size,fun i hi _=>h'.block i hi⟩
theorem Only.ext {g:Nat} {w0 w w':World} (hx:Ext w0 w) (h:Only g w w') (hg:w0.heap.size<=g):Ext w0 w':=by
 have h':=hx.below
 exact ⟨(World.grownBy.os h).trans h'.os,(World.grownBy.tape h).trans h'.tape,(World.grownBy.output h).trans h'.output,Nat.le_trans h'.size h.size,
  fun i hi=>(World.grownBy.block h i (Nat.lt_of_lt_of_le hi h'.size) (fun e=>by injection e with e; omega)).trans (h'.block i hi)⟩
theorem Only.block {g:Nat} {w w':World} (h:Only g w w') {i:Nat} (hi:i < w.heap.size) (au:i ≠ g):w'.heap[i]?=w.heap[i]?:=World.grownBy.block h i hi (fun e=>au (by injection e))
theorem Only.cell {g:Nat} {w w':World} (h:Only g w w') {p:Addr} (hp:p.block < w.heap.size) (au:p.block ≠ g):w'.cell? p=w.cell? p:=World.cell?_of_block (h.block hp au)
theorem yj.only {g:Nat} {w w':World} {A:Option Addr} {ds:List Nat} (h:yj w A ds) (k:Only g w w') (au:∀ ad,A=some ad->ad.block ≠ g):yj w' A ds:=
 ⟨h.1,fun hl=>by
   obtain ⟨ad,e,hb,hc⟩:=h.2 hl
   exact ⟨ad,e,Nat.lt_of_lt_of_le hb k.size,fun j hj=>(k.cell (by rw [ja]; exact hb) (by rw [ja]; exact au ad e)).trans (hc j hj)⟩⟩
theorem Row.only {g g':Nat} {w w':World} {ds:List Nat} (h:Row w g ds) (k:Only g' w w') (au:g ≠ g'):Row w' g ds:=(k.block h.lt au).trans h
def waa (B:Nat) (v:Value):Prop:=∀ ad n c,v=.slice (some ad) n c->B<=ad.block
theorem waa.mk (B:Nat) (ad:Addr) (n c:Nat) (h:B<=ad.block):waa B (.slice (some ad) n c):=by
 intro ad' n' c' e;injection e with e1
 injection e1 with e2
 rw [<- e2]; exact h
theorem waa.nil (B n c:Nat):waa B (.slice none n c):=by
 intro ad' n' c' e;injection e with e1
 cases e1
theorem waa.mono {B B':Nat} {v:Value} (h:waa B v) (hB:B'<=B):waa B' v:=fun ad n c e=>Nat.le_trans hB (h ad n c e)
def vap (n:Nat) (w:World) (e:Ending) (w':World):Prop:=∃ v,e=.returned v/\jb w' v (dg n)/\Ext w w'
end Go.Proofs.YtcepajijiabkmaaGreat

set_option maxRecDepth 100000
set_option maxHeartbeats 8000000
namespace Go.Proofs.YtcepajijiabkmaaGreat
open Go.RowKit
theorem qan {k:IntKind} {a b:Int} (h:a=b):Ending.returned (.int k a)=.returned (.int k b):=by rw [h]
theorem ucq {k l:IntKind} {a b c d:Int} (h:a=b) (h':c=d):Ending.returned (.tuple #[.int k a,.int l c])=.returned (.tuple #[.int k b,.int l d]):=by rw [h,h']
theorem kcy (m:Nat) (h:m < 4294967296):m / 2147483648=(m.testBit 31).toNat:=by
 rw [Nat.testBit_eq_decide_div_mod_eq];have:m / 2 ^ 31 < 2:=by omega
 by_cases h1:m / 2 ^ 31 % 2=1
 · simp only [h1,decide_true,Bool.toNat_true]; omega
 · simp only [h1,decide_false,Bool.toNat_false]; omega
theorem ubp (m:Nat) (h:m < 4294967296):m.testBit 31=decide (2147483648<=m):=by
 rw [Nat.testBit_eq_decide_div_mod_eq]
 by_cases h1:2147483648<=m
 · simp only [h1,decide_true,decide_eq_true_eq]; omega
 · simp only [h1,decide_false,decide_eq_false_iff_not]; omega
def bor (x y c:Int):Int:=if x < y+c then 1 else 0
theorem xaz (x y c:Int):0<=bor x y c/\bor x y c<=1:=by unfold bor; split <;> omega
theorem wco (x y c:Int) (x0:0<=x) (x1:x < 4294967296) (y0:0<=y) (y1:y < 4294967296) (c0:0<=c) (c1:c<=1) :
 bits .or .u32 (bits .and .u32 (bits .xor .u32 IntKind.u32.max x) y) (bits .and .u32 (bits .xor .u32 IntKind.u32.max (bits .xor .u32 x y)) ((x - y - c) % 4294967296)) / 2147483648=bor x y c:=by
 obtain ⟨a,rfl⟩:=Int.eq_ofNat_of_zero_le x0;obtain ⟨b,rfl⟩:=Int.eq_ofNat_of_zero_le y0;obtain ⟨k,rfl⟩:=Int.eq_ofNat_of_zero_le c0;obtain ⟨d,hd⟩:=Int.eq_ofNat_of_zero_le (show 0<=((a:Int) - b - k) % 4294967296 by omega);have dO:d < 4294967296:=by omega
 have ha:a < 4294967296:=by omega
 have hb:b < 4294967296:=by omega
 have hm:IntKind.u32.max=((4294967295:Nat):Int):=by decide
 have lx:∀ p q:Nat,p < 4294967296->q < 4294967296->p ^^^ q < 4294967296:=fun p q hp hq=>Nat.xor_lt_two_pow (n:=32) hp hq
 have la:∀ p q:Nat,q < 4294967296->p &&& q < 4294967296:=fun p q hq=>Nat.and_lt_two_pow (n:=32) _ hq
 have lo:∀ p q:Nat,p < 4294967296->q < 4294967296->p ||| q < 4294967296:=fun p q hp hq=>Nat.or_lt_two_pow (n:=32) hp hq
 rw [hd,hm,u32_xor_nat _ _ (by omega) ha,u32_and_nat _ _ (lx _ _ (by omega) ha) hb,u32_xor_nat _ _ ha hb,u32_xor_nat _ _ (by omega) (lx _ _ ha hb),
  u32_and_nat _ _ (lx _ _ (by omega) (lx _ _ ha hb)) dO,u32_or_nat _ _ (la _ _ hb) (la _ _ dO)]
 have hl:=lo _ _ (la (4294967295 ^^^ a) b hb) (la (4294967295 ^^^ (a ^^^ b)) d dO);have ht:=kcy _ hl;rw [Nat.testBit_or,Nat.testBit_and,Nat.testBit_and,Nat.testBit_xor,Nat.testBit_xor,Nat.testBit_xor,ubp a ha,ubp b hb,ubp d dO] at ht;have hff:(4294967295:Nat).testBit 31=true:=by decide
 rw [hff] at ht;have e:∀ n:Nat,((n:Int) / 2147483648)=((n / 2147483648:Nat):Int):=fun n=>by omega
 rw [e,ht];unfold bor
 by_cases p:2147483648<=a <;> by_cases q:2147483648<=b <;> by_cases r:2147483648<=d <;> by_cases s:(a:Int) < b+k <;> simp [p,q,r,s] <;> omega
theorem add32 (x y c:Int) (w:World) (x0:0<=x) (x1:x < 4294967296) (y0:0<=y) (y1:y < 4294967296) (c0:0<=c) (c1:c<=1) :
 Calls Tryz.prog 125 #[.int .u32 x,.int .u32 y,.int .u32 c] w fun e w' =>
  e=.returned (.tuple #[.int .u32 ((x+y+c) % 4294967296),.int .u32 ((x+y+c) / 4294967296)])/\w=w':=by
 go_enter Tryz.func125,Tryz.ntmps125
 go_wp2
 go_ret2
 exact ⟨rfl,rfl⟩
theorem gcb (x y:Int) (w:World) (x0:0<=x) (x1:x < 4294967296) (y0:0<=y) (y1:y < 4294967296) :
 Calls Tryz.prog 154 #[.int .u32 x,.int .u32 y] w fun e w' =>
  e=.returned (.tuple #[.int .u32 (x * y / 4294967296),.int .u32 (x * y % 4294967296)])/\w=w':=by
 have h0:0<=x * y:=Int.mul_nonneg x0 y0;have h1:x * y<=4294967295 * 4294967295:=Int.mul_le_mul (by omega) (by omega) y0 (by omega);go_enter Tryz.func154,Tryz.ntmps154
 go_wp2
 go_ret2
 exact ⟨rfl,rfl⟩
theorem jb9 (x y c:Int) (w:World) (x0:0<=x) (x1:x < 4294967296) (y0:0<=y) (y1:y < 4294967296) (c0:0<=c) (c1:c<=1) :
 Calls Tryz.prog 127 #[.int .u32 x,.int .u32 y,.int .u32 c] w fun e w' =>
  e=.returned (.tuple #[.int .u32 ((x - y - c) % 4294967296),.int .u32 (bor x y c)])/\w=w':=by
 have hs:¬ IntKind.u32.signed=true:=by decide
 go_enter Tryz.func127,Tryz.ntmps127
 go_wp2
 go_ret2
 rw [wco x y c x0 x1 y0 y1 c0 c1];exact ⟨ucq (by omega) rfl,rfl⟩
theorem wcx (h l d:Int) (w:World) (h0:0<=h) (h1:h < d) (l0:0<=l) (l1:l < 4294967296) (d1:d < 4294967296) :
 Calls Tryz.prog 155 #[.int .u32 h,.int .u32 l,.int .u32 d] w fun e w' =>
  e=.returned (.tuple #[.int .u32 ((h * 4294967296+l) / d),.int .u32 ((h * 4294967296+l) % d)])/\∃ n,w'=w.drewN n:=by
 have hd:(d == 0)=false:=by simp; omega
 have DK:(d != 0)=true:=by simp; omega
 have hdh:decide (d<=h)=false:=by simp; omega
 have WS:bits .or .u64 (h * 4294967296) l=h * 4294967296+l:=by
  obtain ⟨a,rfl⟩:=Int.eq_ofNat_of_zero_le h0;obtain ⟨b,rfl⟩:=Int.eq_ofNat_of_zero_le l0;have:=u64_or_nat (a * 4294967296) b (by omega) (by omega);rw [nat_join 32 (a * 4294967296) b (by omega) (by omega)] at this;simpa using this
 have BX:0<=(h * 4294967296+l) / d:=Int.ediv_nonneg (by omega) (by omega);have BU:(h * 4294967296+l) / d < 4294967296:=Int.ediv_lt_of_lt_mul (by omega) (by omega);have hr0:0<=(h * 4294967296+l) % d:=Int.emod_nonneg _ (by omega);have uF:(h * 4294967296+l) % d < d:=Int.emod_lt_of_pos _ (by omega);go_enter Tryz.func155,Tryz.ntmps155
 go_wp2
 go_quiet (fail)
 go_wp2
 go_ret2
 exact ⟨rfl,_,rfl⟩
end Go.Proofs.YtcepajijiabkmaaGreat
