/- Plain arithmetic of digit lists in base 2^32, least significant first. No program in sight. -/
import Derived.Test.YtklnlgnnlmdibaaGreatRows
import Derived.WalkKit
import Derived.WalkSpells
import Derived.WalkLawsBesides
import Derived.Lib.Hide
import Derived.Deep.QuietTactic
import Derived.BigQuiet
import Derived.Deep.RegionHeld3
import Derived.Deep.DrawnRows
import Derived.Deep.Draws
import Derived.Laws.CopyOwn
import Derived.Deep.DeepCutAuto
import Derived.Deep.CutBlock
import Derived.Maps.Own
set_option linter.unusedSimpArgs false
set_option linter.unusedVariables false

namespace Go.Proofs.YtklnlgnnlmdibaaGreat
def B32:Nat:=4294967296
theorem jg:B32=4294967296:=rfl
theorem zi:0 < B32:=by decide
theorem gba:1 < B32:=by decide
def val : List Nat -> Nat
 | []=>0
 | d :: r=>d+B32 * val r
@[simp] theorem val_nil:val []=0:=rfl
@[simp] theorem val_cons (d:Nat) (r:List Nat):val (d :: r)=d+B32 * val r:=rfl
def qg (ds:List Nat):Prop:=∀ d ∈ ds,d < B32
theorem qg.nil:qg []:=fun _ h=>by cases h
theorem qg.cons {d:Nat} {r:List Nat} (hd:d < B32) (h:qg r):qg (d :: r):=fun x hx=>by
 rcases List.mem_cons.1 hx with rfl | hx
 · exact hd
 · exact h x hx
theorem qg.head {d:Nat} {r:List Nat} (h:qg (d :: r)):d < B32:=h d (List.mem_cons_self)
theorem qg.tail {d:Nat} {r:List Nat} (h:qg (d :: r)):qg r:=fun x hx=>h x (List.mem_cons_of_mem _ hx)
theorem qg.take {ds:List Nat} (h:qg ds) (k:Nat):qg (ds.take k):=fun x hx=>h x (List.mem_of_mem_take hx)
theorem qg.drop {ds:List Nat} (h:qg ds) (k:Nat):qg (ds.drop k):=fun x hx=>h x (List.mem_of_mem_drop hx)
theorem qg.append {xs ys:List Nat} (h:qg xs) (k:qg ys):qg (xs ++ ys):=fun x hx=>by
 rcases List.mem_append.1 hx with hx | hx
 · exact h x hx
 · exact k x hx
theorem qg.get {ds:List Nat} (h:qg ds) (j:Nat) (hj:j < ds.length):ds[j] < 4294967296:=h _ (List.getElem_mem hj)
theorem qg.replicate (n:Nat):qg (List.replicate n 0):=fun x hx=>by
 rw [(List.mem_replicate.1 hx).2]; decide
theorem qg.set {ds:List Nat} (h:qg ds) (k d:Nat) (hd:d < B32):qg (ds.set k d):=fun x hx=>by
 rcases List.mem_or_eq_of_mem_set hx with hx | rfl
 · exact h x hx
 · exact hd
theorem val_append (xs ys:List Nat):val (xs ++ ys)=val xs+B32 ^ xs.length * val ys:=by
 induction xs with
 | nil=>simp
 | cons d r ih=>simp only [List.cons_append,val_cons,ih,List.length_cons,Nat.pow_succ]; rw [Nat.mul_add,Nat.add_assoc]; congr 2; rw [<- Nat.mul_assoc,Nat.mul_comm B32]
theorem ui (ds:List Nat) (k:Nat) (hk:k<=ds.length):val ds=val (ds.take k)+B32 ^ k * val (ds.drop k):=by
 have h:=val_append (ds.take k) (ds.drop k);rw [List.take_append_drop] at h;rw [h,List.length_take,Nat.min_eq_left hk]
theorem xac (ds:List Nat) (d:Nat):val (ds ++ [d])=val ds+B32 ^ ds.length * d:=by
 rw [val_append]; simp
theorem yaa (n:Nat):val (List.replicate n 0)=0:=by
 induction n with
 | zero=>rfl
 | succ n ih=>rw [List.replicate_succ,val_cons,ih]; rfl
theorem wu {ds:List Nat} (h:qg ds):val ds < B32 ^ ds.length:=by
 induction ds with
 | nil=>simp
 | cons d r ih =>
   have h1:=ih h.tail;have h2:=h.head;have h3:B32 * (val r+1)<=B32 * B32 ^ r.length:=Nat.mul_le_mul_left _ h1;rw [val_cons,List.length_cons,Nat.pow_succ,Nat.mul_comm _ B32];rw [Nat.mul_add] at h3;omega
def dg (n:Nat):List Nat:=if _h:n=0 then [] else (n % B32) :: dg (n / B32)
termination_by n
decreasing_by exact Nat.div_lt_self (by omega) gba
theorem uk:dg 0=[]:=by rw [dg]; simp
theorem war {n:Nat} (h:n ≠ 0):dg n=(n % B32) :: dg (n / B32):=by rw [dg]; simp [h]
theorem zg (n:Nat):val (dg n)=n:=by
 induction n using Nat.strongRecOn with
 | _ n ih =>
   by_cases h:n=0
   · subst h; rw [uk]; rfl
   · rw [war h,val_cons,ih _ (Nat.div_lt_self (by omega) gba)];exact Nat.mod_add_div n B32
theorem yah (n:Nat):qg (dg n):=by
 induction n using Nat.strongRecOn with
 | _ n ih =>
   by_cases h:n=0
   · subst h; rw [uk]; exact qg.nil
   · rw [war h]; exact qg.cons (Nat.mod_lt _ zi) (ih _ (Nat.div_lt_self (by omega) gba))
theorem kba (d r:Nat) (hd:d < B32) (hr:d+B32 * r ≠ 0):dg (d+B32 * r)=d :: dg r:=by
 rw [war hr,Nat.add_mul_mod_self_left,Nat.mod_eq_of_lt hd,Nat.add_mul_div_left _ _ zi,Nat.div_eq_of_lt hd,Nat.zero_add]
def vaa (ds : List Nat) : Nat -> Nat
 | 0=>0
 | n+1=>if ds.getD n 0=0 then vaa ds n else n+1
theorem yaj (ds:List Nat) (n:Nat):vaa ds n<=n:=by
 induction n with
 | zero=>simp [vaa]
 | succ n ih=>unfold vaa; split <;> omega
theorem kby (d:Nat) (r:List Nat) (n:Nat):vaa (d :: r) (n+1)=if vaa r n=0 then (if d=0 then 0 else 1) else vaa r n+1:=by
 induction n with
 | zero=>simp [vaa]
 | succ n ih =>
   rw [vaa];simp only [List.getD_cons_succ]
   by_cases h:r.getD n 0=0
   · rw [if_pos h,ih]; simp only [vaa,h,if_true]
   · rw [if_neg h]; simp only [vaa,h,if_false]; simp
theorem zan (n:Nat):dg n=[] ↔ n=0:=by
 by_cases h:n=0
 · subst h; simp [uk]
 · rw [war h]; simp [h]
theorem ka7 {ds:List Nat} (h:qg ds):dg (val ds)=ds.take (vaa ds ds.length):=by
 induction ds with
 | nil=>simp [uk,vaa]
 | cons d r ih =>
   have h1:=ih h.tail;rw [List.length_cons,kby]
   by_cases hr:vaa r r.length=0
   · rw [hr,List.take_zero,zan] at h1;rw [if_pos hr,val_cons,h1]
     by_cases hd:d=0
     · subst hd; simp [uk]
     · rw [if_neg hd,Nat.mul_zero,Nat.add_zero];have:=kba d 0 h.head (by omega);rw [Nat.mul_zero,Nat.add_zero,uk] at this;rw [this]; simp
   · rw [if_neg hr,List.take_succ_cons,<- h1,val_cons,kba d _ h.head];intro h0;have h2:val r=0:=by
      rcases Nat.eq_zero_or_pos (val r) with h3 | h3
      · exact h3
      · have:=Nat.mul_pos zi h3; omega
     rw [h2,uk] at h1;have h4:(r.take (vaa r r.length)).length=0:=by rw [<- h1]; rfl
     rw [List.length_take] at h4;have:=yaj r r.length;omega
theorem uad {ds:List Nat} (h:qg ds):(dg (val ds)).length=vaa ds ds.length:=by
 rw [ka7 h,List.length_take];have:=yaj ds ds.length;omega
theorem qf {n k:Nat} (h:n < B32 ^ k):(dg n).length<=k:=by
 induction k generalizing n with
 | zero => rw [Nat.pow_zero] at h; have : n = 0 := by omega
           subst this; rw [uk]; simp
 | succ k ih =>
   by_cases h0:n=0
   · subst h0; rw [uk]; simp
   · rw [war h0,List.length_cons];have:n / B32 < B32 ^ k:=by
      rw [Nat.pow_succ] at h;exact Nat.div_lt_of_lt_mul (by rw [Nat.mul_comm]; exact h)
     have:=ih this;omega
theorem gab (n:Nat):n < B32 ^ (dg n).length:=by
 have:=wu (yah n)
 rwa [zg] at this
theorem gp {m n:Nat} (h:m<=n):(dg m).length<=(dg n).length:=
 qf (Nat.lt_of_le_of_lt h (gab n))
theorem ug {ds:List Nat} (h:qg ds):(dg (val ds)).length<=ds.length:=qf (wu h)
theorem jal {m n:Nat} (h:(dg m).length < (dg n).length):m < n:=by
 rcases Nat.lt_or_ge m n with h1 | h1
 · exact h1
 · have:=gp h1; omega
theorem jaw (m n:Nat):(dg (m+n)).length<=max (dg m).length (dg n).length+1:=by
 apply qf;have h1:=gab m;have h2:=gab n;have h3:B32 ^ (dg m).length<=B32 ^ max (dg m).length (dg n).length:=Nat.pow_le_pow_right zi (Nat.le_max_left _ _);have h4:B32 ^ (dg n).length<=B32 ^ max (dg m).length (dg n).length:=Nat.pow_le_pow_right zi (Nat.le_max_right _ _);rw [Nat.pow_succ];have:B32 ^ max (dg m).length (dg n).length * 2<=B32 ^ max (dg m).length (dg n).length * B32:=Nat.mul_le_mul_left _ (by decide);omega
theorem wbh {n:Nat} (h:n ≠ 0):B32 ^ ((dg n).length - 1)<=n:=by
 rcases Nat.lt_or_ge n (B32 ^ ((dg n).length - 1)) with h1 | h1
 · have h2:=qf h1;have h3:dg n ≠ []:=fun e=>h ((zan n).1 e)
   have h4:0 < (dg n).length:=List.length_pos_iff.2 h3;omega
 · exact h1
theorem jag {n:Nat} (h:n ≠ 0):0 < (dg n).length:=by
 have h3:dg n ≠ []:=fun e=>h ((zan n).1 e)
 exact List.length_pos_iff.2 h3
theorem zas {n:Nat} (h:(dg n).length=0):n=0:=(zan n).1 (List.eq_nil_of_length_eq_zero h)
theorem gau {n:Nat} (h0:n ≠ 0) (h:n < B32):dg n=[n]:=by
 rw [war h0,Nat.mod_eq_of_lt h,Nat.div_eq_of_lt h,uk]
theorem xcm (a b:Nat) (ha:a < B32) (hb0:b ≠ 0) (hb:b < B32):dg (a+B32 * b)=[a,b]:=by
 rw [kba a b ha,gau hb0 hb];have:=Nat.mul_pos zi (Nat.pos_of_ne_zero hb0);omega
theorem qaz {xs ys : List Nat} (k : Nat) (hx : qg xs) (hkx : k < xs.length) (hky : k < ys.length) (hl : xs.length = ys.length)
 (he:xs.drop (k+1)=ys.drop (k+1)) (h:xs[k] < ys[k]):val xs < val ys:=by
 have e1:=ui xs k (by omega);have e2:=ui ys k (by omega);rw [List.drop_eq_getElem_cons hkx,val_cons] at e1;rw [List.drop_eq_getElem_cons hky,val_cons,<- he] at e2;have h1:=wu (hx.take k);rw [List.length_take,Nat.min_eq_left (by omega)] at h1;have h2:B32 ^ k * (xs[k]+1+B32 * val (xs.drop (k+1)))<=B32 ^ k * (ys[k]+B32 * val (xs.drop (k+1))):=Nat.mul_le_mul_left _ (by omega);have h3:B32 ^ k * (xs[k]+1+B32 * val (xs.drop (k+1)))=B32 ^ k * (xs[k]+B32 * val (xs.drop (k+1)))+B32 ^ k:=by
  rw [show xs[k]+1+B32 * val (xs.drop (k+1))=(xs[k]+B32 * val (xs.drop (k+1)))+1 from by omega,Nat.mul_add,Nat.mul_one]
 omega
end Go.Proofs.YtklnlgnnlmdibaaGreat

/- Words for memory: what a value of the program's types means in a world, and that it stays so while only new blocks are made. -/
namespace Go.Proofs.YtklnlgnnlmdibaaGreat
open Go.RowKit
theorem ja (a:Addr) (n:Nat):(a.add n).block=a.block:=by unfold Addr.add; split <;> rfl
theorem za8 (a:Addr) (i j:Nat):(a.add i).add j=a.add (i+j):=by
 unfold Addr.add
 by_cases hi:i=0 <;> by_cases hj:j=0 <;> simp [hi,hj,Nat.add_assoc]
theorem yt (b o n:Nat):(⟨b,o,none⟩:Addr).add n=⟨b,o+n,none⟩:=by unfold Addr.add; split <;> simp_all
def Ext (w w':World):Prop:=Below w.heap.size w w'
theorem Ext.refl (w:World):Ext w w:=Below.refl _ _
theorem Ext.size {w w':World} (h:Ext w w'):w.heap.size<=w'.heap.size:=Below.size h
theorem Ext.trans {a b c:World} (h:Ext a b) (k:Ext b c):Ext a c:=Below.trans h (Below.mono k h.size)
theorem Ext.below {w w':World} (h:Ext w w'):Below w.heap.size w w':=h
theorem Ext.cell {w w':World} (h:Ext w w') {p:Addr} (hp:p.block < w.heap.size):w'.cell? p=w.cell? p:=Below.cell h hp
theorem Ext.frozen {w w':World} (h:Ext w w') {p:Addr} (hp:p.block < w.heap.size):w'.frozen? p=w.frozen? p:=Below.frozen h hp
theorem Ext.alloc {w w':World} (h:Ext w w') (o:Obj):Ext w (w'.alloc o):=Below.alloc h h.size o
theorem Ext.setCell {w w':World} (h:Ext w w') {p:Addr} (hp:w.heap.size<=p.block) (u:Value):Ext w (w'.setCell p u):=Below.setCell h hp u
theorem Ext.drew {w w':World} (h:Ext w w'):Ext w w'.drew:=Below.drew h
theorem Ext.drewN {w w':World} (h:Ext w w') (n:Nat):Ext w (w'.drewN n):=by
 have h':=h.below;exact ⟨h'.os,h'.tape,h'.output,h'.size,h'.block⟩
theorem Ext.cells {W w1:World} (hb:Ext W w1):(∀ b o,b < W.heap.size->w1.cell? ⟨b,o,none⟩=W.cell? ⟨b,o,none⟩)/\(∀ b o,b < W.heap.size->w1.frozen? ⟨b,o,none⟩=W.frozen? ⟨b,o,none⟩):=
 ⟨fun b o h=>hb.cell (p:=⟨b,o,none⟩) h,fun b o h=>hb.frozen (p:=⟨b,o,none⟩) h⟩
def qi (w:World) (A:Option Addr) (ds:List Nat):Prop:=
 qg ds/\(0 < ds.length->∃ ad,A=some ad/\ad.block < w.heap.size/\∀ j (h:j < ds.length),w.cell? (ad.add j)=some (.int .u32 (ds[j]:Nat)))
theorem qi.ext {w w':World} {A:Option Addr} {ds:List Nat} (h:qi w A ds) (k:Ext w w'):qi w' A ds:=
 ⟨h.1,fun hl=>by
   obtain ⟨ad,e,hb,hc⟩:=h.2 hl
   exact ⟨ad,e,Nat.lt_of_lt_of_le hb k.size,fun j hj=>(k.cell (by rw [ja]; exact hb)).trans (hc j hj)⟩⟩
theorem qi.at_ {w:World} {A:Option Addr} {ds:List Nat} (h:qi w A ds) (k:Nat) (hk:k < ds.length) :
 ∃ ad,A=some ad/\ad.block < w.heap.size/\w.cell? (ad.add k)=some (.int .u32 (ds[k]:Nat))/\ds[k] < 4294967296:=by
 obtain ⟨ad,e,hb,hc⟩:=h.2 (by omega);exact ⟨ad,e,hb,hc k hk,h.1.get k hk⟩
theorem qi.get_ {w:World} {A:Option Addr} {ds:List Nat} (h:qi w A ds) (k:Nat) (hk:k < ds.length) :
 ∃ (ad:Addr) (x:Nat),A=some ad/\ad.block < w.heap.size/\w.cell? (ad.add k)=some (.int .u32 (x:Nat))/\x < 4294967296/\Hid (ds[k]?=some x):=by
 obtain ⟨ad,e,hb,hc⟩:=h.2 (by omega);exact ⟨ad,ds[k],e,hb,hc k hk,h.1.get k hk,List.getElem?_eq_getElem hk⟩
theorem qi.nil (w:World) (A:Option Addr):qi w A []:=⟨qg.nil,fun h=>absurd h (by simp)⟩
theorem qi.take {w:World} {A:Option Addr} {ds:List Nat} (h:qi w A ds) (k:Nat):qi w A (ds.take k):=
 ⟨h.1.take k,fun hl=>by
   rw [List.length_take] at hl;obtain ⟨ad,e,hb,hc⟩:=h.2 (by omega);refine ⟨ad,e,hb,fun j hj=>?_⟩;rw [List.length_take] at hj
   rw [hc j (by omega),List.getElem_take]⟩
theorem qi.drop {w:World} {A:Option Addr} {ds:List Nat} (h:qi w A ds) (k cap:Nat) (hk:k<=ds.length) (hc:ds.length<=cap) :
 qi w (if cap=k then A else A.map (·.add k)) (ds.drop k):=
 ⟨h.1.drop k,fun hl=>by
   rw [List.length_drop] at hl;obtain ⟨ad,rfl,hb,hcell⟩:=h.2 (by omega);rw [if_neg (by omega)];refine ⟨ad.add k,rfl,by rw [ja]; exact hb,fun j hj=>?_⟩;rw [List.length_drop] at hj
   rw [za8,hcell (k+j) (by omega),List.getElem_drop]⟩
def jc (w:World) (v:Value) (ds:List Nat):Prop:=
 ∃ A c,v=.slice A ds.length c/\ds.length<=c/\c<=9223372036854775807/\qi w A ds
theorem jc.ext {w w':World} {v:Value} {ds:List Nat} (h:jc w v ds) (k:Ext w w'):jc w' v ds:=by
 obtain ⟨A,c,e,h1,h2,h3⟩:=h;exact ⟨A,c,e,h1,h2,h3.ext k⟩
theorem jc.digs {w:World} {v:Value} {ds:List Nat} (h:jc w v ds):qg ds:=by
 obtain ⟨A,c,e,h1,h2,h3⟩:=h;exact h3.1
theorem jc.nil (w:World):jc w (.slice none 0 0) []:=⟨none,0,rfl,by simp,by simp,qi.nil _ _⟩
def qo (ds:List Nat):List Value:=ds.map fun d=>Value.int .u32 (d:Nat)
theorem qx (ds:List Nat):(qo ds).length=ds.length:=by simp [qo]
theorem zat (ds:List Nat) (i:Nat) (h:i < ds.length):(qo ds)[i]?=some (.int .u32 (ds[i]:Nat)):=by
 simp [qo,List.getElem?_eq_getElem h]
theorem ube (ds:List Nat):∀ v ∈ qo ds,v.oneCell'=true:=by
 intro v hv;obtain ⟨d,_,rfl⟩:=List.mem_map.1 hv
 rfl
theorem wb5 (ds:List Nat) (i d:Nat):(qo ds).toArray.setIfInBounds i (.int .u32 (d:Nat))=(qo (ds.set i d)).toArray:=by
 simp [qo,List.map_set]
def Row (w:World) (g:Nat) (ds:List Nat):Prop:=w.heap[g]?=some (.cells (qo ds).toArray 90 (0,0))
section
variable {w w':World} {g:Nat} {ds:List Nat}
theorem Row.lt (h:Row w g ds):g < w.heap.size:=by
 rcases Nat.lt_or_ge g w.heap.size with hlt | hge
 · exact hlt
 · unfold Row at h; rw [Array.getElem?_eq_none hge] at h; cases h
theorem Row.cell (h:Row w g ds) (i:Nat) (hi:i < ds.length):w.cell? ⟨g,i,none⟩=some (.int .u32 (ds[i]:Nat)):=by
 rw [cell_of_row w g i _ _ (0,0) h]; simpa using zat ds i hi
theorem Row.get_ (h:Row w g ds) (k:Nat) (hk:k < ds.length):∃ x:Nat,w.cell? ⟨g,k,none⟩=some (.int .u32 (x:Nat))/\w.frozen? ⟨g,k,none⟩=false/\Hid (ds[k]?=some x):=by
 refine ⟨ds[k],?_,?_,List.getElem?_eq_getElem hk⟩
 · rw [cell_of_row w g k _ _ (0,0) h]; simpa using zat ds k hk
 · unfold Row at h;simp [World.frozen?,h]
theorem Row.frozen (h:Row w g ds) (i:Nat):w.frozen? ⟨g,i,none⟩=false:=by
 unfold Row at h;simp [World.frozen?,h]
theorem Row.new (w:World) (ds:List Nat):Row (w.alloc (.cells (qo ds).toArray 90)) w.heap.size ds:=heap_alloc_new w _
theorem Row.set_ (h:Row w g ds) (i d:Nat):Row (w.setCell ⟨g,i,none⟩ (.int .u32 (d:Nat))) g (ds.set i d):=by
 unfold Row at h ⊢;rw [<- wb5];simp [World.setCell,Array.getElem?_modify,h]
theorem Row.drewN (h:Row w g ds) (n:Nat):Row (w.drewN n) g ds:=h
theorem Row.alloc (h:Row w g ds) (o:Obj):Row (w.alloc o) g ds:=(Below.heap_alloc w o g h.lt).trans h
theorem Row.far (h:Row w g ds) {p:Addr} (hp:g ≠ p.block) (u:Value):Row (w.setCell p u) g ds:=(Below.heap_setCell w p u g hp).trans h
theorem Row.below {B:Nat} (h:Row w g ds) (hb:Below B w w') (hg:g < B):Row w' g ds:=(hb.block g hg).trans h
theorem Row.ext (h:Row w g ds) (hb:Ext w w'):Row w' g ds:=Row.below h hb h.lt
theorem Row.digAt (h:Row w g ds) (hd:qg ds):qi w (some ⟨g,0,none⟩) ds:=
 ⟨hd,fun _=>⟨_,rfl,h.lt,fun j hj=>by rw [yt,Nat.zero_add]; exact h.cell j hj⟩⟩
theorem Row.natVn (h:Row w g ds) (hd:qg ds) (n c:Nat) (hn:ds.length=n) (hc:n<=c) (hc':c<=9223372036854775807):jc w (.slice (some ⟨g,0,none⟩) n c) ds:=by
 subst hn; exact ⟨_,c,rfl,hc,hc',h.digAt hd⟩
theorem Row.natV (h:Row w g ds) (hd:qg ds) (c:Nat) (hc:ds.length<=c) (hc':c<=9223372036854775807):jc w (.slice (some ⟨g,0,none⟩) ds.length c) ds:=
 ⟨_,c,rfl,hc,hc',h.digAt hd⟩
end
theorem jcb:(Tryz.prog.info? 90).map (fun i=>(i.zero,i.size,i.bytes))=some (some (.int .u32 0),1,4):=by kernel_rfl
theorem za3:(Tryz.prog.info? 90).map (·.size)=some 1:=by kernel_rfl
theorem zy (n:Int) (h0:0<=n) (h1:n<=35184372088832) (w:World) :
 (Instr.makeSlice 31 (.int .i64 n) (.int .i64 n)).run Tryz.prog w =
   .ok (.slice (some ⟨w.heap.size,0,none⟩) n.toNat n.toNat) (w.alloc (.cells (qo (List.replicate n.toNat 0)).toArray 90)):=by
 obtain ⟨i0,hi,hz0,hz1,hz2⟩:=info_parts jcb;have key:madeCells (Value.int .u32 0).cells (n.toNat * i0.size)=(qo (List.replicate n.toNat 0)).toArray:=by
  rw [hz1,Nat.mul_one];apply Array.ext';simp only [madeCells,qo,List.map_replicate];rw [Array.toList_map,Array.toList_range];apply List.ext_getElem
  · simp
  · intro k h1 h2;simp [Value.cells,Nat.mod_one]
 rw [run_make w 31 90 i0 (.int .u32 0) Tryz.underlying31 hi hz0 .i64 .i64 n n h0 (by omega) (by rw [hz2]; omega) (by omega),key]
def zh (a b:Int):Int:=if a < b then -1 else if b < a then 1 else 0
theorem xah (a b:Int):-1<=zh a b/\zh a b<=1:=by unfold zh; split <;> (try split) <;> omega
theorem wac {a b:Int} (h:a < b):zh a b=-1:=if_pos h
theorem qak {a b:Int} (h:b < a):zh a b=1:=by unfold zh; rw [if_neg (by omega),if_pos h]
theorem ww {a b:Int} (h:a=b):zh a b=0:=by unfold zh; rw [if_neg (by omega),if_neg (by omega)]
def Only (g:Nat) (w w':World):Prop:=w.grownBy w' (some g)
theorem Only.g {g:Nat} {w w':World} (h:Only g w w'):w.grownBy w' (some g):=h
theorem Only.refl (g:Nat) (w:World):Only g w w:=World.grownBy.refl w _
theorem Only.size {g:Nat} {w w':World} (h:Only g w w'):w.heap.size<=w'.heap.size:=World.grownBy.size h
theorem Only.setCell {g:Nat} {w w':World} (h:Only g w w') (k:Nat) (u:Value):Only g w (w'.setCell ⟨g,k,none⟩ u):=by
 have h':=h.g;exact ⟨h'.os,h'.tape,h'.output,by simpa [World.setCell] using h'.size,fun i hi hne=>(Below.heap_setCell w' ⟨g,k,none⟩ u i (fun e=>hne (by rw [e]))).trans (h'.block i hi hne)⟩
theorem Only.drewN {g:Nat} {w w':World} (h:Only g w w') (n:Nat):Only g w (w'.drewN n):=by
 have h':=h.g;exact ⟨h'.os,h'.tape,h'.output,h'.size,h'.block⟩
theorem Only.trans {g:Nat} {a b c:World} (h:Only g a b) (k:Only g b c):Only g a c:=
 ⟨(World.grownBy.os k).trans (World.grownBy.os h),(World.grownBy.tape k).trans (World.grownBy.tape h),(World.grownBy.output k).trans (World.grownBy.output h),Nat.le_trans h.size k.size,
   fun i hi hne=>(World.grownBy.block k i (Nat.lt_of_lt_of_le hi h.size) hne).trans (World.grownBy.block h i hi hne)⟩
theorem Only.of_ext {g:Nat} {w w':World} (h:Ext w w'):Only g w w':=by
 have h':=h.below;exact ⟨h'.os,h'.tape,h'.output,h'.size,fun i hi _=>h'.block i hi⟩
theorem Only.ext {g:Nat} {w0 w w':World} (hx:Ext w0 w) (h:Only g w w') (hg:w0.heap.size<=g):Ext w0 w':=by
 have h':=hx.below
 exact ⟨(World.grownBy.os h).trans h'.os,(World.grownBy.tape h).trans h'.tape,(World.grownBy.output h).trans h'.output,Nat.le_trans h'.size h.size,
  fun i hi=>(World.grownBy.block h i (Nat.lt_of_lt_of_le hi h'.size) (fun e=>by injection e with e; omega)).trans (h'.block i hi)⟩
theorem Only.block {g:Nat} {w w':World} (h:Only g w w') {i:Nat} (hi:i < w.heap.size) (hne:i ≠ g):w'.heap[i]?=w.heap[i]?:=World.grownBy.block h i hi (fun e=>hne (by injection e))
theorem Only.cell {g:Nat} {w w':World} (h:Only g w w') {p:Addr} (hp:p.block < w.heap.size) (hne:p.block ≠ g):w'.cell? p=w.cell? p:=World.cell?_of_block (h.block hp hne)
theorem qi.only {g:Nat} {w w':World} {A:Option Addr} {ds:List Nat} (h:qi w A ds) (k:Only g w w') (hne:∀ ad,A=some ad->ad.block ≠ g):qi w' A ds:=
 ⟨h.1,fun hl=>by
   obtain ⟨ad,e,hb,hc⟩:=h.2 hl
   exact ⟨ad,e,Nat.lt_of_lt_of_le hb k.size,fun j hj=>(k.cell (by rw [ja]; exact hb) (by rw [ja]; exact hne ad e)).trans (hc j hj)⟩⟩
theorem Row.only {g g':Nat} {w w':World} {ds:List Nat} (h:Row w g ds) (k:Only g' w w') (hne:g ≠ g'):Row w' g ds:=(k.block h.lt hne).trans h
def yz (B:Nat) (v:Value):Prop:=∀ ad n c,v=.slice (some ad) n c->B<=ad.block
theorem yz.mk (B:Nat) (ad:Addr) (n c:Nat) (h:B<=ad.block):yz B (.slice (some ad) n c):=by
 intro ad' n' c' e;injection e with e1
 injection e1 with e2
 rw [<- e2]; exact h
theorem yz.nil (B n c:Nat):yz B (.slice none n c):=by
 intro ad' n' c' e;injection e with e1
 cases e1
theorem yz.mono {B B':Nat} {v:Value} (h:yz B v) (hB:B'<=B):yz B' v:=fun ad n c e=>Nat.le_trans hB (h ad n c e)
def gal (n:Nat) (w:World) (e:Ending) (w':World):Prop:=∃ v,e=.returned v/\jc w' v (dg n)/\Ext w w'
end Go.Proofs.YtklnlgnnlmdibaaGreat

/- Maps from strings to values of any type: what a block that is such a map holds, and what reading and writing it does. -/
namespace Go.Proofs.YtklnlgnnlmdibaaGreat
open Go.RowKit
end Go.Proofs.YtklnlgnnlmdibaaGreat

/- The functions of math/bits that the program calls, each as an equation on integers. -/
set_option maxRecDepth 100000
set_option maxHeartbeats 8000000
namespace Go.Proofs.YtklnlgnnlmdibaaGreat
open Go.RowKit
theorem jaj {k:IntKind} {a b:Int} (h:a=b):Ending.returned (.int k a)=.returned (.int k b):=by rw [h]
theorem vb8 {k l:IntKind} {a b c d:Int} (h:a=b) (h':c=d):Ending.returned (.tuple #[.int k a,.int l c])=.returned (.tuple #[.int k b,.int l d]):=by rw [h,h']
theorem kcf (m:Nat) (h:m < 4294967296):m / 2147483648=(m.testBit 31).toNat:=by
 rw [Nat.testBit_eq_decide_div_mod_eq];have:m / 2 ^ 31 < 2:=by omega
 by_cases h1:m / 2 ^ 31 % 2=1
 · simp only [h1,decide_true,Bool.toNat_true]; omega
 · simp only [h1,decide_false,Bool.toNat_false]; omega
theorem gbe (m:Nat) (h:m < 4294967296):m.testBit 31=decide (2147483648<=m):=by
 rw [Nat.testBit_eq_decide_div_mod_eq]
 by_cases h1:2147483648<=m
 · simp only [h1,decide_true,decide_eq_true_eq]; omega
 · simp only [h1,decide_false,decide_eq_false_iff_not]; omega
def bor (x y c:Int):Int:=if x < y+c then 1 else 0
theorem kas (x y c:Int):0<=bor x y c/\bor x y c<=1:=by unfold bor; split <;> omega
theorem gb6 (x y c:Int) (x0:0<=x) (x1:x < 4294967296) (y0:0<=y) (y1:y < 4294967296) (c0:0<=c) (c1:c<=1) :
 bits .or .u32 (bits .and .u32 (bits .xor .u32 IntKind.u32.max x) y) (bits .and .u32 (bits .xor .u32 IntKind.u32.max (bits .xor .u32 x y)) ((x - y - c) % 4294967296)) / 2147483648=bor x y c:=by
 obtain ⟨a,rfl⟩:=Int.eq_ofNat_of_zero_le x0;obtain ⟨b,rfl⟩:=Int.eq_ofNat_of_zero_le y0;obtain ⟨k,rfl⟩:=Int.eq_ofNat_of_zero_le c0;obtain ⟨d,hd⟩:=Int.eq_ofNat_of_zero_le (show 0<=((a:Int) - b - k) % 4294967296 by omega);have hd1:d < 4294967296:=by omega
 have ha:a < 4294967296:=by omega
 have hb:b < 4294967296:=by omega
 have hm:IntKind.u32.max=((4294967295:Nat):Int):=by decide
 have lx:∀ p q:Nat,p < 4294967296->q < 4294967296->p ^^^ q < 4294967296:=fun p q hp hq=>Nat.xor_lt_two_pow (n:=32) hp hq
 have la:∀ p q:Nat,q < 4294967296->p &&& q < 4294967296:=fun p q hq=>Nat.and_lt_two_pow (n:=32) _ hq
 have lo:∀ p q:Nat,p < 4294967296->q < 4294967296->p ||| q < 4294967296:=fun p q hp hq=>Nat.or_lt_two_pow (n:=32) hp hq
 rw [hd,hm,u32_xor_nat _ _ (by omega) ha,u32_and_nat _ _ (lx _ _ (by omega) ha) hb,u32_xor_nat _ _ ha hb,u32_xor_nat _ _ (by omega) (lx _ _ ha hb),
  u32_and_nat _ _ (lx _ _ (by omega) (lx _ _ ha hb)) hd1,u32_or_nat _ _ (la _ _ hb) (la _ _ hd1)]
 have hl:=lo _ _ (la (4294967295 ^^^ a) b hb) (la (4294967295 ^^^ (a ^^^ b)) d hd1);have ht:=kcf _ hl;rw [Nat.testBit_or,Nat.testBit_and,Nat.testBit_and,Nat.testBit_xor,Nat.testBit_xor,Nat.testBit_xor,gbe a ha,gbe b hb,gbe d hd1] at ht;have hff:(4294967295:Nat).testBit 31=true:=by decide
 rw [hff] at ht;have e:∀ n:Nat,((n:Int) / 2147483648)=((n / 2147483648:Nat):Int):=fun n=>by omega
 rw [e,ht];unfold bor
 by_cases p:2147483648<=a <;> by_cases q:2147483648<=b <;> by_cases r:2147483648<=d <;> by_cases s:(a:Int) < b+k <;> simp [p,q,r,s] <;> omega
theorem add32 (x y c:Int) (w:World) (x0:0<=x) (x1:x < 4294967296) (y0:0<=y) (y1:y < 4294967296) (c0:0<=c) (c1:c<=1) :
 Calls Tryz.prog 142 #[.int .u32 x,.int .u32 y,.int .u32 c] w fun e w' =>
  e=.returned (.tuple #[.int .u32 ((x+y+c) % 4294967296),.int .u32 ((x+y+c) / 4294967296)])/\w=w':=by
 go_enter Tryz.func142,Tryz.ntmps142
 go_wp2
 go_ret2
 exact ⟨rfl,rfl⟩
theorem vbv (x y:Int) (w:World) (x0:0<=x) (x1:x < 4294967296) (y0:0<=y) (y1:y < 4294967296) :
 Calls Tryz.prog 168 #[.int .u32 x,.int .u32 y] w fun e w' =>
  e=.returned (.tuple #[.int .u32 (x * y / 4294967296),.int .u32 (x * y % 4294967296)])/\w=w':=by
 have h0:0<=x * y:=Int.mul_nonneg x0 y0;have h1:x * y<=4294967295 * 4294967295:=Int.mul_le_mul (by omega) (by omega) y0 (by omega);go_enter Tryz.func168,Tryz.ntmps168
 go_wp2
 go_ret2
 exact ⟨rfl,rfl⟩
theorem qbt (x y c:Int) (w:World) (x0:0<=x) (x1:x < 4294967296) (y0:0<=y) (y1:y < 4294967296) (c0:0<=c) (c1:c<=1) :
 Calls Tryz.prog 144 #[.int .u32 x,.int .u32 y,.int .u32 c] w fun e w' =>
  e=.returned (.tuple #[.int .u32 ((x - y - c) % 4294967296),.int .u32 (bor x y c)])/\w=w':=by
 have hs:¬ IntKind.u32.signed=true:=by decide
 go_enter Tryz.func144,Tryz.ntmps144
 go_wp2
 go_ret2
 rw [gb6 x y c x0 x1 y0 y1 c0 c1];exact ⟨vb8 (by omega) rfl,rfl⟩
theorem gce (h l d:Int) (w:World) (h0:0<=h) (h1:h < d) (l0:0<=l) (l1:l < 4294967296) (d1:d < 4294967296) :
 Calls Tryz.prog 169 #[.int .u32 h,.int .u32 l,.int .u32 d] w fun e w' =>
  e=.returned (.tuple #[.int .u32 ((h * 4294967296+l) / d),.int .u32 ((h * 4294967296+l) % d)])/\∃ n,w'=w.drewN n:=by
 have hd:(d == 0)=false:=by simp; omega
 have hd':(d != 0)=true:=by simp; omega
 have hdh:decide (d<=h)=false:=by simp; omega
 have hor:bits .or .u64 (h * 4294967296) l=h * 4294967296+l:=by
  obtain ⟨a,rfl⟩:=Int.eq_ofNat_of_zero_le h0;obtain ⟨b,rfl⟩:=Int.eq_ofNat_of_zero_le l0;have:=u64_or_nat (a * 4294967296) b (by omega) (by omega);rw [nat_join 32 (a * 4294967296) b (by omega) (by omega)] at this;simpa using this
 have hq0:0<=(h * 4294967296+l) / d:=Int.ediv_nonneg (by omega) (by omega);have hq1:(h * 4294967296+l) / d < 4294967296:=Int.ediv_lt_of_lt_mul (by omega) (by omega);have hr0:0<=(h * 4294967296+l) % d:=Int.emod_nonneg _ (by omega);have hr1:(h * 4294967296+l) % d < d:=Int.emod_lt_of_pos _ (by omega);go_enter Tryz.func169,Tryz.ntmps169
 go_wp2
 go_quiet (fail)
 go_wp2
 go_ret2
 exact ⟨rfl,_,rfl⟩
end Go.Proofs.YtklnlgnnlmdibaaGreat
