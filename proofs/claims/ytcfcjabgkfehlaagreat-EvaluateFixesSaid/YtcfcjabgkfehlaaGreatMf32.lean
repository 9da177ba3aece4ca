/- Layer 34: trees as values. -/
import Derived.Test.YtcfcjabgkfehlaaGreatForm
import Derived.Test.YtcfcjabgkfehlaaGreatInt3
set_option linter.unusedSimpArgs false
set_option linter.unusedVariables false

namespace Go.Proofs.YtcfcjabgkfehlaaGreat
open Go.RowKit
structure Nd where
 kind:Int
 neg:Bool
 ds:List Nat
 name:ByteArray
 exp:Int
 rel:Int
 truth:Bool
 all:Bool
inductive Tr where
 | mk (d:Nd) (ks:List Tr)
def Tr.d : Tr -> Nd
 | .mk d _=>d
def Tr.ks : Tr -> List Tr
 | .mk _ ks=>ks
def ndV (d:Nd) (s A:Value):Value:=.agg #[.int .i64 d.kind,.bool d.neg,s,.string d.name,.int .i64 d.exp,.int .i64 d.rel,.bool d.truth,.bool d.all,A]
def xak (w:World) (ad:Addr) (d:Nd) (s A:Value):Prop:=
 w.cell? ad=some (.int .i64 d.kind)/\w.cell? ⟨ad.block,ad.off+1,none⟩=some (.bool d.neg)/\w.cell? ⟨ad.block,ad.off+2,none⟩=some s/\w.cell? ⟨ad.block,ad.off+3,none⟩=some (.string d.name)/\w.cell? ⟨ad.block,ad.off+4,none⟩=some (.int .i64 d.exp)/\w.cell? ⟨ad.block,ad.off+5,none⟩=some (.int .i64 d.rel)/\w.cell? ⟨ad.block,ad.off+6,none⟩=some (.bool d.truth)/\w.cell? ⟨ad.block,ad.off+7,none⟩=some (.bool d.all)/\w.cell? ⟨ad.block,ad.off+8,none⟩=some A
mutual
def TrV (w : World) (p : Nat -> Prop) : Tr -> Value -> Prop
 | .mk d ks,v=>∃ s A c,v=ndV d s (.slice A ks.length c)/\jb w s d.ds/\ks.length<=c/\c<=9223372036854775807/\ul w p ks A 0
def ul (w : World) (p : Nat -> Prop) : List Tr -> Option Addr -> Nat -> Prop
 | [],_,_=>True
 | t :: r,A,j=>(∃ ad s K,A=some ad/\ad.block < w.heap.size/\p ad.block/\xak w (ad.add (j * 9)) t.d s K/\TrV w p t (ndV t.d s K))/\ul w p r A (j+1)
end
section
variable {w w':World} {p q:Nat->Prop}
theorem ul.get_ (l:List Tr):∀ (A:Option Addr) (j:Nat),ul w p l A j->∀ i (h:i < l.length),∃ ad s K,A=some ad/\ad.block < w.heap.size/\p ad.block/\xak w (ad.add ((j+i) * 9)) l[i].d s K/\TrV w p l[i] (ndV l[i].d s K):=by
 induction l with
 | nil=>intro A j h i hi; simp at hi
 | cons t r ih =>
   intro A j h i hi;unfold ul at h;cases i with
   | zero=>exact h.1
   | succ i =>
     have:=ih A (j+1) h.2 i (by simpa using hi);rw [show j+(i+1)=j+1+i by omega];exact this
theorem xak.ext {ad:Addr} {d:Nd} {s A:Value} (h:xak w ad d s A) (hx:Ext w w') (hb:ad.block < w.heap.size):xak w' ad d s A:=by
 obtain ⟨h0,h1,h2,h3,h4,h5,h6,h7,h8⟩:=h;have k:∀ n,(⟨ad.block,ad.off+n,none⟩:Addr).block < w.heap.size:=fun n=>hb
 exact ⟨(hx.cell hb).trans h0,(hx.cell (k _)).trans h1,(hx.cell (k _)).trans h2,(hx.cell (k _)).trans h3,(hx.cell (k _)).trans h4,(hx.cell (k _)).trans h5,(hx.cell (k _)).trans h6,(hx.cell (k _)).trans h7,(hx.cell (k _)).trans h8⟩
mutual
theorem TrV.turn (hs : w.heap.size <= w'.heap.size) (hp : ∀ b, p b -> q b) (hn : ∀ v ds, jb w v ds -> jb w' v ds) (hc : ∀ (ad : Addr) d s A, ad.block < w.heap.size -> p ad.block -> xak w ad d s A -> xak w' ad d s A) : ∀ (t : Tr) (v : Value), TrV w p t v -> TrV w' q t v
 | .mk d ks,v,h=>by
   unfold TrV at h ⊢;obtain ⟨s,A,c,e,h1,h2,h3,h4⟩:=h;exact ⟨s,A,c,e,hn _ _ h1,h2,h3,ul.turn hs hp hn hc ks A 0 h4⟩
theorem ul.turn (hs : w.heap.size <= w'.heap.size) (hp : ∀ b, p b -> q b) (hn : ∀ v ds, jb w v ds -> jb w' v ds) (hc : ∀ (ad : Addr) d s A, ad.block < w.heap.size -> p ad.block -> xak w ad d s A -> xak w' ad d s A) : ∀ (l : List Tr) (A : Option Addr) (j : Nat), ul w p l A j -> ul w' q l A j
 | [],A,j,h=>by unfold ul; trivial
 | t :: r,A,j,h=>by
   unfold ul at h ⊢;obtain ⟨⟨ad,s,K,e,hb,hpb,h1,h2⟩,h3⟩:=h;exact ⟨⟨ad,s,K,e,Nat.lt_of_lt_of_le hb hs,hp _ hpb,hc _ _ _ _ (by rw [ja]; exact hb) (by rw [ja]; exact hpb) h1,TrV.turn hs hp hn hc t _ h2⟩,ul.turn hs hp hn hc r A (j+1) h3⟩
end
theorem TrV.ext {t:Tr} {v:Value} (h:TrV w p t v) (hx:Ext w w'):TrV w' p t v:=TrV.turn hx.size (fun _ h=>h) (fun _ _ h=>h.ext hx) (fun _ _ _ _ hb _ h=>h.ext hx hb) t v h
theorem ul.ext {l:List Tr} {A:Option Addr} {j:Nat} (h:ul w p l A j) (hx:Ext w w'):ul w' p l A j:=ul.turn hx.size (fun _ h=>h) (fun _ _ h=>h.ext hx) (fun _ _ _ _ hb _ h=>h.ext hx hb) l A j h
theorem TrV.mono {t:Tr} {v:Value} (h:TrV w p t v) (hp:∀ b,p b->q b):TrV w q t v:=TrV.turn (Nat.le_refl _) hp (fun _ _ h=>h) (fun _ _ _ _ _ _ h=>h) t v h
theorem TrV.open_ {t:Tr} {v:Value} (h:TrV w p t v):∃ A0 n0 c0 A c,v=ndV t.d (.slice A0 n0 c0) (.slice A t.ks.length c)/\jb w (.slice A0 n0 c0) t.d.ds/\t.ks.length<=c/\c<=9223372036854775807/\ul w p t.ks A 0:=by
 cases t with
 | mk d ks =>
   unfold TrV at h;obtain ⟨s,A,c,e,⟨A0,c0,rfl,hd⟩,h2,h3,h4⟩:=h;exact ⟨A0,_,c0,A,c,e,⟨A0,c0,rfl,hd⟩,h2,h3,h4⟩
theorem ul.kid {l:List Tr} {A:Option Addr} (h:ul w p l A 0) (k:Nat) (hk:k < l.length):∃ ad A0 n0 c0 A1 n1 c1,A=some ad/\ad.block < w.heap.size/\xak w (ad.add (k * 9)) l[k].d (.slice A0 n0 c0) (.slice A1 n1 c1)/\TrV w p l[k] (ndV l[k].d (.slice A0 n0 c0) (.slice A1 n1 c1)):=by
 obtain ⟨ad,s,K,e,hb,-,h1,h2⟩:=ul.get_ l A 0 h k hk;rw [Nat.zero_add] at h1;obtain ⟨A0,n0,c0,A1,c1,e2,-,-⟩:=h2.open_;unfold ndV at e2;simp only [Value.agg.injEq,Array.mk.injEq,List.cons.injEq,and_true,true_and] at e2;obtain ⟨rfl,rfl⟩:=e2;exact ⟨ad,A0,n0,c0,A1,_,c1,e,hb,h1,h2⟩
end
end Go.Proofs.YtcfcjabgkfehlaaGreat

/- Layer 34: trees of a call's own: each row of kids lies in a block of its own, in an interval of blocks. -/
namespace Go.Proofs.YtcfcjabgkfehlaaGreat
open Go.RowKit
mutual
def TrO (w : World) : Nat -> Nat -> Tr -> Value -> Prop
 | lo,hi,.mk d ks,v=>∃ s A c,v=ndV d s (.slice A ks.length c)/\jb w s d.ds/\ks.length<=c/\c<=9223372036854775807/\(ks=[]\/∃ b,A=some ⟨b,0,none⟩/\lo<=b/\b < hi/\b < w.heap.size/\(∀ o,w.frozen? ⟨b,o,none⟩=false)/\yae w lo b ks b 0)
def yae (w : World) : Nat -> Nat -> List Tr -> Nat -> Nat -> Prop
 | _,_,[],_,_=>True
 | lo,hi,t :: r,b,j=>∃ m s K,lo<=m/\m<=hi/\xak w ⟨b,j * 9,none⟩ t.d s K/\TrO w lo m t (ndV t.d s K)/\yae w m hi r b (j+1)
end
section
variable {w w':World}
theorem xak.same {ad:Addr} {d:Nd} {s A:Value} (h:xak w ad d s A) (k0:w'.cell? ad=w.cell? ad) (k:∀ n,n < 9->w'.cell? ⟨ad.block,ad.off+n,none⟩=w.cell? ⟨ad.block,ad.off+n,none⟩):xak w' ad d s A:=by
 obtain ⟨h0,h1,h2,h3,h4,h5,h6,h7,h8⟩:=h;exact ⟨k0.trans h0,(k 1 (by omega)).trans h1,(k 2 (by omega)).trans h2,(k 3 (by omega)).trans h3,(k 4 (by omega)).trans h4,(k 5 (by omega)).trans h5,(k 6 (by omega)).trans h6,(k 7 (by omega)).trans h7,(k 8 (by omega)).trans h8⟩
theorem ga8 {a:Addr} (h:w'.heap[a.block]?=w.heap[a.block]?):w'.frozen? a=w.frozen? a:=by
 unfold World.frozen?; rw [h]
mutual
theorem TrO.turn (hs : w.heap.size <= w'.heap.size) (hn : ∀ v ds, jb w v ds -> jb w' v ds) : ∀ (t : Tr) (v : Value) (lo hi lo' hi' : Nat), lo' <= lo -> hi <= hi' -> (∀ i, lo <= i -> i < hi -> i < w.heap.size -> w'.heap[i]? = w.heap[i]?) -> TrO w lo hi t v -> TrO w' lo' hi' t v
 | .mk d ks,v,lo,hi,lo',hi',hl,hh,hc,h=>by
   unfold TrO at h ⊢;obtain ⟨s,A,c,e,h1,h2,h3,h4⟩:=h;refine ⟨s,A,c,e,hn _ _ h1,h2,h3,?_⟩;rcases h4 with h4 | ⟨b,eA,hb1,hb2,hb3,hf,h4⟩
   · exact .inl h4
   · exact .inr ⟨b,eA,by omega,by omega,by omega,fun o=>(ga8 (hc b hb1 hb2 hb3)).trans (hf o),yae.turn hs hn ks b 0 lo b lo' b hl (Nat.le_refl _) (fun i h1 h2 h3=>hc i h1 (by omega) h3) (hc b hb1 hb2 hb3) h4⟩
theorem yae.turn (hs : w.heap.size <= w'.heap.size) (hn : ∀ v ds, jb w v ds -> jb w' v ds) : ∀ (l : List Tr) (b j lo hi lo' hi' : Nat), lo' <= lo -> hi <= hi' -> (∀ i, lo <= i -> i < hi -> i < w.heap.size -> w'.heap[i]? = w.heap[i]?) -> w'.heap[b]? = w.heap[b]? -> yae w lo hi l b j -> yae w' lo' hi' l b j
 | [],b,j,lo,hi,lo',hi',hl,hh,hc,hb,h=>by unfold yae; trivial
 | t :: r,b,j,lo,hi,lo',hi',hl,hh,hc,hb,h=>by
   unfold yae at h ⊢;obtain ⟨m,s,K,h1,h2,h3,h4,h5⟩:=h;exact ⟨m,s,K,by omega,by omega,h3.same (World.cell?_of_block hb) (fun n _=>World.cell?_of_block hb),TrO.turn hs hn t _ lo m lo' m hl (Nat.le_refl _) (fun i h1 h2 h3=>hc i h1 (by omega) h3) h4,yae.turn hs hn r b (j+1) m hi m hi' (Nat.le_refl _) hh (fun i h1 h2 h3=>hc i (by omega) h2 h3) hb h5⟩
end
theorem TrO.ext {t:Tr} {v:Value} {lo hi:Nat} (h:TrO w lo hi t v) (hx:Ext w w'):TrO w' lo hi t v:=TrO.turn hx.size (fun _ _ h=>h.ext hx) t v lo hi lo hi (Nat.le_refl _) (Nat.le_refl _) (fun i _ _ hi=>hx.below.block i hi) h
theorem TrO.mono {t:Tr} {v:Value} {lo hi lo' hi':Nat} (h:TrO w lo hi t v) (hl:lo'<=lo) (hh:hi<=hi'):TrO w lo' hi' t v:=TrO.turn (Nat.le_refl _) (fun _ _ h=>h) t v lo hi lo' hi' hl hh (fun i _ _ _=>rfl) h
mutual
theorem TrO.trV_ {p : Nat -> Prop} : ∀ (t : Tr) (v : Value) (lo hi : Nat), (∀ b, lo <= b -> b < hi -> p b) -> TrO w lo hi t v -> TrV w p t v
 | .mk d ks,v,lo,hi,hp,h=>by
   unfold TrO at h;unfold TrV;obtain ⟨s,A,c,e,h1,h2,h3,h4⟩:=h;refine ⟨s,A,c,e,h1,h2,h3,?_⟩;rcases h4 with rfl | ⟨b,rfl,hb1,hb2,hb3,-,h4⟩
   · unfold ul; trivial
   · exact yae.trsAt ks b 0 lo b (fun i h1 h2=>hp i h1 (by omega)) hb3 (hp b hb1 hb2) h4
theorem yae.trsAt {p : Nat -> Prop} : ∀ (l : List Tr) (b j lo hi : Nat), (∀ i, lo <= i -> i < hi -> p i) -> b < w.heap.size -> p b -> yae w lo hi l b j -> ul w p l (some ⟨b, 0, none⟩) j
 | [],b,j,lo,hi,hp,hb,hpb,h=>by unfold ul; trivial
 | t :: r,b,j,lo,hi,hp,hb,hpb,h=>by
   unfold yae at h;unfold ul;obtain ⟨m,s,K,h1,h2,h3,h4,h5⟩:=h;exact ⟨⟨⟨b,0,none⟩,s,K,rfl,hb,hpb,by rw [jq,Nat.zero_add]; exact h3,TrO.trV_ t _ lo m (fun i h1 h2=>hp i h1 (by omega)) h4⟩,yae.trsAt r b (j+1) m hi (fun i h1 h2=>hp i (by omega) h2) hb hpb h5⟩
end
theorem TrO.trV {t:Tr} {v:Value} {lo hi:Nat} (h:TrO w lo hi t v):TrV w (fun b=>lo<=b) t v:=TrO.trV_ t v lo hi (fun _ h _=>h) h
theorem TrO.open_ {t:Tr} {v:Value} {lo hi:Nat} (h:TrO w lo hi t v):∃ A0 n0 c0 A c,v=ndV t.d (.slice A0 n0 c0) (.slice A t.ks.length c)/\jb w (.slice A0 n0 c0) t.d.ds/\t.ks.length<=c/\c<=9223372036854775807/\(t.ks=[]\/∃ b,A=some ⟨b,0,none⟩/\lo<=b/\b < hi/\b < w.heap.size/\(∀ o,w.frozen? ⟨b,o,none⟩=false)/\yae w lo b t.ks b 0):=by
 cases t with
 | mk d ks =>
   unfold TrO at h;obtain ⟨s,A,c,e,⟨A0,c0,rfl,hd⟩,h2,h3,h4⟩:=h;exact ⟨A0,_,c0,A,c,e,⟨A0,c0,rfl,hd⟩,h2,h3,h4⟩
theorem TrO.mk {t:Tr} {s:Value} {A:Option Addr} {c lo hi:Nat} (h1:jb w s t.d.ds) (h2:t.ks.length<=c) (h3:c<=9223372036854775807) (h4:t.ks=[]\/∃ b,A=some ⟨b,0,none⟩/\lo<=b/\b < hi/\b < w.heap.size/\(∀ o,w.frozen? ⟨b,o,none⟩=false)/\yae w lo b t.ks b 0):TrO w lo hi t (ndV t.d s (.slice A t.ks.length c)):=by
 cases t with
 | mk d ks=>unfold TrO; exact ⟨s,A,c,rfl,h1,h2,h3,h4⟩
end
end Go.Proofs.YtcfcjabgkfehlaaGreat
