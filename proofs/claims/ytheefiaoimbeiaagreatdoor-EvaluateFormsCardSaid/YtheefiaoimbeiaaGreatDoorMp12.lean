/- Layer 34: trees as values. -/
import Derived.Deep.RegionLawGrows
import Derived.RangeFuncBox
import Derived.Test.YtheefiaoimbeiaaGreatDoorMp11
set_option linter.unusedSimpArgs false
set_option linter.unusedVariables false

namespace Go.Proofs.YtheefiaoimbeiaaGreatDoor
open Go.RowKit
structure Nd where
 kind:Int
 neg:Bool
 ds:List Nat
 name:ByteArray
 exp:Int
 rel:Int
 truth:Bool
 all:Bool
inductive Tr where
 | mk (d:Nd) (ks:List Tr)
def Tr.d : Tr -> Nd
 | .mk d _=>d
def Tr.ks : Tr -> List Tr
 | .mk _ ks=>ks
def ndV (d:Nd) (s A:Value):Value:=.agg #[.int .i64 d.kind,.bool d.neg,s,.string d.name,.int .i64 d.exp,.int .i64 d.rel,.bool d.truth,.bool d.all,A]
def udx (w:World) (ad:Addr) (d:Nd) (s A:Value):Prop:=
 w.cell? ad=some (.int .i64 d.kind)/\w.cell? ⟨ad.block,ad.off+1,none⟩=some (.bool d.neg)/\w.cell? ⟨ad.block,ad.off+2,none⟩=some s/\w.cell? ⟨ad.block,ad.off+3,none⟩=some (.string d.name)/\w.cell? ⟨ad.block,ad.off+4,none⟩=some (.int .i64 d.exp)/\w.cell? ⟨ad.block,ad.off+5,none⟩=some (.int .i64 d.rel)/\w.cell? ⟨ad.block,ad.off+6,none⟩=some (.bool d.truth)/\w.cell? ⟨ad.block,ad.off+7,none⟩=some (.bool d.all)/\w.cell? ⟨ad.block,ad.off+8,none⟩=some A
mutual
def TrV (w : World) (p : Nat -> Prop) : Tr -> Value -> Prop
 | .mk d ks,v=>∃ s A c,v=ndV d s (.slice A ks.length c)/\zb1 w s d.ds/\ks.length<=c/\c<=9223372036854775807/\xdl w p ks A 0
def xdl (w : World) (p : Nat -> Prop) : List Tr -> Option Addr -> Nat -> Prop
 | [],_,_=>True
 | t :: r,A,j=>(∃ ad s K,A=some ad/\ad.block < w.heap.size/\p ad.block/\udx w (ad.add (j * 9)) t.d s K/\TrV w p t (ndV t.d s K))/\xdl w p r A (j+1)
end
section
variable {w w':World} {p q:Nat->Prop}
theorem xdl.qt (l:List Tr):∀ (A:Option Addr) (j:Nat),xdl w p l A j->∀ i (h:i < l.length),∃ ad s K,A=some ad/\ad.block < w.heap.size/\p ad.block/\udx w (ad.add ((j+i) * 9)) l[i].d s K/\TrV w p l[i] (ndV l[i].d s K):=by
 induction l with
 | nil=>intro A j h i hi; simp at hi
 | cons t r ih =>
   intro A j h i hi;unfold xdl at h;cases i with
   | zero=>exact h.1
   | succ i =>
     have:=ih A (j+1) h.2 i (by simpa using hi);rw [show j+(i+1)=j+1+i by omega];exact this
theorem xdl.of (l:List Tr):∀ (A:Option Addr) (j:Nat),(∀ i (h:i < l.length),∃ ad s K,A=some ad/\ad.block < w.heap.size/\p ad.block/\udx w (ad.add ((j+i) * 9)) l[i].d s K/\TrV w p l[i] (ndV l[i].d s K))->xdl w p l A j:=by
 induction l with
 | nil=>intro A j h; unfold xdl; trivial
 | cons t r ih =>
   intro A j h;unfold xdl;refine ⟨h 0 (by simp),ih A (j+1) fun i hi=>?_⟩;have:=h (i+1) (by simpa using hi);rw [show j+(i+1)=j+1+i by omega] at this;exact this
theorem udx.ext {ad:Addr} {d:Nd} {s A:Value} (h:udx w ad d s A) (hx:Ext w w') (hb:ad.block < w.heap.size):udx w' ad d s A:=by
 obtain ⟨h0,h1,h2,h3,h4,h5,h6,h7,h8⟩:=h;have k:∀ n,(⟨ad.block,ad.off+n,none⟩:Addr).block < w.heap.size:=fun n=>hb
 exact ⟨(hx.cell hb).trans h0,(hx.cell (k _)).trans h1,(hx.cell (k _)).trans h2,(hx.cell (k _)).trans h3,(hx.cell (k _)).trans h4,(hx.cell (k _)).trans h5,(hx.cell (k _)).trans h6,(hx.cell (k _)).trans h7,(hx.cell (k _)).trans h8⟩
mutual
theorem TrV.ql (hs : w.heap.size <= w'.heap.size) (hp : ∀ b, p b -> q b) (hn : ∀ v ds, zb1 w v ds -> zb1 w' v ds) (hc : ∀ (ad : Addr) d s A, ad.block < w.heap.size -> p ad.block -> udx w ad d s A -> udx w' ad d s A) : ∀ (t : Tr) (v : Value), TrV w p t v -> TrV w' q t v
 | .mk d ks,v,h=>by
   unfold TrV at h ⊢;obtain ⟨s,A,c,e,h1,h2,h3,h4⟩:=h;exact ⟨s,A,c,e,hn _ _ h1,h2,h3,xdl.ql hs hp hn hc ks A 0 h4⟩
theorem xdl.ql (hs : w.heap.size <= w'.heap.size) (hp : ∀ b, p b -> q b) (hn : ∀ v ds, zb1 w v ds -> zb1 w' v ds) (hc : ∀ (ad : Addr) d s A, ad.block < w.heap.size -> p ad.block -> udx w ad d s A -> udx w' ad d s A) : ∀ (l : List Tr) (A : Option Addr) (j : Nat), xdl w p l A j -> xdl w' q l A j
 | [],A,j,h=>by unfold xdl; trivial
 | t :: r,A,j,h=>by
   unfold xdl at h ⊢;obtain ⟨⟨ad,s,K,e,hb,hpb,h1,h2⟩,h3⟩:=h;exact ⟨⟨ad,s,K,e,pr hb hs,hp _ hpb,hc _ _ _ _ (by rw [zc1]; exact hb) (by rw [zc1]; exact hpb) h1,TrV.ql hs hp hn hc t _ h2⟩,xdl.ql hs hp hn hc r A (j+1) h3⟩
end
theorem TrV.ext {t:Tr} {v:Value} (h:TrV w p t v) (hx:Ext w w'):TrV w' p t v:=TrV.ql hx.size (fun _ h=>h) (fun _ _ h=>h.ext hx) (fun _ _ _ _ hb _ h=>h.ext hx hb) t v h
theorem xdl.ext {l:List Tr} {A:Option Addr} {j:Nat} (h:xdl w p l A j) (hx:Ext w w'):xdl w' p l A j:=xdl.ql hx.size (fun _ h=>h) (fun _ _ h=>h.ext hx) (fun _ _ _ _ hb _ h=>h.ext hx hb) l A j h
theorem TrV.mono {t:Tr} {v:Value} (h:TrV w p t v) (hp:∀ b,p b->q b):TrV w q t v:=TrV.ql (pf _) hp (fun _ _ h=>h) (fun _ _ _ _ _ _ h=>h) t v h
theorem TrV.open_ {t:Tr} {v:Value} (h:TrV w p t v):∃ A0 n0 c0 A c,v=ndV t.d (.slice A0 n0 c0) (.slice A t.ks.length c)/\zb1 w (.slice A0 n0 c0) t.d.ds/\t.ks.length<=c/\c<=9223372036854775807/\xdl w p t.ks A 0:=by
 cases t with
 | mk d ks =>
   unfold TrV at h;obtain ⟨s,A,c,e,⟨A0,c0,rfl,hd⟩,h2,h3,h4⟩:=h;exact ⟨A0,_,c0,A,c,e,⟨A0,c0,rfl,hd⟩,h2,h3,h4⟩
theorem TrV.mk {t:Tr} {s:Value} {A:Option Addr} {c:Nat} (h1:zb1 w s t.d.ds) (h2:t.ks.length<=c) (h3:c<=9223372036854775807) (h4:xdl w p t.ks A 0):TrV w p t (ndV t.d s (.slice A t.ks.length c)):=by
 cases t with
 | mk d ks=>unfold TrV; exact ⟨s,A,c,rfl,h1,h2,h3,h4⟩
theorem xdl.kid {l:List Tr} {A:Option Addr} (h:xdl w p l A 0) (k:Nat) (hk:k < l.length):∃ ad A0 n0 c0 A1 n1 c1,A=some ad/\ad.block < w.heap.size/\udx w (ad.add (k * 9)) l[k].d (.slice A0 n0 c0) (.slice A1 n1 c1)/\TrV w p l[k] (ndV l[k].d (.slice A0 n0 c0) (.slice A1 n1 c1)):=by
 obtain ⟨ad,s,K,e,hb,-,h1,h2⟩:=xdl.qt l A 0 h k hk;rw [pH] at h1;obtain ⟨A0,n0,c0,A1,c1,e2,-,-⟩:=h2.open_;unfold ndV at e2;simp only [rS,rX,ru,and_true,true_and] at e2;obtain ⟨rfl,rfl⟩:=e2;exact ⟨ad,A0,n0,c0,A1,_,c1,e,hb,h1,h2⟩
end
end Go.Proofs.YtheefiaoimbeiaaGreatDoor

namespace Go.Proofs.YtheefiaoimbeiaaGreatDoor
open Go.RowKit
mutual
def TrO (w : World) : Nat -> Nat -> Tr -> Value -> Prop
 | lo,hi,.mk d ks,v=>∃ s A c,v=ndV d s (.slice A ks.length c)/\zb1 w s d.ds/\ks.length<=c/\c<=9223372036854775807/\(ks=[]\/∃ b,A=some ⟨b,0,none⟩/\lo<=b/\b < hi/\b < w.heap.size/\(∀ o,w.frozen? ⟨b,o,none⟩=false)/\jdx w lo b ks b 0)
def jdx (w : World) : Nat -> Nat -> List Tr -> Nat -> Nat -> Prop
 | _,_,[],_,_=>True
 | lo,hi,t :: r,b,j=>∃ m s K,lo<=m/\m<=hi/\udx w ⟨b,j * 9,none⟩ t.d s K/\TrO w lo m t (ndV t.d s K)/\jdx w m hi r b (j+1)
end
section
variable {w w':World}
theorem udx.same {ad:Addr} {d:Nd} {s A:Value} (h:udx w ad d s A) (k0:w'.cell? ad=w.cell? ad) (k:∀ n,n < 9->w'.cell? ⟨ad.block,ad.off+n,none⟩=w.cell? ⟨ad.block,ad.off+n,none⟩):udx w' ad d s A:=by
 obtain ⟨h0,h1,h2,h3,h4,h5,h6,h7,h8⟩:=h;exact ⟨k0.trans h0,(k 1 (by omega)).trans h1,(k 2 (by omega)).trans h2,(k 3 (by omega)).trans h3,(k 4 (by omega)).trans h4,(k 5 (by omega)).trans h5,(k 6 (by omega)).trans h6,(k 7 (by omega)).trans h7,(k 8 (by omega)).trans h8⟩
theorem ves {a:Addr} (h:w'.heap[a.block]?=w.heap[a.block]?):w'.frozen? a=w.frozen? a:=by
 unfold World.frozen?; rw [h]
mutual
theorem TrO.ql (hs : w.heap.size <= w'.heap.size) (hn : ∀ v ds, zb1 w v ds -> zb1 w' v ds) : ∀ (t : Tr) (v : Value) (lo hi lo' hi' : Nat), lo' <= lo -> hi <= hi' -> (∀ i, lo <= i -> i < hi -> i < w.heap.size -> w'.heap[i]? = w.heap[i]?) -> TrO w lo hi t v -> TrO w' lo' hi' t v
 | .mk d ks,v,lo,hi,lo',hi',hl,hh,hc,h=>by
   unfold TrO at h ⊢;obtain ⟨s,A,c,e,h1,h2,h3,h4⟩:=h;refine ⟨s,A,c,e,hn _ _ h1,h2,h3,?_⟩;rcases h4 with h4 | ⟨b,eA,hb1,hb2,hb3,hf,h4⟩
   · exact .inl h4
   · exact .inr ⟨b,eA,by omega,by omega,by omega,fun o=>(ves (hc b hb1 hb2 hb3)).trans (hf o),jdx.ql hs hn ks b 0 lo b lo' b hl (pf _) (fun i h1 h2 h3=>hc i h1 (by omega) h3) (hc b hb1 hb2 hb3) h4⟩
theorem jdx.ql (hs : w.heap.size <= w'.heap.size) (hn : ∀ v ds, zb1 w v ds -> zb1 w' v ds) : ∀ (l : List Tr) (b j lo hi lo' hi' : Nat), lo' <= lo -> hi <= hi' -> (∀ i, lo <= i -> i < hi -> i < w.heap.size -> w'.heap[i]? = w.heap[i]?) -> w'.heap[b]? = w.heap[b]? -> jdx w lo hi l b j -> jdx w' lo' hi' l b j
 | [],b,j,lo,hi,lo',hi',hl,hh,hc,hb,h=>by unfold jdx; trivial
 | t :: r,b,j,lo,hi,lo',hi',hl,hh,hc,hb,h=>by
   unfold jdx at h ⊢;obtain ⟨m,s,K,h1,h2,h3,h4,h5⟩:=h;exact ⟨m,s,K,by omega,by omega,h3.same (ph hb) (fun n _=>ph hb),TrO.ql hs hn t _ lo m lo' m hl (pf _) (fun i h1 h2 h3=>hc i h1 (by omega) h3) h4,jdx.ql hs hn r b (j+1) m hi m hi' (pf _) hh (fun i h1 h2 h3=>hc i (by omega) h2 h3) hb h5⟩
end
theorem TrO.ext {t:Tr} {v:Value} {lo hi:Nat} (h:TrO w lo hi t v) (hx:Ext w w'):TrO w' lo hi t v:=TrO.ql hx.size (fun _ _ h=>h.ext hx) t v lo hi lo hi (pf _) (pf _) (fun i _ _ hi=>hx.below.block i hi) h
theorem TrO.mono {t:Tr} {v:Value} {lo hi lo' hi':Nat} (h:TrO w lo hi t v) (hl:lo'<=lo) (hh:hi<=hi'):TrO w lo' hi' t v:=TrO.ql (pf _) (fun _ _ h=>h) t v lo hi lo' hi' hl hh (fun i _ _ _=>rfl) h
mutual
theorem TrO.jm {p : Nat -> Prop} : ∀ (t : Tr) (v : Value) (lo hi : Nat), (∀ b, lo <= b -> b < hi -> p b) -> TrO w lo hi t v -> TrV w p t v
 | .mk d ks,v,lo,hi,hp,h=>by
   unfold TrO at h;unfold TrV;obtain ⟨s,A,c,e,h1,h2,h3,h4⟩:=h;refine ⟨s,A,c,e,h1,h2,h3,?_⟩;rcases h4 with rfl | ⟨b,rfl,hb1,hb2,hb3,-,h4⟩
   · unfold xdl; trivial
   · exact jdx.yR ks b 0 lo b (fun i h1 h2=>hp i h1 (by omega)) hb3 (hp b hb1 hb2) h4
theorem jdx.yR {p : Nat -> Prop} : ∀ (l : List Tr) (b j lo hi : Nat), (∀ i, lo <= i -> i < hi -> p i) -> b < w.heap.size -> p b -> jdx w lo hi l b j -> xdl w p l (some ⟨b, 0, none⟩) j
 | [],b,j,lo,hi,hp,hb,hpb,h=>by unfold xdl; trivial
 | t :: r,b,j,lo,hi,hp,hb,hpb,h=>by
   unfold jdx at h;unfold xdl;obtain ⟨m,s,K,h1,h2,h3,h4,h5⟩:=h;exact ⟨⟨⟨b,0,none⟩,s,K,rfl,hb,hpb,by rw [kdo,pH]; exact h3,TrO.jm t _ lo m (fun i h1 h2=>hp i h1 (by omega)) h4⟩,jdx.yR r b (j+1) m hi (fun i h1 h2=>hp i (by omega) h2) hb hpb h5⟩
end
theorem TrO.jC {t:Tr} {v:Value} {lo hi:Nat} (h:TrO w lo hi t v):TrV w (fun b=>lo<=b) t v:=TrO.jm t v lo hi (fun _ h _=>h) h
theorem TrO.open_ {t:Tr} {v:Value} {lo hi:Nat} (h:TrO w lo hi t v):∃ A0 n0 c0 A c,v=ndV t.d (.slice A0 n0 c0) (.slice A t.ks.length c)/\zb1 w (.slice A0 n0 c0) t.d.ds/\t.ks.length<=c/\c<=9223372036854775807/\(t.ks=[]\/∃ b,A=some ⟨b,0,none⟩/\lo<=b/\b < hi/\b < w.heap.size/\(∀ o,w.frozen? ⟨b,o,none⟩=false)/\jdx w lo b t.ks b 0):=by
 cases t with
 | mk d ks =>
   unfold TrO at h;obtain ⟨s,A,c,e,⟨A0,c0,rfl,hd⟩,h2,h3,h4⟩:=h;exact ⟨A0,_,c0,A,c,e,⟨A0,c0,rfl,hd⟩,h2,h3,h4⟩
theorem TrO.mk {t:Tr} {s:Value} {A:Option Addr} {c lo hi:Nat} (h1:zb1 w s t.d.ds) (h2:t.ks.length<=c) (h3:c<=9223372036854775807) (h4:t.ks=[]\/∃ b,A=some ⟨b,0,none⟩/\lo<=b/\b < hi/\b < w.heap.size/\(∀ o,w.frozen? ⟨b,o,none⟩=false)/\jdx w lo b t.ks b 0):TrO w lo hi t (ndV t.d s (.slice A t.ks.length c)):=by
 cases t with
 | mk d ks=>unfold TrO; exact ⟨s,A,c,rfl,h1,h2,h3,h4⟩
end
end Go.Proofs.YtheefiaoimbeiaaGreatDoor

namespace Go.Proofs.YtheefiaoimbeiaaGreatDoor
open Go.RowKit
def plV (p:Pl) (s A:Value):Value:=.agg #[.int .i64 p.lv,.bool p.neg,s,A]
def qdw (w:World) (ad:Addr) (p:Pl) (s A:Value):Prop:=
 w.cell? ad=some (.int .i64 p.lv)/\w.cell? ⟨ad.block,ad.off+1,none⟩=some (.bool p.neg)/\w.cell? ⟨ad.block,ad.off+2,none⟩=some s/\w.cell? ⟨ad.block,ad.off+3,none⟩=some A
mutual
def PlV (w : World) (q : Nat -> Prop) : Pl -> Value -> Prop
 | .mk l n d cs,v=>∃ s A c,v=.agg #[.int .i64 l,.bool n,s,.slice A cs.length c]/\zb1 w s d/\cs.length<=c/\c<=9223372036854775807/\jdk w q cs A 0
def jdk (w : World) (q : Nat -> Prop) : List Pl -> Option Addr -> Nat -> Prop
 | [],_,_=>True
 | t :: r,A,j=>(∃ ad s K,A=some ad/\ad.block < w.heap.size/\q ad.block/\qdw w (ad.add (j * 4)) t s K/\PlV w q t (plV t s K))/\jdk w q r A (j+1)
end
section
variable {w w':World} {p q:Nat->Prop}
theorem jdk.qt (l:List Pl):∀ (A:Option Addr) (j:Nat),jdk w p l A j->∀ i (h:i < l.length),∃ ad s K,A=some ad/\ad.block < w.heap.size/\p ad.block/\qdw w (ad.add ((j+i) * 4)) l[i] s K/\PlV w p l[i] (plV l[i] s K):=by
 induction l with
 | nil=>intro A j h i hi; simp at hi
 | cons t r ih =>
   intro A j h i hi;unfold jdk at h;cases i with
   | zero=>exact h.1
   | succ i =>
     have:=ih A (j+1) h.2 i (by simpa using hi);rw [show j+(i+1)=j+1+i by omega];exact this
theorem jdk.of (l:List Pl):∀ (A:Option Addr) (j:Nat),(∀ i (h:i < l.length),∃ ad s K,A=some ad/\ad.block < w.heap.size/\p ad.block/\qdw w (ad.add ((j+i) * 4)) l[i] s K/\PlV w p l[i] (plV l[i] s K))->jdk w p l A j:=by
 induction l with
 | nil=>intro A j h; unfold jdk; trivial
 | cons t r ih =>
   intro A j h;unfold jdk;refine ⟨h 0 (by simp),ih A (j+1) fun i hi=>?_⟩;have:=h (i+1) (by simpa using hi);rw [show j+(i+1)=j+1+i by omega] at this;exact this
theorem qdw.same {ad:Addr} {t:Pl} {s A:Value} (h:qdw w ad t s A) (k0:w'.cell? ad=w.cell? ad) (k:∀ n,n < 4->w'.cell? ⟨ad.block,ad.off+n,none⟩=w.cell? ⟨ad.block,ad.off+n,none⟩):qdw w' ad t s A:=by
 obtain ⟨h0,h1,h2,h3⟩:=h;exact ⟨k0.trans h0,(k 1 (by omega)).trans h1,(k 2 (by omega)).trans h2,(k 3 (by omega)).trans h3⟩
theorem qdw.ext {ad:Addr} {t:Pl} {s A:Value} (h:qdw w ad t s A) (hx:Ext w w') (hb:ad.block < w.heap.size):qdw w' ad t s A:=h.same (hx.cell hb) (fun n _=>hx.cell (p:=⟨ad.block,ad.off+n,none⟩) hb)
mutual
theorem PlV.ql (hs : w.heap.size <= w'.heap.size) (hn : ∀ v ds, zb1 w v ds -> zb1 w' v ds) (hc : ∀ b, b < w.heap.size -> p b -> q b /\ w'.heap[b]? = w.heap[b]?) : ∀ (t : Pl) (v : Value), PlV w p t v -> PlV w' q t v
 | .mk l n d cs,v,h=>by
   unfold PlV at h ⊢;obtain ⟨s,A,c,e,h1,h2,h3,h4⟩:=h;exact ⟨s,A,c,e,hn _ _ h1,h2,h3,jdk.ql hs hn hc cs A 0 h4⟩
theorem jdk.ql (hs : w.heap.size <= w'.heap.size) (hn : ∀ v ds, zb1 w v ds -> zb1 w' v ds) (hc : ∀ b, b < w.heap.size -> p b -> q b /\ w'.heap[b]? = w.heap[b]?) : ∀ (l : List Pl) (A : Option Addr) (j : Nat), jdk w p l A j -> jdk w' q l A j
 | [],A,j,h=>by unfold jdk; trivial
 | t :: r,A,j,h=>by
   unfold jdk at h ⊢;obtain ⟨⟨ad,s,K,e,hb,hpb,h1,h2⟩,h3⟩:=h;obtain ⟨hq,hk⟩:=hc _ hb hpb;exact ⟨⟨ad,s,K,e,pr hb hs,hq,h1.same (ph (by rw [zc1]; exact hk)) (fun n _=>ph (a:=⟨(ad.add (j * 4)).block,(ad.add (j * 4)).off+n,none⟩) (by show w'.heap[(ad.add (j * 4)).block]?=_; rw [zc1]; exact hk)),PlV.ql hs hn hc t _ h2⟩,jdk.ql hs hn hc r A (j+1) h3⟩
end
theorem PlV.qO {t:Pl} {v:Value} (hs:w.heap.size<=w'.heap.size) (hn:∀ v ds,zb1 w v ds->zb1 w' v ds) (hc:∀ b,b < w.heap.size->p b->q b/\w'.heap[b]?=w.heap[b]?) (h:PlV w p t v):PlV w' q t v:=PlV.ql hs hn hc t v h
theorem PlV.ext {t:Pl} {v:Value} (h:PlV w p t v) (hx:Ext w w'):PlV w' p t v:=PlV.ql hx.size (fun _ _ h=>h.ext hx) (fun b hb hp=>⟨hp,hx.below.block b hb⟩) t v h
theorem jdk.ext {l:List Pl} {A:Option Addr} {j:Nat} (h:jdk w p l A j) (hx:Ext w w'):jdk w' p l A j:=jdk.ql hx.size (fun _ _ h=>h.ext hx) (fun b hb hp=>⟨hp,hx.below.block b hb⟩) l A j h
theorem PlV.mono {t:Pl} {v:Value} (h:PlV w p t v) (hp:∀ b,p b->q b):PlV w q t v:=PlV.ql (pf _) (fun _ _ h=>h) (fun b _ h=>⟨hp b h,rfl⟩) t v h
theorem PlV.open_ {t:Pl} {v:Value} (h:PlV w p t v):∃ A0 n0 c0 A c,v=plV t (.slice A0 n0 c0) (.slice A t.cs.length c)/\zb1 w (.slice A0 n0 c0) t.ds/\t.cs.length<=c/\c<=9223372036854775807/\jdk w p t.cs A 0:=by
 cases t with
 | mk l n d cs =>
   unfold PlV at h;obtain ⟨s,A,c,e,⟨A0,c0,rfl,hd⟩,h2,h3,h4⟩:=h;exact ⟨A0,_,c0,A,c,e,⟨A0,c0,rfl,hd⟩,h2,h3,h4⟩
theorem PlV.mk {t:Pl} {s:Value} {A:Option Addr} {c:Nat} (h1:zb1 w s t.ds) (h2:t.cs.length<=c) (h3:c<=9223372036854775807) (h4:jdk w p t.cs A 0):PlV w p t (plV t s (.slice A t.cs.length c)):=by
 cases t with
 | mk l n d cs=>unfold PlV; exact ⟨s,A,c,rfl,h1,h2,h3,h4⟩
theorem jdk.kid {l:List Pl} {A:Option Addr} (h:jdk w p l A 0) (k:Nat) (hk:k < l.length):∃ ad A0 n0 c0 A1 n1 c1,A=some ad/\ad.block < w.heap.size/\qdw w (ad.add (k * 4)) l[k] (.slice A0 n0 c0) (.slice A1 n1 c1)/\PlV w p l[k] (plV l[k] (.slice A0 n0 c0) (.slice A1 n1 c1)):=by
 obtain ⟨ad,s,K,e,hb,-,h1,h2⟩:=jdk.qt l A 0 h k hk;rw [pH] at h1;obtain ⟨A0,n0,c0,A1,c1,e2,-,-⟩:=h2.open_;unfold plV at e2;simp only [rS,rX,ru,and_true,true_and] at e2;obtain ⟨rfl,rfl⟩:=e2;exact ⟨ad,A0,n0,c0,A1,_,c1,e,hb,h1,h2⟩
end
def jdm (w:World) (g:Nat) (p:Pl) (s A:Value):Prop:=
 w.cell? ⟨g,0,none⟩=some (.int .i64 p.lv)/\w.cell? ⟨g,1,none⟩=some (.bool p.neg)/\w.cell? ⟨g,2,none⟩=some s/\w.cell? ⟨g,3,none⟩=some A
theorem jdm.ql {w w':World} {g:Nat} {p:Pl} {s A:Value} (h:jdm w g p s A) (hb:w'.heap[g]?=w.heap[g]?):jdm w' g p s A:=by
 obtain ⟨h0,h1,h2,h3⟩:=h;have k:∀ i,w'.cell? ⟨g,i,none⟩=w.cell? ⟨g,i,none⟩:=fun i=>ph (a:=⟨g,i,none⟩) hb
 exact ⟨(k _).trans h0,(k _).trans h1,(k _).trans h2,(k _).trans h3⟩
theorem jdm.ext {w w':World} {g:Nat} {p:Pl} {s A:Value} (h:jdm w g p s A) (hx:Ext w w') (hg:g < w.heap.size):jdm w' g p s A:=h.ql (hx.below.block g hg)
theorem jdm.new (w:World) (p:Pl) (s A:Value) (T:TypeId):jdm (w.alloc (.cells #[.int .i64 p.lv,.bool p.neg,s,A] T)) w.heap.size p s A:=by
 refine ⟨?_,?_,?_,?_⟩ <;> simp [go_sem]
end Go.Proofs.YtheefiaoimbeiaaGreatDoor

namespace Go.Proofs.YtheefiaoimbeiaaGreatDoor
open Go.RowKit
section
variable {P:Program} {w:World}
theorem wpList_append_run {ops : Array Oper} {rest : List Oper} {o : Oper} {a : Act} {Q : Exit -> Act -> World -> Prop} (hgd : o.guard = none) (s x : Operand) (t t' : TypeId)
 (ho:o.op=.call { callee:=.builtin .append,args:=#[s,x],argTypes:=#[t,t'] }) (vs vx v':Value) (w':World) (hs:a.eval s=vs) (hx:a.eval x=vx) (hr:(Builtin.append_ #[t,t'] o.type #[vs,vx]).run P w=.ok v' w')
 (h:wpList P ops Q rest (a.put o.dst v') w'):wpList P ops Q (o :: rest) a w:=by
 refine wpList_plain hgd fun K hK=>?_
 unfold Oper.wp execOp;simp only [ho,resolve,invoke,builtin,Sem.run_bind,Sem.run_pure,Result.andThen_ok,List.map_toArray,rL,List.map_nil,hs,hx,hr];exact hK _ _ h
theorem jd2 {ops : Array Oper} {o : Oper} {a : Act} {K : Act -> World -> Prop} {Q : Exit -> Act -> World -> Prop} {E : Prop} (hg : o.guard = none) (s x : Operand) (t t' : TypeId)
 (hop:o.op=.call { callee:=.builtin .append,args:=#[s,x],argTypes:=#[t,t'] }) (vs vx v':Value) (w':World) (hs:a.eval s=vs) (hx:a.eval x=vx) (hr:(Builtin.append_ #[t,t'] o.type #[vs,vx]).run P w=.ok v' w')
 (hK:K (a.put o.dst v') w'):if Region.wanted o (yielded ops a.tmps)=true then Oper.wp P o a w K Q else E:=by
 have hw:Region.wanted o (yielded ops a.tmps)=true:=by simp [Region.wanted,hg]
 rw [if_pos hw];unfold Oper.wp;simp [execOp,hop,resolve,invoke,builtin,hs,hx,hr,Result.andThen];exact hK
end
end Go.Proofs.YtheefiaoimbeiaaGreatDoor

set_option maxRecDepth 100000
set_option maxHeartbeats 8000000
namespace Go.Proofs.YtheefiaoimbeiaaGreatDoor
open Go.RowKit
def xem (W:World) (v:Value):Prop:=∀ R cur T fr,v.ownBlock=some R->W.heap[R]?=some (.cells cur T fr)->∀ u ∈ cur.toList,wdo u=false
theorem kfi {W W':World} {v s:Value} {ds:List Nat} (h:zb1 W s ds) (hg:W.grownBy W' v.ownBlock) (hn:xem W v) (hr:∀ R,v.ownBlock=some R->∃ cur T fr,W.heap[R]?=some (.cells cur T fr)):zb1 W' s ds:=by
 obtain ⟨A,c,e,h1,h2,h3,h4⟩:=h;refine ⟨A,c,e,h1,h2,h3,fun hd=>?_⟩;obtain ⟨ad,e4,hlt,hc⟩:=h4 hd;refine ⟨ad,e4,pr hlt hg.size,fun j hj=>?_⟩;have hne:v.ownBlock ≠ some ad.block:=fun e=>by
  obtain ⟨cur,T,fr,hb⟩:=hr _ e;have h0:=hc 0 hd;rw [World.cell?,zc1,hb] at h0;have akI:∃ k:Nat,cur[k]?=some (.int .u32 (ds[0]:Nat)):=by
   revert h0
   simp only
   split <;> intro h0
   · cases h0
   · exact ⟨_,h0⟩
  obtain ⟨k,hk⟩:=akI;have:=hn _ _ _ _ e hb (.int .u32 (ds[0]:Nat)) (by
   obtain ⟨hk1,hk2⟩:=rA.1 hk
   rw [<- hk2]; simp)
  cases this
 exact (ph (a:=ad.add j) (by rw [zc1]; exact pW hg _ hlt (fun e=>hne e.symm))).trans (hc j hj)
theorem vfa {W:World} {base size n:Nat} {e:TypeId} {v:Value} {xs:List Value} (h:W.ownsRow base e size v n xs):∀ R,v.ownBlock=some R->∃ cur T fr,W.heap[R]?=some (.cells cur T fr):=by
 intro R hR;obtain ⟨-,⟨rfl,-⟩ | ⟨g,cap,cur,rfl,-,hg,-⟩⟩:=h
 · cases hR
 · have:g=R:=by simpa [Value.ownBlock] using hR
   subst this;exact ⟨cur,_,_,hg⟩
theorem xem.ext {W W':World} {v:Value} (h:xem W v) (hx:∀ R,v.ownBlock=some R->W'.heap[R]?=W.heap[R]?):xem W' v:=fun R cur T fr e hb=>h R cur T fr e ((hx R e).symm.trans hb)
structure vee (S T : TypeId) (k bytes : Nat) (Z : Value) : Prop where
 und:Tryz.prog.underlying S=some (.slice T)
 info:(Tryz.prog.info? T).map (fun i=>(i.zero,i.size,i.bytes))=some (some Z,k,bytes)
 cells:Z.cells.size=k
 pos:0 < k
 nodig:∀ u ∈ Z.cells.toList,wdo u=false
theorem ze9 {S T:TypeId} {k bytes:Nat} {Z:Value} (R:vee S T k bytes Z) (n:Nat):∀ u ∈ (Builtin.zeroCells Z.cells n).toList,wdo u=false:=by
 intro u hu;unfold Builtin.zeroCells at hu;simp only [Array.toList_map,sF] at hu;obtain ⟨i,-,rfl⟩:=hu;have hp:=R.pos;have hlt:i % Z.cells.size < Z.cells.size:=rN _ (by rw [R.cells]; exact hp);rw [getElem!_pos Z.cells (i % Z.cells.size) hlt];exact R.nodig _ (by simp)
def vdm (T k base:Nat) (W:World) (v:Value) (n:Nat) (xs:List Value):Prop:=W.ownsRow base T k v n xs/\xem W v
theorem vdm.nil (T k base:Nat) (W:World):vdm T k base W (.slice none 0 0) 0 []:=⟨World.ownsRow_nil _ _ _ _,fun R _ _ _ e=>by cases e⟩
section
variable {T k base base':Nat} {W W':World} {v:Value} {n:Nat} {xs:List Value}
theorem vdm.own (h:vdm T k base W v n xs) {R:Nat} (hR:v.ownBlock=some R):base<=R/\R < W.heap.size:=uO h.1 R hR
theorem vdm.len (h:vdm T k base W v n xs):∃ A c,v=.slice A n c/\n<=c/\c<=9223372036854775807:=by
 obtain ⟨h3,⟨rfl,h0⟩ | ⟨g,cap,cur,rfl,hb,hg,hc,hm,-⟩⟩:=h.1
 · exact ⟨none,0,by rw [h0],by omega,by omega⟩
 · exact ⟨some ⟨g,0,none⟩,cap,rfl,hc,by unfold maxLen at hm; omega⟩
theorem vdm.pos (h:vdm T k base W v n xs) (hn:0 < n):∃ g c,v=.slice (some ⟨g,0,none⟩) n c/\n<=c/\c<=9223372036854775807/\base<=g/\g < W.heap.size/\∀ i,W.frozen? ⟨g,i,none⟩=false:=by
 obtain ⟨h3,⟨rfl,h0⟩ | ⟨g,cap,cur,rfl,hb,hg,hc,hm,-⟩⟩:=h.1
 · omega
 · exact ⟨g,cap,rfl,hc,by unfold maxLen at hm; omega,hb,(rA.1 hg).1,fun i=>by simp [World.frozen?,hg]⟩
theorem vdm.ql (h:vdm T k base W v n xs) (hb:∀ R,v.ownBlock=some R->W'.heap[R]?=W.heap[R]?):vdm T k base W' v n xs:=by
 obtain ⟨⟨h1,h2⟩,h3⟩:=h;refine ⟨⟨h1,?_⟩,h3.ext hb⟩;rcases h2 with h2 | ⟨g,cap,cur,rfl,hbg,hg,h6⟩
 · exact .inl h2
 · exact .inr ⟨g,cap,cur,rfl,hbg,(hb g rfl).trans hg,h6⟩
theorem vdm.ext (h:vdm T k base W v n xs) (hx:Ext W W'):vdm T k base W' v n xs:=h.ql fun R hR=>hx.below.block R (h.own hR).2
theorem vdm.cell {g c:Nat} (h:vdm T k base W (.slice (some ⟨g,0,none⟩) n c) n xs) (j:Nat) (hj:j < n * k):W.cell? ⟨g,j,none⟩=xs[j]?:=World.ownsRow.cellAt h.1 j hj
end
theorem vdm.append {S T : TypeId} {k bytes : Nat} {Z : Value} (R : vee S T k bytes Z) {base : Nat} {W : World} {ov : Value} {n : Nat} {xs : List Value} (h : vdm T k base W ov n xs) (adW : base <= W.heap.size) (a : Addr) (m c : Nat) (news : List Value)
 (hnl:news.length=m * k) (hnc:∀ j u,news[j]?=some u->W.cell? (a.add j)=some u) (h1:∀ u ∈ news,u.oneCell'=true/\wdo u=false) (hm:0 < m) (hlen:(n+m) * bytes<=140737488355328) (hlen2:n+m<=140737488355328) (ty:TypeId) :
 ∃ v4 w4,(Builtin.append_ #[S,S] ty #[ov,.slice (some a) m c]).run Tryz.prog W=.ok v4 w4/\vdm T k base w4 v4 (n+m) (xs ++ news)/\W.grownBy w4 ov.ownBlock/\(∀ v ds,zb1 W v ds->zb1 w4 v ds)/\(v4.ownBlock=ov.ownBlock\/v4.ownBlock=some W.heap.size):=by
 obtain ⟨o1,hnd⟩:=h;obtain ⟨i0,hi,hz0,hz1,hz2⟩:=info_parts R.info;have hk:=R.pos;obtain ⟨v4,w4,ab3,r1,r2,-,r3⟩:=run_append_own_at (P:=Tryz.prog) W base S ty T i0 Z k bytes R.und hi hz0 hz1 hz2 R.cells hk ov n xs o1 a m c news hnl hnc (fun u hu=>(h1 u hu).1) (by unfold maxLen; omega) hlen adW;refine ⟨v4,w4,ab3,⟨r1,?_⟩,r2,fun v ds hv=>kfi hv r2 hnd (vfa o1),r3⟩;have fin:∀ (xs:List Value) (q:Nat) (w5:World) (l cap:Nat),(∀ u ∈ xs,wdo u=false)->w5.heap.size=W.heap.size->xem (w5.alloc (.cells (xs.toArray ++ news.toArray ++ Builtin.zeroCells Z.cells q) T)) (.slice (some ⟨W.heap.size,0,none⟩) l cap):=by
  intro xs q w5 l cap hxs h5 R' cur T' fr hR hb u hu;have hR':W.heap.size=R':=by simpa [Value.ownBlock] using hR
  rw [<- hR',<- h5,heap_alloc_new] at hb;injection hb with hb
  injection hb with hb
  rw [<- hb] at hu;simp only [Array.toList_append,rq] at hu;rcases hu with (hu | hu) | hu
  · exact hxs u hu
  · exact (h1 u hu).2
  · exact ze9 R q u hu
 have hold:∀ g cur,ov.ownBlock=some g->W.heap[g]?=some (.cells cur T (0,0))->∀ u ∈ cur.toList,wdo u=false:=fun g cur e hb=>hnd g cur _ _ e hb
 have alv:m<=m * bytes\/bytes=0:=by
  rcases rO bytes with h | h
  · exact .inr h
  · exact .inl (Nat.le_mul_of_pos_right _ h)
 rcases o1.2 with ⟨rfl,hn0⟩ | ⟨g,cap,cur,rfl,hbg,hg,axY,hcm,hcs,aqO⟩
 · subst hn0;have hr:=run_append_nil (P:=Tryz.prog) W S ty T i0 _ R.und hi hz0 a m c news (by rw [hz1]; exact hnl) hnc hm (by omega) (by rw [hz2]; rw [pH] at hlen; omega);rw [ab3] at hr;injection hr with e1 e2
   subst e1 e2;have:=fin [] (grownCap W m 0 T - m) W.drew m (grownCap W m 0 T) (by simp) rfl;simpa using this
 · by_cases anG:n+m<=cap
   · have agk:n * k+news.length<=cur.size:=by
      rw [hcs,hnl,<- pT];exact pE _ anG
     have hr:=run_append_room (P:=Tryz.prog) W S ty T i0 R.und hi g n cap cur hg a m c news (by rw [hz1]; exact hnl) hnc (fun u hu=>(h1 u hu).1) anG (by rw [hz1]; exact agk);rw [ab3] at hr;injection hr with e1 e2
     subst e1 e2;intro R' cur' T' fr hR hb u hu;have hR':g=R':=by simpa [Value.ownBlock] using hR
     rw [<- hR',setRow_heap W g cur _ _ _ hg] at hb;injection hb with hb
     injection hb with hb
     rw [<- hb] at hu;simp only [rq] at hu;rcases hu with (hu | hu) | hu
     · exact hold g cur rfl hg u (uP hu)
     · exact (h1 u hu).2
     · exact hold g cur rfl hg u (List.mem_of_mem_drop hu)
   · have hr:=run_append_grow (P:=Tryz.prog) W S ty T i0 _ R.und hi hz0 ⟨g,0,none⟩ n cap xs (by rw [hz1]; exact o1.1) (o1.cells (g:=g) rfl) a m c news (by rw [hz1]; exact hnl) hnc (by omega) (by omega) (growslice_fits (by omega) (by rw [hz2]; exact hlen));rw [ab3] at hr;injection hr with e1 e2
     subst e1 e2;exact fin xs _ W.drew _ _ (fun u hu=>hold g cur rfl hg u (uP (by rw [aqO]; exact hu))) rfl
theorem vdm.push {S T : TypeId} {k bytes : Nat} {Z : Value} (R : vee S T k bytes Z) {base : Nat} {W : World} {ov : Value} {n : Nat} {xs : List Value} (h : vdm T k base W ov n xs) (adW : base <= W.heap.size) (news : List Value)
 (hnl:news.length=k) (h1:∀ u ∈ news,u.oneCell'=true/\wdo u=false) (hlen:(n+1) * bytes<=140737488355328) (hlen2:n+1<=140737488355328) (ty:TypeId) :
 ∃ v4 w4,(Builtin.append_ #[S,S] ty #[ov,.slice (some ⟨W.heap.size,0,none⟩) 1 1]).run Tryz.prog (W.alloc (.cells news.toArray T))=.ok v4 w4/\vdm T k base w4 v4 (n+1) (xs ++ news)/\W.grownBy w4 ov.ownBlock/\(∀ v ds,zb1 W v ds->zb1 w4 v ds)/\(v4.ownBlock=ov.ownBlock\/v4.ownBlock=some (W.heap.size+1)):=by
 have hx:Ext W (W.alloc (.cells news.toArray T)):=(Ext.refl W).alloc _;obtain ⟨v4,w4,e,h2,h3,h4,h5⟩:=vdm.append R (h.ext hx) (by have:=hx.size; omega) ⟨W.heap.size,0,none⟩ 1 1 news (by omega) (fun j u hu=>by
  rw [kdo,pH,cell_of_row _ _ j _ _ (0,0) (heap_alloc_new W _)]; simpa using hu) h1 (by omega) hlen hlen2 ty
 refine ⟨v4,w4,e,h2,⟨h3.os.trans hx.below.os,h3.tape.trans hx.below.tape,h3.output.trans hx.below.output,po hx.size h3.size,fun i hi hne=>(pW h3 i (pr hi hx.size) hne).trans (hx.below.block i hi)⟩,fun v ds hv=>h4 v ds (hv.ext hx),?_⟩
 rwa [pU] at h5
section
variable {w w':World} {k:Option Nat} {x:Value} {z:Int}
end
section
variable {k:Option Nat} {base base':Nat} {W W':World} {v:Value} {l:Sp}
end
end Go.Proofs.YtheefiaoimbeiaaGreatDoor
