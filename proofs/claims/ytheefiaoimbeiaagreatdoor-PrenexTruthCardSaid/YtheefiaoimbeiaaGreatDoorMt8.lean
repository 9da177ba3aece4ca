/- The library's sort at terms: the kit's contract of slices.pdqsortCmpFunc laid at this program. (The lines of sortTm are those that the kit's laying command writes.) -/
import Derived.Test.YtheefiaoimbeiaaGreatDoorMt7
import Derived.Shelf.SlSortCmp.WholeK
import Derived.Test.YtheefiaoimbeiaaGreatDoorMt6
import Derived.Test.YtheefiaoimbeiaaGreatDoorMt5
import Derived.Deep.RegionLaw
import Derived.Test.YtheefiaoimbeiaaGreatDoorMt4
import Derived.Maps.AppendAt
import Derived.Test.YtheefiaoimbeiaaGreatDoorMt0
import Derived.OneCell
import Derived.RangeFuncBox
import Derived.Laws.StructEq
set_option linter.unusedSimpArgs false
set_option linter.unusedVariables false

namespace Go.Proofs.YtheefiaoimbeiaaGreatDoor
def zbv:Go.Shelf.Ren:=⟨fun | 14=>173 | 20=>182 | 21=>183 | 22=>184 | 23=>185 | 24=>186 | 25=>187 | 26=>188 | 27=>189 | 46=>196 | 47=>197 | 48=>198 | 49=>199 | 50=>200 | 15=>174 | 57=>203 | 28=>181 | 29=>190 | n=>n,fun | 24=>219 | 22=>204 | 3=>3 | 25=>239 | 4=>4 | 0=>0 | 46=>261 | 45=>260 | 50=>128 | 66=>272 | 39=>191 | 55=>155 | 70=>276 | 76=>278 | 77=>279 | 53=>108 | 5=>5 | 9=>9 | n=>n,fun | n=>n⟩
theorem xcw : Go.Proofs.SlLaysF0.n14 Tryz.prog zbv := {
 mixed:=by kernel_rfl,
 f14:=⟨Tryz.f173.name,by decide,Tryz.func173.trans (congrArg some (by kernel_rfl))⟩,
 f15:=Tryz.func174.trans (congrArg some (by kernel_rfl)),
 f20:=⟨Tryz.f182.name,by decide,Tryz.func182.trans (congrArg some (by kernel_rfl))⟩,
 f21:=⟨Tryz.f183.name,by decide,Tryz.func183.trans (congrArg some (by kernel_rfl))⟩,
 f22:=⟨Tryz.f184.name,by decide,Tryz.func184.trans (congrArg some (by kernel_rfl))⟩,
 f23:=⟨Tryz.f185.name,by decide,Tryz.func185.trans (congrArg some (by kernel_rfl))⟩,
 f24:=⟨Tryz.f186.name,by decide,Tryz.func186.trans (congrArg some (by kernel_rfl))⟩,
 f25:=⟨Tryz.f187.name,by decide,Tryz.func187.trans (congrArg some (by kernel_rfl))⟩,
 f26:=⟨Tryz.f188.name,by decide,Tryz.func188.trans (congrArg some (by kernel_rfl))⟩,
 f27:=⟨Tryz.f189.name,by decide,Tryz.func189.trans (congrArg some (by kernel_rfl))⟩,
 f28:=Tryz.func181.trans (congrArg some (by kernel_rfl)),
 f29:=Tryz.func190.trans (congrArg some (by kernel_rfl)),
 f46:=⟨Tryz.f196.name,by decide,Tryz.func196.trans (congrArg some (by kernel_rfl))⟩,
 f47:=Tryz.func197.trans (congrArg some (by kernel_rfl)),
 f48:=Tryz.func198.trans (congrArg some (by kernel_rfl)),
 f49:=⟨Tryz.f199.name,by decide,Tryz.func199.trans (congrArg some (by kernel_rfl))⟩,
 f50:=⟨Tryz.f200.name,by decide,Tryz.func200.trans (congrArg some (by kernel_rfl))⟩,
 f57:=⟨Tryz.f203.name,by decide,Tryz.func203.trans (congrArg some (by kernel_rfl))⟩,
 t0:=Tryz.underlying0,
 a0:=Tryz.isAgg0,
 z0:=Tryz.sizeOf0,
 v0:=Tryz.zeroValue0,
 t3:=Tryz.underlying3,
 a3:=Tryz.isAgg3,
 z3:=Tryz.sizeOf3,
 v3:=Tryz.zeroValue3,
 t4:=Tryz.underlying4,
 a4:=Tryz.isAgg4,
 z4:=Tryz.sizeOf4,
 v4:=Tryz.zeroValue4,
 t5:=Tryz.underlying5,
 a5:=Tryz.isAgg5,
 z5:=Tryz.sizeOf5,
 v5:=Tryz.zeroValue5,
 t9:=Tryz.underlying9,
 a9:=Tryz.isAgg9,
 z9:=Tryz.sizeOf9,
 v9:=Tryz.zeroValue9,
 t22:=Tryz.underlying204,
 a22:=Tryz.isAgg204,
 z22:=Tryz.sizeOf204,
 v22:=Tryz.zeroValue204,
 t25:=Tryz.underlying239,
 a25:=Tryz.isAgg239,
 z25:=Tryz.sizeOf239,
 v25:=Tryz.zeroValue239,
 t39:=Tryz.underlying191,
 a39:=Tryz.isAgg191,
 z39:=Tryz.sizeOf191,
 v39:=Tryz.zeroValue191,
 t45:=Tryz.underlying260,
 a45:=Tryz.isAgg260,
 z45:=Tryz.sizeOf260,
 v45:=Tryz.zeroValue260,
 t46:=Tryz.underlying261,
 a46:=Tryz.isAgg261,
 z46:=Tryz.sizeOf261,
 v46:=Tryz.zeroValue261,
 t50:=Tryz.underlying128,
 a50:=Tryz.isAgg128,
 z50:=Tryz.sizeOf128,
 v50:=Tryz.zeroValue128,
 t53:=Tryz.underlying108,
 a53:=Tryz.isAgg108,
 z53:=Tryz.sizeOf108,
 v53:=Tryz.zeroValue108,
 t55:=Tryz.underlying155,
 a55:=Tryz.isAgg155,
 z55:=Tryz.sizeOf155,
 v55:=Tryz.zeroValue155,
 t66:=Tryz.underlying272,
 a66:=Tryz.isAgg272,
 z66:=Tryz.sizeOf272,
 v66:=Tryz.zeroValue272,
 t70:=Tryz.underlying276,
 a70:=Tryz.isAgg276,
 z70:=Tryz.sizeOf276,
 v70:=Tryz.zeroValue276,
 t76:=Tryz.underlying278,
 a76:=Tryz.isAgg278,
 z76:=Tryz.sizeOf278,
 v76:=Tryz.zeroValue278,
 t77:=Tryz.underlying279,
 a77:=Tryz.isAgg279,
 z77:=Tryz.sizeOf279,
 v77:=Tryz.zeroValue279 }
end Go.Proofs.YtheefiaoimbeiaaGreatDoor

/- The library's sort at terms: slices.SortFunc with the order of (*gather).poly: descending monomials. -/
namespace Go.Proofs.YtheefiaoimbeiaaGreatDoor
open Go.RowKit Go.Sort Go.Shelf
structure TmE where
 neg:Bool
 A:Option Addr
 n:Nat
 c:Nat
 z:Int
 mo:Mo
instance:Inhabited TmE:=⟨⟨false,none,0,0,0,Mo.one⟩⟩
end Go.Proofs.YtheefiaoimbeiaaGreatDoor

/- Layer 20: newGather, (*gather).poly. -/
namespace Go.Proofs.YtheefiaoimbeiaaGreatDoor
open Go.RowKit
def nz (l:Sp):Sp:=l.filter fun x=>decide (x.1 ≠ 0)
end Go.Proofs.YtheefiaoimbeiaaGreatDoor

/- Layer 20: sparse.Normal. -/
namespace Go.Proofs.YtheefiaoimbeiaaGreatDoor
open Go.RowKit
end Go.Proofs.YtheefiaoimbeiaaGreatDoor

/- Layer 22: recpoly.build. -/
namespace Go.Proofs.YtheefiaoimbeiaaGreatDoor
open Go.RowKit
end Go.Proofs.YtheefiaoimbeiaaGreatDoor

/- Layer 22: recpoly.collect. -/
namespace Go.Proofs.YtheefiaoimbeiaaGreatDoor
open Go.RowKit
end Go.Proofs.YtheefiaoimbeiaaGreatDoor

/- Layer 22: recpoly.collect: the loop, once for each level; the whole. -/
namespace Go.Proofs.YtheefiaoimbeiaaGreatDoor
open Go.RowKit
end Go.Proofs.YtheefiaoimbeiaaGreatDoor

/- Layer 22: recpoly.canonical, Normal. -/
set_option maxRecDepth 100000
set_option maxHeartbeats 8000000
namespace Go.Proofs.YtheefiaoimbeiaaGreatDoor
open Go.RowKit
mutual
theorem PlV.dig {w : World} {q : Nat -> Prop} : ∀ (p : Pl) (v : Value), PlV w q p v -> p.dig
 | .mk l n d cs,v,h=>by
   unfold PlV at h;obtain ⟨s,A,c,e,h1,h2,h3,h4⟩:=h;unfold Pl.dig;exact ⟨h1.digs,jf.dig cs A 0 h4⟩
theorem jf.dig {w : World} {q : Nat -> Prop} : ∀ (cs : List Pl) (A : Option Addr) (j : Nat), jf w q cs A j -> xag cs
 | [],A,j,h=>by unfold xag; trivial
 | c :: r,A,j,h=>by
   unfold jf at h;obtain ⟨⟨ad,s,K,e,hb,hq,h1,h2⟩,h3⟩:=h;unfold xag;exact ⟨PlV.dig c _ h2,jf.dig r A (j+1) h3⟩
end
theorem yab {w:World} {q:Nat->Prop} {p:Pl} (v:Value) (h:PlV w q p v) (hp:p.Can):Calls Tryz.prog 97 #[v] w (ji (fun b=>q b\/w.heap.size<=b) p w):=by
 have hdig:=h.dig;obtain ⟨A0,n0,c0,A,c,rfl,hnat,hl1,hl2,h4⟩:=h.open_;obtain ⟨W,hW⟩:=n_m ((w.alloc (.cells #[.int .i64 p.lv,.bool p.neg,.slice A0 n0 c0,.slice A p.cs.length c] 44)).alloc (.cells #[.int .i64 0,.bool false,.slice none 0 0,.slice none 0 0] 44));have hWx:Ext w W:=by rw [<- hW]; exact ((Ext.refl w).alloc _).alloc _
 have hWs:W.heap.size=w.heap.size+1+1:=by rw [<- hW]; simp
 have hbx:ql W w.heap.size p (.slice A0 n0 c0) (.slice A p.cs.length c):=by rw [<- hW]; exact (ql.new w p _ _ _).ext ((Ext.refl _).alloc _) (by simp)
 have hz:yh W (w.heap.size+1):=by
  have:=yh.new (w.alloc (.cells #[.int .i64 p.lv,.bool p.neg,.slice A0 n0 c0,.slice A p.cs.length c] 44)) 44;rw [hW] at this;simpa using this
 obtain ⟨b0,b1,b2,b3⟩:=id hbx;have hpl0:PlV w (fun b=>q b/\b < w.heap.size) p (plV p (.slice A0 n0 c0) (.slice A p.cs.length c)):=PlV.turn_ (Nat.le_refl _) (fun _ _ h=>h) (fun b hb hq=>⟨⟨hq,hb⟩,rfl⟩) h;have HPL:=Lib.hid hpl0;have HWX:=Lib.hid hWx;have HBX:=Lib.hid hbx;have HZ:=Lib.hid hz;have HCN:=Lib.hid ((Pl.isCan_iff p hdig).2 hp);clear h hnat h4 hWx hbx hz hpl0 hdig hp;unfold plV;go_enter Tryz.func97,Tryz.ntmps97;go_wp2_with fail;clear hW b0 b1 b2 b3;refine (jb6 p _ (HPL.out.ext HWX.out)).mono ?_;rw [HCN.out];rintro e w1 ⟨rfl,x1⟩;obtain ⟨b0,b1,b2,b3⟩:=HBX.out.ext x1 (by omega);have hs1:=x1.size;have X1:=Lib.hid (HWX.out.trans x1);have HZ1:=Lib.hid (HZ.out.ext x1 (by omega));clear x1;have HF:=Lib.hid (qi (q':=fun b=>q b\/w.heap.size<=b) X1.out (Nat.le_succ _) HZ1.out (HPL.out.ext X1.out) (fun b _ hb=>⟨by omega,.inl hb.1⟩));obtain ⟨⟨z0,z1,z2,z3⟩,zf⟩:=HZ1.out;clear HZ1 HPL HCN;go_wp2_with fail;exact bodyPost_ret (v:=plV p (.slice A0 n0 c0) (.slice A p.cs.length c)) (by simp [results,Tryz.results97,go_sem,z0,z1,z2,z3,plV]) rfl HF.out
end Go.Proofs.YtheefiaoimbeiaaGreatDoor

/- recpoly.Normal at polynomials that are canonical, of any size. -/
set_option maxRecDepth 100000
set_option maxHeartbeats 8000000
namespace Go.Proofs.YtheefiaoimbeiaaGreatDoor
open Go.RowKit
theorem zbw {w:World} {q:Nat->Prop} (p P:Pl) (v:Value) (h:PlV w q p v) (hca:∀ W,Ext w W->Calls Tryz.prog 97 #[v] W (ji (fun b=>q b\/W.heap.size<=b) P W)) (hcan:P.Can) (hnf:P.sz<=1099511627776) (hdm2:P.dm<=35184372088832):Calls Tryz.prog 124 #[v] w (ji (fun b=>w.heap.size<=b) P w):=by
 have HH:=Lib.hid h;obtain ⟨A0,n0,c0,A,c,rfl,hnat,hl1,hl2,h4⟩:=h.open_;obtain ⟨W,hW⟩:=n_m ((w.alloc (.cells #[.int .i64 p.lv,.bool p.neg,.slice A0 n0 c0,.slice A p.cs.length c] 44)).alloc (.cells #[.int .i64 0,.bool false,.slice none 0 0,.slice none 0 0] 44));have hWx:Ext w W:=by rw [<- hW]; exact ((Ext.refl w).alloc _).alloc _
 have hWs:W.heap.size=w.heap.size+1+1:=by rw [<- hW]; simp
 obtain ⟨b0,b1,b2,b3⟩:ql W w.heap.size p (.slice A0 n0 c0) (.slice A p.cs.length c):=by rw [<- hW]; exact (ql.new w p _ _ _).ext ((Ext.refl _).alloc _) (by simp)
 have hz:yh W (w.heap.size+1):=by
  have:=yh.new (w.alloc (.cells #[.int .i64 p.lv,.bool p.neg,.slice A0 n0 c0,.slice A p.cs.length c] 44)) 44;rw [hW] at this;simpa using this
 have HWX:=Lib.hid hWx;have HZ:=Lib.hid hz;have HCA:=Lib.hid hca;clear h hnat h4 hWx hz hca;have HCAN:=Lib.hid hcan;clear hcan;unfold plV at *;go_enter Tryz.func124,Tryz.ntmps124;go_wp2_with fail;clear hW b0 b1 b2 b3;refine (HCA.out _ HWX.out).mono ?_;rintro e w1 ⟨v1,rfl,p1,x1⟩;have HC:=Lib.hid (jap P v1 HCAN.out hnf (by omega) p1);obtain ⟨C0,j0,f0,C1,f1,rfl,-⟩:=id p1.open_;have X1:=Lib.hid (HWX.out.trans x1);have HZ1:=Lib.hid (HZ.out.ext x1 (by omega));have hs1:=x1.size;clear p1 x1;unfold plV at *;go_wp2_with fail;refine HC.out.mono ?_;rintro e w2 ⟨v2,rfl,p2,x2⟩;obtain ⟨D0,j1,g0,D1,g1,rfl,-⟩:=id p2.open_;obtain ⟨⟨z0,z1,z2,z3⟩,zf⟩:=HZ1.out.ext x2 (by omega);have HF:=Lib.hid (qi (q':=fun b=>w.heap.size<=b) (X1.out.trans x2) (Nat.le_succ _) (HZ1.out.ext x2 (by omega)) p2 (fun b _ hb=>⟨by omega,by omega⟩));clear p2 x2 HC HZ1;unfold plV;go_wp2_with fail;exact bodyPost_ret (v:=plV P (.slice D0 j1 g0) (.slice D1 P.cs.length g1)) (by simp [results,Tryz.results124,go_sem,z0,z1,z2,z3,plV]) rfl HF.out
theorem zbp {w:World} {q:Nat->Prop} {p:Pl} (v:Value) (h:PlV w q p v) (hp:p.Can) (hsz:p.sz<=1099511627776) (hdm:p.dm<=35184372088832):Calls Tryz.prog 124 #[v] w (ji (fun b=>w.heap.size<=b) p w):=
 zbw p p v h (fun W hW=>yab v (h.ext hW) hp) hp hsz hdm
def wc0 (p:Pl):Prop:=p.sz<=1099511627776/\p.nf.sz<=1099511627776/\∀ (w:World) (q:Nat->Prop) (v:Value),PlV w q p v->Calls Tryz.prog 124 #[v] w (ji (fun b=>w.heap.size<=b) p.nf w)
theorem jck {p:Pl} (hc:p.Can) (h:p.sz<=1099511627776) (hd:p.dm<=1099511627776):wc0 p:=⟨h,by rw [Pl.nf_of_can hc]; exact h,fun _ _ v hv=>by rw [Pl.nf_of_can hc]; exact zbp v hv hc h (by omega)⟩
end Go.Proofs.YtheefiaoimbeiaaGreatDoor

/- Matrices: what holds of every polynomial in them; matrices that are not too big. -/
namespace Go.Proofs.YtheefiaoimbeiaaGreatDoor
open Go.RowKit
mutual
def Mx.each (P : Pl -> Prop) : Mx -> Prop
 | .mk _ _ p ks=>P p/\war P ks
def war (P : Pl -> Prop) : List Mx -> Prop
 | []=>True
 | t :: r=>t.each P/\war P r
end
theorem wbe {P:Pl->Prop} {l:List Mx} {t:Mx} (h:war P l) (ht:t ∈ l):t.each P:=by
 induction l with
 | nil=>cases ht
 | cons x r ih =>
   rw [war] at h;rcases List.mem_cons.1 ht with rfl | ht
   · exact h.1
   · exact ih h.2 ht
theorem Mx.each_ks {P:Pl->Prop} {t:Mx} (h:t.each P):war P t.ks:=by cases t; rw [Mx.each] at h; exact h.2
theorem Mx.each_p {P:Pl->Prop} {t:Mx} (h:t.each P):P t.p:=by cases t; rw [Mx.each] at h; exact h.1
mutual
theorem Mx.each_mono {P Q : Pl -> Prop} (hq : ∀ p, P p -> Q p) : ∀ t : Mx, t.each P -> t.each Q
 | .mk _ _ p ks,h=>by rw [Mx.each] at h ⊢; exact ⟨hq p h.1,za9 hq ks h.2⟩
theorem za9 {P Q : Pl -> Prop} (hq : ∀ p, P p -> Q p) : ∀ l : List Mx, war P l -> war Q l
 | [],_=>by rw [war]; trivial
 | t :: r,h=>by rw [war] at h ⊢; exact ⟨Mx.each_mono hq t h.1,za9 hq r h.2⟩
end
end Go.Proofs.YtheefiaoimbeiaaGreatDoor

/- Reference 38: Normal: a matrix in normal form. -/
namespace Go.Proofs.YtheefiaoimbeiaaGreatDoor
open Go.RowKit
def yal (r:Int):Int:=if r < 1\/6 < r then 3 else r
theorem Mx.kid_le (t:Mx) (k:Nat) (hk:k < t.ks.length):t.ks[k].sz < t.sz:=by
 cases t with
 | mk kd r p ks=>have:=ucf (l:=ks) (List.getElem_mem hk); simp only [Mx.sz,Mx.ks] at *; omega
theorem Mx.ks_len (t:Mx):t.ks.length < t.sz:=by
 cases t with
 | mk kd r p ks=>have:=gcf ks; simp only [Mx.sz,Mx.ks] at *; omega
theorem ycy (W:World) (q:Nat->Prop) (k r:Int):MxV W q (.mk k r Pl.zero []) (mxV (.mk k r Pl.zero []) (.slice none 0 0) (.slice none 0 0) (.slice none 0 0)):=
 MxV.mk (t:=.mk k r Pl.zero []) (c:=0) (Pl.zero_v W q none 0 (by omega)) (by simp [Mx.ks]) (by omega) (by unfold Mx.ks qac; trivial)
end Go.Proofs.YtheefiaoimbeiaaGreatDoor

/- Layer 34: formula.Bound: the names of the quantifiers. -/
set_option maxRecDepth 100000
set_option maxHeartbeats 8000000
namespace Go.Proofs.YtheefiaoimbeiaaGreatDoor
open Go.RowKit
attribute [local go_sem] xaa xy gaa zaa kaa jaa yaa yt qy qaa uaa yad qm vaa ut
theorem Ext.grownN {w w':World} (hx:Ext w w'):w.grownBy w' none:=⟨hx.below.os,hx.below.tape,hx.below.output,hx.size,fun k hk _=>hx.below.block k hk⟩
def ownB (v:Value):Nat->Prop:=fun i=>v.ownBlock=some i
def strs (l:List ByteArray):List Value:=l.map Value.string
theorem uau (l:List ByteArray) (s:ByteArray):strs (l ++ [s])=strs l ++ [.string s]:=by simp [strs]
def jh (w:World) (base:Nat) (v:Value) (l:List ByteArray):Prop:=w.ownsRow base 9 1 v l.length (strs l)
theorem jh.nil (w:World) (base:Nat):jh w base (.slice none 0 0) []:=World.ownsRow_nil w base _ _
theorem jh.ext {w w':World} {base:Nat} {v:Value} {l:List ByteArray} (h:jh w base v l) (hx:Ext w w'):jh w' base v l:=
 World.ownsRow.kept h (row:=none) hx.grownN (by cases hv:v.ownBlock <;> simp)
theorem jh.lt {w:World} {base:Nat} {v:Value} {l:List ByteArray} (h:jh w base v l):∀ k,v.ownBlock=some k->base<=k/\k < w.heap.size:=World.ownsRow.lt h
theorem yf.of_append {w w':World} {v v':Value} (hg:w.grownBy w' v.ownBlock) (ha:v'.ownBlock=v.ownBlock\/v'.ownBlock=some w.heap.size):yf (ownB v) w (ownB v') w':=
 ⟨World.grownBy.os hg,World.grownBy.tape hg,World.grownBy.output hg,World.grownBy.size hg,fun i hi hn=>World.grownBy.block hg i hi (fun e=>hn e.symm),fun i hi ho=>by
   unfold ownB at ho ⊢;rcases ha with h | h
   · rw [<- h]; exact ho
   · rw [h] at ho; injection ho with e; omega⟩
theorem ybx {w:World} {g:Nat} {x:Value} (h:w.cell? ⟨g,0,none⟩=some x):∀ j u,[x][j]?=some u->w.cell? ((⟨g,0,none⟩:Addr).add j)=some u:=by
 intro j u hu;cases j with
 | zero=>simp at hu; rw [yx,<- hu]; exact h
 | succ j=>simp at hu
def Fm.bound : Fm -> List ByteArray
 | .truth _=>[]
 | .atom _ _ _=>[]
 | .not f=>f.bound
 | .and f g=>f.bound ++ g.bound
 | .or f g=>f.bound ++ g.bound
 | .imp f g=>f.bound ++ g.bound
 | .iff f g=>f.bound ++ g.bound
 | .quant _ s f=>s :: f.bound
def kz (l:List Fm):List ByteArray:=l.flatMap Fm.bound
theorem qaz (l:List Fm) (k:Nat) (h:k < l.length):kz (l.take (k+1))=kz (l.take k) ++ (l[k]).bound:=by
 unfold kz;rw [List.take_succ_eq_append_getElem h,List.flatMap_append,List.flatMap_singleton]
def Fm.isQuant : Fm -> Bool
 | .quant _ _ _=>true
 | _=>false
theorem Fm.bound_kids (t:Fm) (h:t.isQuant=false):t.bound=kz t.kids:=by
 cases t <;> simp_all [Fm.bound,Fm.kids,kz,Fm.isQuant]
theorem FmV.notQuant {w:World} {L:Nat} {t:Fm} {v:Value} (h:FmV w L t v) (hn:t.isQuant=false):∃ T x,v=.iface T x/\¬ T=79:=by
 cases t <;> (simp only [FmV] at h) <;> first | (cases hn; done) | exact ⟨_,_,h,by decide⟩ | (obtain ⟨_,e,_⟩:=h; exact ⟨_,_,e,by decide⟩) | (obtain ⟨_,_,e,_⟩:=h; exact ⟨_,_,e,by decide⟩)
theorem ua0 (l:List Fm) (h:∀ f ∈ l,f.bound.length<=f.sz):(kz l).length<=ul l:=by
 induction l with
 | nil=>simp [kz,ul]
 | cons f r ih =>
   have h1:=ih (fun g hg=>h g (List.mem_cons_of_mem _ hg));have h2:=h f List.mem_cons_self;simp only [kz,ul,List.flatMap_cons,List.length_append,List.map_cons,List.sum_cons] at *;omega
theorem Fm.bound_len (t:Fm):t.bound.length<=t.sz:=by
 induction t <;> simp [Fm.bound,Fm.sz] <;> omega
def qb9 (base:Nat) (l:List ByteArray) (W:World) (s:Value) (e:Ending) (W':World):Prop:=∃ s',e=.returned s'/\jh W' base s' l/\yf (ownB s) W (ownB s') W'
theorem yay:(Tryz.prog.info? 9).map (fun i=>(i.zero,i.size,i.bytes))=some (some (.string ByteArray.empty),1,16):=by kernel_rfl
theorem kba {w0:World} {L base:Nat} (n:Nat) :
 ∀ (t:Fm) (v:Value),t.sz < n->FmV w0 L t v->∀ (W:World) (s:Value) (l:List ByteArray),jh W base s l->base<=W.heap.size->l.length+t.sz<=1099511627776 ->
 Calls Tryz.prog 61 #[v,s] W (qb9 base (l ++ t.bound) W s):=by
 induction n with
 | zero=>intro t v ht; omega
 | succ n ih =>
 intro t v ht h W s l hR hb hl;have IH:=Lib.hid ih;have HR:=Lib.hid hR;have H:=Lib.hid h;clear ih hR;obtain ⟨i0,hi,hz0,hz1,hz2⟩:=info_parts yay;have HI0:Hid (Tryz.prog.info? 9=some i0/\i0.zero=some (.string ByteArray.empty)/\i0.size=1/\i0.bytes=16):=by
  have:Tryz.prog.info? 9=some i0/\i0.zero=some (.string ByteArray.empty)/\i0.size=1/\i0.bytes=16:=⟨hi,hz0,hz1,hz2⟩;exact this
 clear hi hz0 hz1 hz2
 by_cases hn:t.isQuant=true
 · cases t with
   | quant al q f =>
     obtain ⟨x,rfl,hx⟩:=h;obtain ⟨T,x,rfl⟩:=hx.iface;clear hx;have hl1:l.length+(f.sz+1)<=1099511627776:=hl;go_enter Tryz.func61,Tryz.ntmps61
     go_wp2_with (at_builtin
                  refine wpList_append_own_at _ rfl (.tmp 15) (.tmp 18) _ rfl base 9 i0 (.string ByteArray.empty) 1 16 Tryz.underlying34 HI0.out.1 HI0.out.2.1 HI0.out.2.2.1 HI0.out.2.2.2 rfl (by omega) _ l.length (strs l) rfl (World.ownsRow.alloc (World.ownsRow.alloc HR.out _) _) ⟨W.heap.size+1,0,none⟩ 1 1 [.string q] rfl rfl (ybx ?_) ?_ ?_ ?_ ?_ ?_)
     · simp [go_sem]
     · simp [Value.oneCell']
     · unfold maxLen; omega
     · omega
     · simp; omega
     · intro v' w1 hown' hg' _ hat';have hr1:jh w1 base v' (l ++ [q]):=by
        unfold jh;rw [uau]; simpa using hown'
       have hk1:yf (ownB s) W (ownB v') w1:=(yf.of_ext (((Ext.refl W).alloc _).alloc _)).trans (yf.of_append hg' (by simpa using hat'));have HR1:=Lib.hid hr1;have HK1:=Lib.hid hk1;have HLT1:=Lib.hid hr1.lt;have hw1:=hk1.size;clear hown' hg' hat' hr1 hk1;go_wp2_with fail;refine (yae (Fm.quant al q f) H.out).mono ?_;rintro e w2 ⟨s2,rfl,hs,hf,hx⟩;obtain ⟨ks,hks⟩:=n_m ((Fm.quant al q f).kids);rw [hks] at hs;have HKS:=Lib.hid hks;have hlen:ks.length<=2:=by rw [<- hks]; exact Fm.kids_len _
       clear hks;obtain ⟨A,c,rfl⟩:=hs.len;have HS:=Lib.hid hs;have HF:=Lib.hid hf;have HX:=Lib.hid hx;have hw2:=hx.size;clear hs hf hx;go_wp2_with fail
       go_loopw [1,23] (fun lv iv wr=>∃ k:Nat,k<=ks.length/\iv=.int .i64 k/\Hid (jh wr base lv (l ++ [q] ++ kz (ks.take k))/\yf (ownB v') w2 (ownB lv) wr)) (fun _ iv _=>ks.length - (intOf iv).toNat)
       case atStart=>exact ⟨0,Nat.zero_le _,rfl,⟨by simpa [kz] using HR1.out.ext HX.out,yf.refl _ _⟩⟩
       case round =>
        obtain ⟨k,hk,rfl,⟨hR',hk'⟩⟩:=hrel;have HR':=Lib.hid hR';have HK':=Lib.hid hk';have hw':=hk'.size;clear hR' hk'
        by_cases hlt:k < ks.length
        · obtain ⟨ad,y,rfl,hc,hp⟩:=SlR.get_ (SlR.keeps HS.out HK'.out (fun ad n c e=>fun ho=>by
           have h1:=HF.out ad n c e;have h2:=(HLT1.out _ ho).2
           omega)) k hlt
          have HP:=Lib.hid hp;obtain ⟨U,y,rfl⟩:=hp.iface;clear hp;have hkl:ks[k].sz < (Fm.quant al q f).sz:=Fm.kids_lt _ _ (by rw [HKS.out]; exact List.getElem_mem hlt);have HLE:Hid ((l ++ [q] ++ kz (ks.take k)).length+ks[k].sz<=1099511627776):=by
           have h1:=ua0 (ks.take k) (fun g _=>g.bound_len);have h2:ul (ks.take k)+ks[k].sz<=ul ks:=by
            have e1:ul (ks.take (k+1))=ul (ks.take k)+ks[k].sz:=by
             unfold ul; rw [List.take_succ_eq_append_getElem hlt,List.map_append,List.sum_append,List.map_singleton,List.sum_singleton]
            have e2:ul ks=ul (ks.take (k+1))+ul (ks.drop (k+1)):=by
             unfold ul; rw [<- List.sum_append,<- List.map_append,List.take_append_drop]
            omega
           have h3:=uar (Fm.quant al q f);rw [HKS.out] at h3;have:(l ++ [q] ++ kz (ks.take k)).length+ks[k].sz<=1099511627776:=by
            simp only [List.length_append,List.length_cons,List.length_nil];omega
           exact this
          go_wp2_with fail;refine (IH.out (ks[k]) _ (by omega) HP.out _ _ _ HR'.out (by omega) HLE.out).mono ?_;rintro e w3 ⟨s3,rfl,hR3,hk3⟩;have HR3:=Lib.hid hR3;have HK3:=Lib.hid hk3;clear hR3 hk3 hc;go_wp2_with fail
          go_roundw
          case rel=>exact ⟨k+1,by omega,by go_num,⟨by rw [qaz _ _ hlt,<- List.append_assoc]; exact HR3.out,HK'.out.trans HK3.out⟩⟩
          case measure=>simp [intOf]; omega
        · have HKE:Hid (k=ks.length):=by
           have:k=ks.length:=by omega
           exact this
          go_wp2_with fail;go_ret;refine ⟨_,rfl,?_,(HK1.out.trans (yf.of_ext HX.out)).trans HK'.out⟩;have:=HR'.out;rw [HKE.out,List.take_length,<- HKS.out] at this;simpa [Fm.bound,Fm.kids,kz] using this
   | _=>simp [Fm.isQuant] at hn
 · have HN:Hid (t.isQuant=false):=by
    have:t.isQuant=false:=by simpa using hn
    exact this
   obtain ⟨T,x,rfl,hT⟩:=h.notQuant HN.out;clear h hn;have hlen:=t.kids_len;have HLT:=Lib.hid HR.out.lt;go_enter Tryz.func61,Tryz.ntmps61;go_wp2_with fail;refine (yae t H.out).mono ?_;rintro e w2 ⟨s2,rfl,hs,hf,hx⟩;obtain ⟨A,c,rfl⟩:=hs.len;have HX:Hid (Ext W w2):=by
    have:Ext W w2:=((Ext.refl W).alloc _).trans hx;exact this
   have HS:=Lib.hid hs;have HF:=Lib.hid hf;have hw2:=HX.out.size;clear hs hf hx;go_wp2_with fail
   go_loopw [1,23] (fun lv iv wr=>∃ k:Nat,k<=t.kids.length/\iv=.int .i64 k/\Hid (jh wr base lv (l ++ kz (t.kids.take k))/\yf (ownB s) w2 (ownB lv) wr)) (fun _ iv _=>t.kids.length - (intOf iv).toNat)
   case atStart=>exact ⟨0,Nat.zero_le _,rfl,⟨by simpa [kz] using HR.out.ext HX.out,yf.refl _ _⟩⟩
   case round =>
    obtain ⟨k,hk,rfl,⟨hR',hk'⟩⟩:=hrel;have HR':=Lib.hid hR';have HK':=Lib.hid hk';have hw':=hk'.size;clear hR' hk'
    by_cases hlt:k < t.kids.length
    · obtain ⟨ad,y,rfl,hc,hp⟩:=SlR.get_ (SlR.keeps HS.out HK'.out (fun ad n c e=>fun ho=>by
       have h1:=HF.out ad n c e;have h2:=(HLT.out _ ho).2
       simp at h1; omega)) k hlt
      have HP:=Lib.hid hp;obtain ⟨U,y,rfl⟩:=hp.iface;clear hp;have hkl:t.kids[k].sz < t.sz:=Fm.kids_lt _ _ (List.getElem_mem hlt);have HLE:Hid ((l ++ kz (t.kids.take k)).length+t.kids[k].sz<=1099511627776):=by
       have h1:=ua0 (t.kids.take k) (fun g _=>g.bound_len);have h2:ul (t.kids.take k)+t.kids[k].sz<=ul t.kids:=by
        have e1:ul (t.kids.take (k+1))=ul (t.kids.take k)+t.kids[k].sz:=by
         unfold ul; rw [List.take_succ_eq_append_getElem hlt,List.map_append,List.sum_append,List.map_singleton,List.sum_singleton]
        have e2:ul t.kids=ul (t.kids.take (k+1))+ul (t.kids.drop (k+1)):=by
         unfold ul; rw [<- List.sum_append,<- List.map_append,List.take_append_drop]
        omega
       have h3:=uar t;have:(l ++ kz (t.kids.take k)).length+t.kids[k].sz<=1099511627776:=by
        simp only [List.length_append];omega
       exact this
      go_wp2_with fail;refine (IH.out (t.kids[k]) _ (by omega) HP.out _ _ _ HR'.out (by omega) HLE.out).mono ?_;rintro e w3 ⟨s3,rfl,hR3,hk3⟩;have HR3:=Lib.hid hR3;have HK3:=Lib.hid hk3;clear hR3 hk3 hc;go_wp2_with fail
      go_roundw
      case rel=>exact ⟨k+1,by omega,by go_num,⟨by rw [qaz _ _ hlt,<- List.append_assoc]; exact HR3.out,HK'.out.trans HK3.out⟩⟩
      case measure=>simp [intOf]; omega
    · have HKE:Hid (k=t.kids.length):=by
       have:k=t.kids.length:=by omega
       exact this
      go_wp2_with fail;go_ret;refine ⟨_,rfl,?_,(yf.of_ext HX.out).trans HK'.out⟩;have:=HR'.out;rw [HKE.out,List.take_length,<- Fm.bound_kids t HN.out] at this;exact this
def qbc (l:List ByteArray) (w:World) (e:Ending) (w':World):Prop:=∃ s,e=.returned s/\jh w' w.heap.size s l/\Ext w w'
theorem jbf {w0 w:World} {L:Nat} (t:Fm) {v:Value} (h:FmV w0 L t v) (hl:t.sz<=1099511627776):Calls Tryz.prog 27 #[v] w (qbc t.bound w):=by
 go_enter Tryz.func27,Tryz.ntmps27;go_wp2_with fail;refine (kba (t.sz+1) t v (Nat.lt_succ_self _) h w _ [] (jh.nil w w.heap.size) (Nat.le_refl _) (by simpa using hl)).mono ?_;rintro e w1 ⟨s1,rfl,hR,hk⟩;have hx:Ext w w1:=hk.ext (Ext.refl w) (fun i ho=>by unfold ownB at ho; simp [Value.ownBlock] at ho);have HX:=Lib.hid hx;have HR:=Lib.hid hR;clear hx hk hR h;go_wp2_with fail;go_ret;exact ⟨_,rfl,by simpa using HR.out,HX.out⟩
end Go.Proofs.YtheefiaoimbeiaaGreatDoor

/- A call that returns a Bool. -/
namespace Go.Proofs.YtheefiaoimbeiaaGreatDoor
def kad (b:Bool) (w:World) (e:Ending) (w':World):Prop:=e=.returned (.bool b)/\Ext w w'
end Go.Proofs.YtheefiaoimbeiaaGreatDoor

/- Layer 34: formula.Free: the names that occur free. -/
set_option maxRecDepth 100000
set_option maxHeartbeats 8000000
namespace Go.Proofs.YtheefiaoimbeiaaGreatDoor
open Go.RowKit
def has (l:List ByteArray) (s:ByteArray):Bool:=l.any fun t=>decide (t=s)
theorem xcs (l:List ByteArray) (s:ByteArray):has l s=true ↔ s ∈ l:=by simp [has]
theorem jbl (l:List ByteArray) (s t:ByteArray):has (l ++ [s]) t=(has l t || decide (s=t)):=by simp [has]
structure jas (base Ma Ms ba bs bl : Nat) : Prop where
 h1:ba ≠ bl
 h2:ba ≠ Ms
 h3:bs ≠ bl
 h4:bs ≠ Ms
 h5:Ma ≠ bl
 h6:Ma ≠ Ms
 h7:bl ≠ Ms
 h8:ba ≠ Ma
 h9:bs ≠ Ma
 k1:ba < base
 k2:bs < base
 k3:bl < base
 k4:Ma < base
 k5:Ms < base
def qas (base Ma Ms ba bs bl N:Nat) (b:Nat) (W:World) (own:Nat->Prop) (acc:List ByteArray):Prop:=
 ∃ v ls,W.cell? ⟨ba,0,none⟩=some (.map (some Ma))/\W.cell? ⟨bs,0,none⟩=some (.map (some Ms))/\W.heap[bl]?=some (.cells #[v] 34 (0,0))/\qx W Ms ls/\(∀ s,(zac ls s).getD (.bool false)=.bool (has acc s)) /\
   jh W base v acc/\acc.length+b<=N/\(own=fun i=>i=bl\/i=Ms\/v.ownBlock=some i)/\base<=W.heap.size
def zi (a:ByteArray->Int) (s:ByteArray) (acc:List ByteArray):List ByteArray:=if a s=0/\has acc s=false then acc ++ [s] else acc
section
variable {base Ma Ms ba bs bl N:Nat}
theorem qas.turn {b b' : Nat} {W W' : World} {own : Nat -> Prop} {acc : List ByteArray} (h : qas base Ma Ms ba bs bl N b W own acc) (hb : b' <= b) (hs : W.heap.size <= W'.heap.size) (h1 : W'.heap[ba]? = W.heap[ba]?) (h2 : W'.heap[bs]? = W.heap[bs]?) (h3 : W'.heap[bl]? = W.heap[bl]?) (h4 : W'.heap[Ms]? = W.heap[Ms]?)
 (h5:∀ v acc,jh W base v acc->jh W' base v acc):qas base Ma Ms ba bs bl N b' W' own acc:=by
 obtain ⟨v,ls,c1,c2,c3,c4,c5,c6,c7,c8,c9⟩:=h;exact ⟨v,ls,(World.cell?_of_block h1).trans c1,(World.cell?_of_block h2).trans c2,h3.trans c3,c4.block h4,c5,h5 _ _ c6,by omega,c8,Nat.le_trans c9 hs⟩
theorem qas.lts {b:Nat} {W:World} {own:Nat->Prop} {acc:List ByteArray} (h:qas base Ma Ms ba bs bl N b W own acc):ba < W.heap.size/\bs < W.heap.size/\bl < W.heap.size/\Ms < W.heap.size:=by
 obtain ⟨v,ls,c1,c2,c3,c4,c5,c6,c7,c8,c9⟩:=h;have lt:∀ {g:Nat} {x:Value},W.cell? ⟨g,0,none⟩=some x->g < W.heap.size:=fun {g x} hc=>by
  rcases Nat.lt_or_ge g W.heap.size with hlt | hge
  · exact hlt
  · simp [World.cell?,Array.getElem?_eq_none hge] at hc
 exact ⟨lt c1,lt c2,lt_of_block c3,c4.lt⟩
theorem jh.only {w w':World} {base g:Nat} {v:Value} {l:List ByteArray} (h:jh w base v l) (hx:Only g w w') (hg:g < base):jh w' base v l:=
 World.ownsRow.kept h hx.g (.inr (fun e=>by have:=(h.lt g e).1; omega))
theorem vbe:(Tryz.prog.info? 4).map (·.zero)=some (some (.bool false)):=by kernel_rfl
def gbn (base Ma Ms ba bs bl N b:Nat) (W:World) (own:Nat->Prop) (acc:List ByteArray) (e:Ending) (W':World):Prop:=
 (∃ v,e=.returned v)/\∃ own',qas base Ma Ms ba bs bl N b W' own' acc/\yf own W own' W'
theorem kby (hd : jas base Ma Ms ba bs bl) {b : Nat} {W W1 w2 : World} {own : Nat -> Prop} {acc : List ByteArray} {s : ByteArray} {v v' : Value} {ls : List (ByteArray × Value)} {o : Obj}
 (c1:W.cell? ⟨ba,0,none⟩=some (.map (some Ma))) (c2:W.cell? ⟨bs,0,none⟩=some (.map (some Ms))) (c3:W.heap[bl]?=some (.cells #[v] 34 (0,0))) (c5:∀ s,(zac ls s).getD (.bool false)=.bool (has acc s)) (c6:jh W base v acc) (c8:own=fun i=>i=bl\/i=Ms\/v.ownBlock=some i)
 (hM1:qx W1 Ms (uai ls s (.bool true))) (ho1:Only Ms W W1) (hb:base<=W.heap.size) (hN:acc.length+1+b<=N) (hg:(W1.alloc o).grownBy w2 v.ownBlock) (hown:w2.ownsRow base 9 1 v' (acc.length+1) (strs acc ++ [.string s])) (hat:v'.ownBlock=v.ownBlock\/v'.ownBlock=some (W1.alloc o).heap.size) :
 gbn base Ma Ms ba bs bl N b W own (acc ++ [s]) (.returned (.tuple #[])) (w2.setCell ⟨bl,0,none⟩ v')/\w2.cell? ⟨bl,0,none⟩=some v/\w2.frozen? ⟨bl,0,none⟩=false:=by
 have hs1:=ho1.size;have k1:=hd.k1;have k2:=hd.k2;have k3:=hd.k3;have k5:=hd.k5;have hx1:Ext W1 (W1.alloc o):=(Ext.refl W1).alloc o;have hr0:=c6.lt;have low:∀ i,i < base->i ≠ Ms->w2.heap[i]?=W.heap[i]?:=fun i hi hne=>by
  rw [World.grownBy.block hg i (by simp; omega) (fun e=>by have:=(hr0 i e.symm).1; omega),hx1.below.block i (by omega)];exact ho1.block (by omega) hne
 have hMs:w2.heap[Ms]?=W1.heap[Ms]?:=by
  rw [World.grownBy.block hg Ms (by simp; omega) (fun e=>by have:=(hr0 Ms e.symm).1; omega),hx1.below.block Ms (by omega)]
 have hbl:w2.heap[bl]?=some (.cells #[v] 34 (0,0)):=by rw [low bl k3 hd.h7]; exact c3
 have hvlt:∀ k,v'.ownBlock=some k->base<=k/\k < w2.heap.size:=World.ownsRow.lt hown;have hs2:=World.grownBy.size hg;simp only [World.size_alloc] at hs2;refine ⟨⟨⟨_,rfl⟩,fun i=>i=bl\/i=Ms\/v'.ownBlock=some i,?_,?_⟩,cell_of_one hbl,free_of_one hbl⟩
 · refine ⟨v',uai ls s (.bool true),?_,?_,one_setCell hbl,?_,?_,?_,?_,rfl,?_⟩
   · rw [World.cell?_of_block ((Below.heap_setCell w2 ⟨bl,0,none⟩ v' ba hd.h1).trans (low ba k1 hd.h2))]; exact c1
   · rw [World.cell?_of_block ((Below.heap_setCell w2 ⟨bl,0,none⟩ v' bs hd.h3).trans (low bs k2 hd.h4))]; exact c2
   · exact (hM1.block hMs).setCell _ _ (fun e=>hd.h7 e.symm)
   · intro t;rw [ja0,jbl]
     by_cases ht:t=s
     · rw [if_pos ht]; simp [ht]
     · have ht':¬ s=t:=fun e=>ht e.symm
       rw [if_neg ht,c5]; simp [ht']
   · unfold jh;rw [uau];have:=ownsRow_setCell_other hown (a:=⟨bl,0,none⟩) (fun e=>by have:=(hvlt bl e).1; omega) v';simpa using this
   · simp; omega
   · simp; omega
 · rw [c8];have q1:w2.os=W.os:=(World.grownBy.os hg).trans (hx1.below.os.trans (World.grownBy.os ho1));have q2:w2.tape=W.tape:=(World.grownBy.tape hg).trans (hx1.below.tape.trans (World.grownBy.tape ho1));have q3:w2.output=W.output:=(World.grownBy.output hg).trans (hx1.below.output.trans (World.grownBy.output ho1));refine ⟨q1,q2,q3,by simp; omega,fun i hi hn=>?_,fun i hi ho=>?_⟩
   · have n1:i ≠ bl:=fun e=>hn (.inl e)
     have n2:i ≠ Ms:=fun e=>hn (.inr (.inl e))
     have n3:¬ v.ownBlock=some i:=fun e=>hn (.inr (.inr e))
     rw [Below.heap_setCell w2 ⟨bl,0,none⟩ v' i n1,World.grownBy.block hg i (by simp; omega) (fun e=>n3 e.symm),hx1.below.block i (by omega)];exact ho1.block hi n2
   · rcases ho with h | h | h
     · exact .inl h
     · exact .inr (.inl h)
     · refine .inr (.inr ?_);rcases hat with k | k
       · rw [<- k]; exact h
       · rw [k] at h; injection h with e; simp at e; omega
theorem xb7 (hd:jas base Ma Ms ba bs bl) (hN:N<=1099511627776) (b:Nat) (a:ByteArray->Int) (W:World) (own:Nat->Prop) (acc:List ByteArray) (s:ByteArray) (hJ:qas base Ma Ms ba bs bl N (b+1) W own acc) (hA:gac W Ma a) :
 Calls Tryz.prog 71 #[.string s,.pointer (some ⟨ba,0,none⟩),.pointer (some ⟨bs,0,none⟩),.pointer (some ⟨bl,0,none⟩)] W (gbn base Ma Ms ba bs bl N b W own (zi a s acc)):=by
 have HJ:=Lib.hid hJ;have HD:=Lib.hid hd;have hbd:=hJ.lts;obtain ⟨v,ls,c1,c2,c3,c4,c5,c6,c7,c8,c9⟩:=hJ;have hl:=hA.look s;have hls:(Instr.lookup 91 (.map (some Ms)) (.string s) false).run Tryz.prog W=.ok (.bool (has acc s)) W:=by
  have:=c4.look (P:=Tryz.prog) Tryz.underlying91 Tryz.underlying9 vbe s false;rw [this,if_neg (by simp),c5]
 obtain ⟨hbd1,hbd2,hbd3,hbd4⟩:=hbd;have C3:=Lib.hid c3;have C4:=Lib.hid c4;have C5:=Lib.hid c5;have C6:=Lib.hid c6;have C8:=Lib.hid c8;have C2:=Lib.hid c2;have C1:=Lib.hid c1;have cl:=cell_of_one c3;have HA:=Lib.hid hA;clear c3 c4 c5 c6 c8 hA hd
 by_cases ha:a s=0
 · by_cases hh:has acc s=true
   · have hfin:zi a s acc=acc:=by unfold zi; rw [if_neg (by rw [hh]; simp)]
     rw [hfin];rw [ha] at hl;rw [hh] at hls;clear hfin ha hh cl;go_enter Tryz.func71,Tryz.ntmps71;go_wp2_with fail
     go_end0
     exact ⟨⟨_,rfl⟩,own,HJ.out.turn (by omega) (Nat.le_refl _) rfl rfl rfl rfl (fun _ _ h=>h),yf.refl _ _⟩
   · have hh':has acc s=false:=by simpa using hh
     have hfin:zi a s acc=acc ++ [s]:=by unfold zi; rw [if_pos ⟨ha,hh'⟩]
     rw [hfin];rw [ha] at hl;rw [hh'] at hls;have HH:=Lib.hid hh';obtain ⟨W1,hput,hM1,ho1⟩:=C4.out.put (P:=Tryz.prog) Tryz.underlying91 Tryz.underlying9 s (.bool true);have cl1:W1.cell? ⟨bl,0,none⟩=some v:=by rw [ho1.cell (p:=⟨bl,0,none⟩) hbd3 HD.out.h7]; exact cl
     have c21:W1.cell? ⟨bs,0,none⟩=some (.map (some Ms)):=by rw [ho1.cell (p:=⟨bs,0,none⟩) hbd2 HD.out.h4]; exact c2
     have HM1:=Lib.hid hM1;have HO1:=Lib.hid ho1;have hw1:=ho1.size;obtain ⟨i0,hi,hz0,hz1,hz2⟩:=info_parts yay;have HI0:Hid (Tryz.prog.info? 9=some i0/\i0.zero=some (.string ByteArray.empty)/\i0.size=1/\i0.bytes=16):=by
      have:Tryz.prog.info? 9=some i0/\i0.zero=some (.string ByteArray.empty)/\i0.size=1/\i0.bytes=16:=⟨hi,hz0,hz1,hz2⟩;exact this
     have HR1:Hid (jh W1 base v acc):=by
      have:jh W1 base v acc:=C6.out.only ho1 HD.out.k5;exact this
     clear hfin ha hh hh' hM1 ho1 hi hz0 hz1 hz2;go_enter Tryz.func71,Tryz.ntmps71
     go_wp2_with (at_builtin
                  refine wpList_append_own_at _ rfl (.tmp 17) (.tmp 19) _ rfl base 9 i0 (.string ByteArray.empty) 1 16 Tryz.underlying34 HI0.out.1 HI0.out.2.1 HI0.out.2.2.1 HI0.out.2.2.2 rfl (by omega) _ acc.length (strs acc) rfl (World.ownsRow.alloc HR1.out _) ⟨W1.heap.size,0,none⟩ 1 1 [.string s] rfl rfl (ybx ?_) ?_ ?_ ?_ ?_ ?_)
     · simp [go_sem]
     · simp [Value.oneCell']
     · unfold maxLen; omega
     · omega
     · simp; omega
     · intro v' w2 hown' hg' _ hat';obtain ⟨g',cap',rfl⟩:=ownsRow_succ hown';have hat2:(Value.slice (some ⟨g',0,none⟩) (acc.length+1) cap').ownBlock=v.ownBlock\/(Value.slice (some ⟨g',0,none⟩) (acc.length+1) cap').ownBlock=some (W1.alloc (Obj.cells #[.string s] 9)).heap.size:=by simpa using hat'
       obtain ⟨HF,hcl,hfl⟩:=kby (b:=b) (N:=N) HD.out C1.out C2.out C3.out C5.out C6.out C8.out HM1.out HO1.out c9 (by omega) hg' hown' hat2;have HFIN:=Lib.hid HF;clear HF hown' hg' hat' hat2 hput hl hls cl1 c21;go_wp2_with fail
       go_end0
       exact HFIN.out
 · have hfin:zi a s acc=acc:=by unfold zi; rw [if_neg (fun e=>ha e.1)]
   have hab:(a s == 0)=false:=by simpa using ha
   rw [hfin];clear hfin ha cl;go_enter Tryz.func71,Tryz.ntmps71;go_wp2_with fail
   go_end0
   exact ⟨⟨_,rfl⟩,own,HJ.out.turn (by omega) (Nat.le_refl _) rfl rfl rfl rfl (fun _ _ h=>h),yf.refl _ _⟩
theorem jby (hd : jas base Ma Ms ba bs bl) (hN : N <= 1099511627776) : wau 71 #[.pointer (some ⟨ba, 0, none⟩), .pointer (some ⟨bs, 0, none⟩), .pointer (some ⟨bl, 0, none⟩)] Ma (qas base Ma Ms ba bs bl N) zi where
 enter:=fun args W=>by simp [go_sem]
 ext:=fun b W W' own acc h hx=>by
  obtain ⟨h1,h2,h3,h4⟩:=h.lts;exact h.turn (Nat.le_refl _) hx.size (hx.below.block _ h1) (hx.below.block _ h2) (hx.below.block _ h3) (hx.below.block _ h4) (fun v acc hr=>hr.ext hx)
 less:=fun b b' W own acc h hb=>h.turn hb (Nat.le_refl _) rfl rfl rfl rfl (fun _ _ h=>h)
 map:=fun b W W' own acc h ho=>by
  obtain ⟨h1,h2,h3,h4⟩:=h.lts;exact h.turn (Nat.le_refl _) ho.size (ho.block h1 hd.h8) (ho.block h2 hd.h9) (ho.block h3 (fun e=>hd.h5 e.symm)) (ho.block h4 (fun e=>hd.h6 e.symm)) (fun v acc hr=>hr.only ho hd.k4)
 lt:=fun b W own acc h i hi=>by
  obtain ⟨h1,h2,h3,h4⟩:=h.lts;obtain ⟨v,ls,c1,c2,c3,c4,c5,c6,c7,c8,c9⟩:=h;rw [c8] at hi;rcases hi with rfl | rfl | hi
  · exact h3
  · exact h4
  · exact (c6.lt i hi).2
 ne:=fun b W own acc h hi=>by
  obtain ⟨v,ls,c1,c2,c3,c4,c5,c6,c7,c8,c9⟩:=h;rw [c8] at hi;rcases hi with hi | hi | hi
  · exact hd.h5 hi
  · exact hd.h6 hi
  · have:=(c6.lt _ hi).1; have:=hd.k4; omega
 call:=fun b a W own acc s h hA=>xb7 hd hN b a W own acc s h hA
end
def Fm.free (t:Fm):List ByteArray:=t.fold zi (fun _=>0) []
theorem kbl {w0 w:World} {L:Nat} (t:Fm) {v:Value} (h:FmV w0 L t v) (hl:t.sz<=1099511627776):Calls Tryz.prog 32 #[v] w (qbc t.free w):=by
 have hmm:=@run_makeMap Tryz.prog;go_enter Tryz.func32,Tryz.ntmps32;go_wp2_with fail;obtain ⟨W,hW⟩:=n_m (((((w.alloc (Obj.cells #[.slice none 0 0] 34)).alloc (Obj.map #[] 0)).alloc (Obj.map #[] 0)).alloc (Obj.cells #[.map (some (w.heap.size+1))] 90)).alloc (Obj.cells #[.map (some (w.heap.size+1+1))] 91));rw [hW];have hsz:W.heap.size=w.heap.size+5:=by rw [<- hW]; simp
 have hx:Ext w W:=by rw [<- hW]; exact (((((Ext.refl w).alloc _).alloc _).alloc _).alloc _).alloc _
 have hd:jas (w.heap.size+5) (w.heap.size+1) (w.heap.size+1+1) (w.heap.size+1+1+1) (w.heap.size+1+1+1+1) w.heap.size:=by
  constructor <;> omega
 have m1:qx W (w.heap.size+1) []:=by
  rw [<- hW];have:=qx.made (w.alloc (Obj.cells #[.slice none 0 0] 34));rw [World.size_alloc] at this;exact ((this.alloc _).alloc _).alloc _
 have m2:qx W (w.heap.size+1+1) []:=by
  rw [<- hW];have:=qx.made ((w.alloc (Obj.cells #[.slice none 0 0] 34)).alloc (Obj.map #[] 0));rw [World.size_alloc,World.size_alloc] at this;exact (this.alloc _).alloc _
 have hJ:qas (w.heap.size+5) (w.heap.size+1) (w.heap.size+1+1) (w.heap.size+1+1+1) (w.heap.size+1+1+1+1) w.heap.size t.sz (0+t.sz) W (fun i=>i=w.heap.size\/i=w.heap.size+1+1\/(Value.slice none 0 0).ownBlock=some i) []:=by
  refine ⟨.slice none 0 0,[],?_,?_,?_,m2,fun s=>by simp [zac,has],jh.nil _ _,by simp,rfl,by omega⟩
  · rw [<- hW]; simp [go_sem]
  · rw [<- hW]; simp [go_sem]
  · rw [<- hW,Below.heap_alloc _ _ _ (by simp; omega),Below.heap_alloc _ _ _ (by simp; omega),Below.heap_alloc _ _ _ (by simp; omega),Below.heap_alloc _ _ _ (by simp)];exact heap_alloc_new w _
 refine (wbq (jby hd hl) (t.sz+1) t v (Nat.lt_succ_self _) h 0 W _ (fun _=>0) [] hJ ⟨[],m1,fun s=>by simp [zac]⟩ (fun s=>by omega)).mono ?_;rintro e w1 ⟨⟨v1,rfl⟩,own',hJ',hA',hk'⟩;have hx1:Ext w w1:=hk'.ext hx (fun i hi=>by
  rcases hi with (hi | hi | hi) | hi
  · omega
  · omega
  · simp [Value.ownBlock] at hi
  · omega)
 obtain ⟨v2,ls,c1,c2,c3,c4,c5,c6,c7,c8,c9⟩:=hJ';have cl:=cell_of_one c3;have HR:Hid (jh w1 w.heap.size v2 t.free):=by
  have:jh w1 w.heap.size v2 t.free:=by
   have h6:=c6;unfold jh World.ownsRow at h6 ⊢;refine ⟨h6.1,?_⟩;rcases h6.2 with h | ⟨g,cap,cur,h1,h2,h3⟩
   · exact .inl h
   · exact .inr ⟨g,cap,cur,h1,by omega,h3⟩
  exact this
 have HX1:=Lib.hid hx1;clear hW hx m1 m2 hJ hA' hk' hd c1 c2 c3 c4 c5 c6 c8 hx1;go_wp2_with fail;go_ret;exact ⟨_,rfl,HR.out,HX1.out⟩
theorem jh.slr {w:World} {base:Nat} {v:Value} {l:List ByteArray} (h:jh w base v l):SlR (fun _ (s:ByteArray) x=>x=.string s) w v l:=by
 have h':=h;obtain ⟨h1,h2⟩:=h;rcases h2 with ⟨rfl,h0⟩ | ⟨g,cap,cur,rfl,hb,hg,hc,hm,-⟩
 · have:l=[]:=List.eq_nil_of_length_eq_zero h0;subst this;exact SlR.nil _ _
 · refine ⟨_,cap,rfl,hc,by unfold maxLen at hm; omega,fun j hj=>⟨_,_,rfl,(Array.getElem?_eq_some_iff.1 hg).1,?_,rfl⟩⟩;rw [yx,Nat.zero_add,World.ownsRow.cellAt h' j (by omega)];simp [strs,hj]
end Go.Proofs.YtheefiaoimbeiaaGreatDoor

/- Layer 34: formula.Valid, and the reference's Has, words, Valid. -/
set_option maxRecDepth 100000
set_option maxHeartbeats 8000000
namespace Go.Proofs.YtheefiaoimbeiaaGreatDoor
open Go.RowKit
def xay (c i:Nat):Bool:=decide ((97<=c/\c<=122)\/(65<=c/\c<=90)\/c=95\/(48<=c/\c<=57/\0 < i))
def jag:List (List UInt8):=[[116,114,117,101],[102,97,108,115,101],[97,110,100],[111,114],[110,111,116],[105,109,112,108,105,101,115],[105,102,102],[102,111,114,97,108,108],[101,120,105,115,116,115]]
def qal (s:ByteArray):Bool:=decide (1<=s.size/\s.size<=16/\(∀ i (h:i < s.size),xay s[i].toNat i=true)/\s.toList ∉ jag)
theorem ybo {s:ByteArray} (h1:¬ s.size < 1) (h2:¬ 16 < s.size) (h3:∀ i (h:i < s.size),xay s[i].toNat i=true) (h4:s.toList ∉ jag):qal s=true:=decide_eq_true ⟨by omega,by omega,h3,h4⟩
theorem ybu {s:ByteArray} (k:Nat) (hk:k < s.size) (h:xay s[k].toNat k=false):qal s=false:=decide_eq_false (fun hh=>by rw [hh.2.2.1 k hk] at h; cases h)
theorem wac {s:ByteArray} (h:s.toList ∈ jag):qal s=false:=decide_eq_false (fun hh=>hh.2.2.2 h)
theorem xb1 (s:ByteArray) (w:World):Calls Tryz.prog 30 #[.string s] w fun e w'=>e=.returned (.bool (qal s))/\w'=w:=by
 by_cases h1:s.size < 1
 · have d1:decide ((s.size:Int) < 1)=true:=by simp; omega
   have hv:qal s=false:=decide_eq_false (by omega);rw [hv];go_enter Tryz.func30,Tryz.ntmps30;go_wp2_with fail;go_ret;exact ⟨rfl,rfl⟩
 · have d1:decide ((s.size:Int) < 1)=false:=by simp; omega
   by_cases h2:16 < s.size
   · have d2:decide ((16:Int) < s.size)=true:=by simp; omega
     have hv:qal s=false:=decide_eq_false (by omega);rw [hv];go_enter Tryz.func30,Tryz.ntmps30;go_wp2_with fail;go_ret;exact ⟨rfl,rfl⟩
   · have d2:decide ((16:Int) < s.size)=false:=by simp; omega
     generalize hvb:qal s=vb;have HVB:=Lib.hid hvb;clear hvb;go_enter Tryz.func30,Tryz.ntmps30;go_wp2_with fail
     go_loop [15] (fun iv=>∃ k:Nat,k<=s.size/\iv=.int .i64 k/\Hid (∀ i (h:i < s.size),i < k->xay s[i].toNat i=true)) (fun iv=>s.size - (intOf iv).toNat)
     case atStart=>exact ⟨0,Nat.zero_le _,rfl,(fun i h h0=>absurd h0 (by omega))⟩
     case round =>
      obtain ⟨k,hk,rfl,HG⟩:=hrel
      by_cases hlt:k < s.size
      · have HBAD:=Lib.hid (ybu (s:=s) k hlt);have HNEXT:Hid (xay s[k].toNat k=true->∀ i (h:i < s.size),i < k+1->xay s[i].toNat i=true):=by
         intro hg i h hi
         by_cases he:i=k
         · subst he; exact hg
         · exact HG.out i h (by omega)
        have hcc:s[k].toNat < 256:=s[k].toNat_lt;clear HG;go_upto_region 8 with fail;generalize s[k].toNat=cc at *
        by_cases h95:cc=95
        · have d95:((cc:Int) == 95)=true:=by simp; omega
          go_wp2_with fail
          all_goals first
            | exact ⟨⟨k+1,by omega,by go_num,HNEXT.out (decide_eq_true (by omega))⟩,by simp [intOf]; omega⟩
            | (exfalso; omega)
        · have d95:((cc:Int) == 95)=false:=by simp; omega
          go_wp2_with fail
          all_goals first
            | exact ⟨⟨k+1,by omega,by go_num,HNEXT.out (decide_eq_true (by omega))⟩,by simp [intOf]; omega⟩
            | (go_ret
               exact ⟨by rw [<- HVB.out,HBAD.out (decide_eq_false (by omega))]; rfl,rfl⟩)
            | (exfalso; omega)
      · have hall:∀ i (h:i < s.size),xay s[i].toNat i=true:=fun i h=>HG.out i h (by omega)
        have HALL:=Lib.hid hall;clear hall HG
        by_cases e0:(s.toList == ([116,114,117,101]:List UInt8))=true
        · have hv:vb=false:=by rw [<- HVB.out]; exact wac (by rw [(beq_iff_eq.1 e0:s.toList=[116,114,117,101])]; unfold jag; simp)
          clear HVB HALL;subst hv;go_wp2_with fail;go_ret;exact ⟨rfl,rfl⟩
        have n0:(s.toList == ([116,114,117,101]:List UInt8))=false:=by simpa using e0
        by_cases e1:(s.toList == ([102,97,108,115,101]:List UInt8))=true
        · have hv:vb=false:=by rw [<- HVB.out]; exact wac (by rw [(beq_iff_eq.1 e1:s.toList=[102,97,108,115,101])]; unfold jag; simp)
          clear HVB HALL;subst hv;go_wp2_with fail;go_ret;exact ⟨rfl,rfl⟩
        have n1:(s.toList == ([102,97,108,115,101]:List UInt8))=false:=by simpa using e1
        by_cases e2:(s.toList == ([97,110,100]:List UInt8))=true
        · have hv:vb=false:=by rw [<- HVB.out]; exact wac (by rw [(beq_iff_eq.1 e2:s.toList=[97,110,100])]; unfold jag; simp)
          clear HVB HALL;subst hv;go_wp2_with fail;go_ret;exact ⟨rfl,rfl⟩
        have n2:(s.toList == ([97,110,100]:List UInt8))=false:=by simpa using e2
        by_cases e3:(s.toList == ([111,114]:List UInt8))=true
        · have hv:vb=false:=by rw [<- HVB.out]; exact wac (by rw [(beq_iff_eq.1 e3:s.toList=[111,114])]; unfold jag; simp)
          clear HVB HALL;subst hv;go_wp2_with fail;go_ret;exact ⟨rfl,rfl⟩
        have n3:(s.toList == ([111,114]:List UInt8))=false:=by simpa using e3
        by_cases e4:(s.toList == ([110,111,116]:List UInt8))=true
        · have hv:vb=false:=by rw [<- HVB.out]; exact wac (by rw [(beq_iff_eq.1 e4:s.toList=[110,111,116])]; unfold jag; simp)
          clear HVB HALL;subst hv;go_wp2_with fail;go_ret;exact ⟨rfl,rfl⟩
        have n4:(s.toList == ([110,111,116]:List UInt8))=false:=by simpa using e4
        by_cases e5:(s.toList == ([105,109,112,108,105,101,115]:List UInt8))=true
        · have hv:vb=false:=by rw [<- HVB.out]; exact wac (by rw [(beq_iff_eq.1 e5:s.toList=[105,109,112,108,105,101,115])]; unfold jag; simp)
          clear HVB HALL;subst hv;go_wp2_with fail;go_ret;exact ⟨rfl,rfl⟩
        have n5:(s.toList == ([105,109,112,108,105,101,115]:List UInt8))=false:=by simpa using e5
        by_cases e6:(s.toList == ([105,102,102]:List UInt8))=true
        · have hv:vb=false:=by rw [<- HVB.out]; exact wac (by rw [(beq_iff_eq.1 e6:s.toList=[105,102,102])]; unfold jag; simp)
          clear HVB HALL;subst hv;go_wp2_with fail;go_ret;exact ⟨rfl,rfl⟩
        have n6:(s.toList == ([105,102,102]:List UInt8))=false:=by simpa using e6
        by_cases e7:(s.toList == ([102,111,114,97,108,108]:List UInt8))=true
        · have hv:vb=false:=by rw [<- HVB.out]; exact wac (by rw [(beq_iff_eq.1 e7:s.toList=[102,111,114,97,108,108])]; unfold jag; simp)
          clear HVB HALL;subst hv;go_wp2_with fail;go_ret;exact ⟨rfl,rfl⟩
        have n7:(s.toList == ([102,111,114,97,108,108]:List UInt8))=false:=by simpa using e7
        by_cases e8:(s.toList == ([101,120,105,115,116,115]:List UInt8))=true
        · have hv:vb=false:=by rw [<- HVB.out]; exact wac (by rw [(beq_iff_eq.1 e8:s.toList=[101,120,105,115,116,115])]; unfold jag; simp)
          clear HVB HALL;subst hv;go_wp2_with fail;go_ret;exact ⟨rfl,rfl⟩
        have n8:(s.toList == ([101,120,105,115,116,115]:List UInt8))=false:=by simpa using e8
        have hv:vb=true:=by
         rw [<- HVB.out];refine ybo h1 h2 HALL.out ?_;unfold jag;simp only [List.mem_cons,List.not_mem_nil,or_false,not_or];exact ⟨by simpa using n0,by simpa using n1,by simpa using n2,by simpa using n3,by simpa using n4,by simpa using n5,by simpa using n6,by simpa using n7,by simpa using n8⟩
        clear HVB HALL e0 e1 e2 e3 e4 e5 e6 e7 e8;subst hv;go_wp2_with fail;go_ret;exact ⟨rfl,rfl⟩
end Go.Proofs.YtheefiaoimbeiaaGreatDoor
