/- The library's sort at terms: the kit's contract of slices.pdqsortCmpFunc laid at this program. (The lines of sortTm are those that the kit's laying command writes.) -/
import Derived.Test.YtheefiaoimbeiaaGreatDoorMp16
import Derived.Shelf.SlSortCmp.WholeK
import Derived.Test.YtheefiaoimbeiaaGreatDoorMp8
set_option linter.unusedSimpArgs false
set_option linter.unusedVariables false

namespace Go.Proofs.YtheefiaoimbeiaaGreatDoor
open Lib (hid)
def qfg:Go.Shelf.Ren:=⟨fun | 14=>173 | 20=>182 | 21=>183 | 22=>184 | 23=>185 | 24=>186 | 25=>187 | 26=>188 | 27=>189 | 46=>196 | 47=>197 | 48=>198 | 49=>199 | 50=>200 | 15=>174 | 57=>203 | 28=>181 | 29=>190 | n=>n,fun | 24=>219 | 22=>204 | 3=>3 | 25=>239 | 4=>4 | 0=>0 | 46=>261 | 45=>260 | 50=>128 | 66=>272 | 39=>191 | 55=>155 | 70=>276 | 76=>278 | 77=>279 | 53=>108 | 5=>5 | 9=>9 | n=>n,fun | n=>n⟩
theorem zgk : Go.Proofs.SlLaysF0.n14 Tryz.prog qfg := {
 mixed:=by kernel_rfl,
 f14:=⟨Tryz.f173.name,by decide,Tryz.func173.trans (congrArg some (by kernel_rfl))⟩,
 f15:=Tryz.func174.trans (congrArg some (by kernel_rfl)),
 f20:=⟨Tryz.f182.name,by decide,Tryz.func182.trans (congrArg some (by kernel_rfl))⟩,
 f21:=⟨Tryz.f183.name,by decide,Tryz.func183.trans (congrArg some (by kernel_rfl))⟩,
 f22:=⟨Tryz.f184.name,by decide,Tryz.func184.trans (congrArg some (by kernel_rfl))⟩,
 f23:=⟨Tryz.f185.name,by decide,Tryz.func185.trans (congrArg some (by kernel_rfl))⟩,
 f24:=⟨Tryz.f186.name,by decide,Tryz.func186.trans (congrArg some (by kernel_rfl))⟩,
 f25:=⟨Tryz.f187.name,by decide,Tryz.func187.trans (congrArg some (by kernel_rfl))⟩,
 f26:=⟨Tryz.f188.name,by decide,Tryz.func188.trans (congrArg some (by kernel_rfl))⟩,
 f27:=⟨Tryz.f189.name,by decide,Tryz.func189.trans (congrArg some (by kernel_rfl))⟩,
 f28:=Tryz.func181.trans (congrArg some (by kernel_rfl)),
 f29:=Tryz.func190.trans (congrArg some (by kernel_rfl)),
 f46:=⟨Tryz.f196.name,by decide,Tryz.func196.trans (congrArg some (by kernel_rfl))⟩,
 f47:=Tryz.func197.trans (congrArg some (by kernel_rfl)),
 f48:=Tryz.func198.trans (congrArg some (by kernel_rfl)),
 f49:=⟨Tryz.f199.name,by decide,Tryz.func199.trans (congrArg some (by kernel_rfl))⟩,
 f50:=⟨Tryz.f200.name,by decide,Tryz.func200.trans (congrArg some (by kernel_rfl))⟩,
 f57:=⟨Tryz.f203.name,by decide,Tryz.func203.trans (congrArg some (by kernel_rfl))⟩,
 t0:=Tryz.underlying0,
 a0:=Tryz.isAgg0,
 z0:=Tryz.sizeOf0,
 v0:=Tryz.zeroValue0,
 t3:=Tryz.underlying3,
 a3:=Tryz.isAgg3,
 z3:=Tryz.sizeOf3,
 v3:=Tryz.zeroValue3,
 t4:=tR,
 a4:=Tryz.isAgg4,
 z4:=Tryz.sizeOf4,
 v4:=Tryz.zeroValue4,
 t5:=Tryz.underlying5,
 a5:=Tryz.isAgg5,
 z5:=Tryz.sizeOf5,
 v5:=Tryz.zeroValue5,
 t9:=ss,
 a9:=Tryz.isAgg9,
 z9:=Tryz.sizeOf9,
 v9:=Tryz.zeroValue9,
 t22:=Tryz.underlying204,
 a22:=Tryz.isAgg204,
 z22:=Tryz.sizeOf204,
 v22:=Tryz.zeroValue204,
 t25:=Tryz.underlying239,
 a25:=Tryz.isAgg239,
 z25:=Tryz.sizeOf239,
 v25:=Tryz.zeroValue239,
 t39:=Tryz.underlying191,
 a39:=Tryz.isAgg191,
 z39:=Tryz.sizeOf191,
 v39:=Tryz.zeroValue191,
 t45:=Tryz.underlying260,
 a45:=Tryz.isAgg260,
 z45:=Tryz.sizeOf260,
 v45:=Tryz.zeroValue260,
 t46:=Tryz.underlying261,
 a46:=Tryz.isAgg261,
 z46:=Tryz.sizeOf261,
 v46:=Tryz.zeroValue261,
 t50:=Tryz.underlying128,
 a50:=Tryz.isAgg128,
 z50:=Tryz.sizeOf128,
 v50:=Tryz.zeroValue128,
 t53:=Tryz.underlying108,
 a53:=Tryz.isAgg108,
 z53:=Tryz.sizeOf108,
 v53:=Tryz.zeroValue108,
 t55:=Tryz.underlying155,
 a55:=Tryz.isAgg155,
 z55:=Tryz.sizeOf155,
 v55:=Tryz.zeroValue155,
 t66:=Tryz.underlying272,
 a66:=Tryz.isAgg272,
 z66:=Tryz.sizeOf272,
 v66:=Tryz.zeroValue272,
 t70:=Tryz.underlying276,
 a70:=Tryz.isAgg276,
 z70:=Tryz.sizeOf276,
 v70:=Tryz.zeroValue276,
 t76:=Tryz.underlying278,
 a76:=Tryz.isAgg278,
 z76:=Tryz.sizeOf278,
 v76:=Tryz.zeroValue278,
 t77:=Tryz.underlying279,
 a77:=Tryz.isAgg279,
 z77:=Tryz.sizeOf279,
 v77:=Tryz.zeroValue279 }
open Go.RowKit Go.Sort Go.Shelf
structure TmE where
 neg:Bool
 A:Option Addr
 n:Nat
 c:Nat
 z:Int
 mo:Mo
instance:Inhabited TmE:=⟨⟨false,none,0,0,0,Mo.one⟩⟩
def nz (l:Sp):Sp:=l.filter fun x=>decide (x.1 ≠ 0)
end Go.Proofs.YtheefiaoimbeiaaGreatDoor

set_option maxRecDepth 100000
set_option maxHeartbeats 8000000
namespace Go.Proofs.YtheefiaoimbeiaaGreatDoor
open Lib (hid)
open Go.RowKit
mutual
theorem PlV.dig {w : World} {q : Nat -> Prop} : ∀ (p : Pl) (v : Value), PlV w q p v -> p.dig
 | .mk l n d cs,v,h=>by
   unfold PlV at h;obtain ⟨s,A,c,e,h1,h2,h3,h4⟩:=h;unfold Pl.dig;exact ⟨h1.xi,jdk.dig cs A 0 h4⟩
theorem jdk.dig {w : World} {q : Nat -> Prop} : ∀ (cs : List Pl) (A : Option Addr) (j : Nat), jdk w q cs A j -> gdy cs
 | [],A,j,h=>by unfold gdy; trivial
 | c :: r,A,j,h=>by
   unfold jdk at h;obtain ⟨⟨ad,s,K,e,hb,hq,h1,h2⟩,h3⟩:=h;unfold gdy;exact ⟨PlV.dig c _ h2,jdk.dig r A (j+1) h3⟩
end
theorem vdt {w:World} {q:Nat->Prop} {p:Pl} (v:Value) (h:PlV w q p v) (hp:p.Can):Calls Tryz.prog 97 #[v] w (gdl (fun b=>q b\/w.heap.size<=b) p w):=by
 have ajE:=h.dig;obtain ⟨A0,n0,c0,A,c,rfl,abM,hl1,hl2,h4⟩:=h.open_;obtain ⟨W,hW⟩:=n_m ((w.alloc (.cells #[.int .i64 p.lv,.bool p.neg,.slice A0 n0 c0,.slice A p.cs.length c] 44)).alloc (.cells #[.int .i64 0,.bool false,.slice none 0 0,.slice none 0 0] 44));have hWx:Ext w W:=by rw [<- hW]; exact ((Ext.refl w).alloc _).alloc _
 have hWs:W.heap.size=w.heap.size+1+1:=by rw [<- hW]; simp
 have hbx:jdm W w.heap.size p (.slice A0 n0 c0) (.slice A p.cs.length c):=by rw [<- hW]; exact (jdm.new w p _ _ _).ext ((Ext.refl _).alloc _) (by simp)
 have hz:zdl W (w.heap.size+1):=by
  have:=zdl.new (w.alloc (.cells #[.int .i64 p.lv,.bool p.neg,.slice A0 n0 c0,.slice A p.cs.length c] 44)) 44;rw [hW] at this;simpa using this
 obtain ⟨b0,b1,b2,b3⟩:=id hbx;have aq3:PlV w (fun b=>q b/\b < w.heap.size) p (plV p (.slice A0 n0 c0) (.slice A p.cs.length c)):=PlV.qO (pf _) (fun _ _ h=>h) (fun b hb hq=>⟨⟨hq,hb⟩,rfl⟩) h;have HPL:=hid aq3;have HWX:=hid hWx;have HBX:=hid hbx;have HZ:=hid hz;have HCN:=hid ((Pl.ze p ajE).2 hp);clear h abM h4 hWx hbx hz aq3 ajE hp;unfold plV;go_enter Tryz.func97,Tryz.ntmps97;go_wp2_with fail;clear hW b0 b1 b2 b3;refine (kfr p _ (HPL.out.ext HWX.out)).mono ?_;rw [HCN.out];rintro e w1 ⟨rfl,x1⟩;obtain ⟨b0,b1,b2,b3⟩:=HBX.out.ext x1 (by omega);have hs1:=x1.size;have X1:=hid (HWX.out.trans x1);have HZ1:=hid (HZ.out.ext x1 (by omega));clear x1;have HF:=hid (zdm (q':=fun b=>q b\/w.heap.size<=b) X1.out (rY _) HZ1.out (HPL.out.ext X1.out) (fun b _ hb=>⟨by omega,.inl hb.1⟩));obtain ⟨⟨z0,z1,z2,z3⟩,zf⟩:=HZ1.out;clear HZ1 HPL HCN;go_wp2_with fail;exact bodyPost_ret (v:=plV p (.slice A0 n0 c0) (.slice A p.cs.length c)) (by simp [results,Tryz.results97,go_sem,z0,z1,z2,z3,plV]) rfl HF.out
theorem xfr {w:World} {q:Nat->Prop} (p P:Pl) (v:Value) (h:PlV w q p v) (hca:∀ W,Ext w W->Calls Tryz.prog 124 #[v] W (gdl (fun b=>W.heap.size<=b) P W)):Calls Tryz.prog 94 #[v] w fun e w'=>e=.returned (.int .i64 P.lv)/\Ext w w':=by
 have HH:=hid h;obtain ⟨A0,n0,c0,A,c,rfl,abM,hl1,hl2,h4⟩:=h.open_;obtain ⟨W,hW⟩:=n_m (w.alloc (.cells #[.int .i64 p.lv,.bool p.neg,.slice A0 n0 c0,.slice A p.cs.length c] 44));have hWx:Ext w W:=by rw [<- hW]; exact (Ext.refl w).alloc _
 obtain ⟨b0,b1,b2,b3⟩:jdm W w.heap.size p (.slice A0 n0 c0) (.slice A p.cs.length c):=by rw [<- hW]; exact jdm.new w p _ _ _
 have HWX:=hid hWx;have HCA:=hid hca;clear h abM h4 hWx hca;unfold plV at *;go_enter Tryz.func94,Tryz.ntmps94;go_wp2_with fail;clear hW b0 b1 b2 b3;refine (HCA.out _ HWX.out).mono ?_;rintro e w1 ⟨v1,rfl,p1,x1⟩;obtain ⟨C0,j0,f0,C1,f1,rfl,-⟩:=id p1.open_;have X1:=hid (HWX.out.trans x1);clear p1 x1;have hfl:∀ W,(Instr.field 44 (.agg #[.int .i64 P.lv,.bool P.neg,.slice C0 j0 f0,.slice C1 P.cs.length f1]) 0).run Tryz.prog W=.ok (.int .i64 P.lv) W:=fun W=>by kernel_rfl
 unfold plV at *;go_wp2_with fail;go_ret;exact ⟨rfl,X1.out⟩
theorem xfh {w:World} {q:Nat->Prop} (p P:Pl) (v:Value) (h:PlV w q p v) (hca:∀ W,Ext w W->Calls Tryz.prog 97 #[v] W (gdl (fun b=>q b\/W.heap.size<=b) P W)) (af7:P.Can) (hnf:P.sz<=1099511627776) (aBn:P.dm<=35184372088832):Calls Tryz.prog 124 #[v] w (gdl (fun b=>w.heap.size<=b) P w):=by
 have HH:=hid h;obtain ⟨A0,n0,c0,A,c,rfl,abM,hl1,hl2,h4⟩:=h.open_;obtain ⟨W,hW⟩:=n_m ((w.alloc (.cells #[.int .i64 p.lv,.bool p.neg,.slice A0 n0 c0,.slice A p.cs.length c] 44)).alloc (.cells #[.int .i64 0,.bool false,.slice none 0 0,.slice none 0 0] 44));have hWx:Ext w W:=by rw [<- hW]; exact ((Ext.refl w).alloc _).alloc _
 have hWs:W.heap.size=w.heap.size+1+1:=by rw [<- hW]; simp
 obtain ⟨b0,b1,b2,b3⟩:jdm W w.heap.size p (.slice A0 n0 c0) (.slice A p.cs.length c):=by rw [<- hW]; exact (jdm.new w p _ _ _).ext ((Ext.refl _).alloc _) (by simp)
 have hz:zdl W (w.heap.size+1):=by
  have:=zdl.new (w.alloc (.cells #[.int .i64 p.lv,.bool p.neg,.slice A0 n0 c0,.slice A p.cs.length c] 44)) 44;rw [hW] at this;simpa using this
 have HWX:=hid hWx;have HZ:=hid hz;have HCA:=hid hca;clear h abM h4 hWx hz hca;have axe:=hid af7;clear af7;unfold plV at *;go_enter Tryz.func124,Tryz.ntmps124;go_wp2_with fail;clear hW b0 b1 b2 b3;refine (HCA.out _ HWX.out).mono ?_;rintro e w1 ⟨v1,rfl,p1,x1⟩;have HC:=hid (ud8 P v1 axe.out hnf (by omega) p1);obtain ⟨C0,j0,f0,C1,f1,rfl,-⟩:=id p1.open_;have X1:=hid (HWX.out.trans x1);have HZ1:=hid (HZ.out.ext x1 (by omega));have hs1:=x1.size;clear p1 x1;unfold plV at *;go_wp2_with fail;refine HC.out.mono ?_;rintro e w2 ⟨v2,rfl,p2,x2⟩;obtain ⟨D0,j1,g0,D1,g1,rfl,-⟩:=id p2.open_;obtain ⟨⟨z0,z1,z2,z3⟩,zf⟩:=HZ1.out.ext x2 (by omega);have HF:=hid (zdm (q':=fun b=>w.heap.size<=b) (X1.out.trans x2) (rY _) (HZ1.out.ext x2 (by omega)) p2 (fun b _ hb=>⟨by omega,by omega⟩));clear p2 x2 HC HZ1;unfold plV;go_wp2_with fail;exact bodyPost_ret (v:=plV P (.slice D0 j1 g0) (.slice D1 P.cs.length g1)) (by simp [results,Tryz.results124,go_sem,z0,z1,z2,z3,plV]) rfl HF.out
theorem ge9 {w:World} {q:Nat->Prop} {p:Pl} (v:Value) (h:PlV w q p v) (hp:p.Can) (hsz:p.sz<=1099511627776) (hdm:p.dm<=35184372088832):Calls Tryz.prog 124 #[v] w (gdl (fun b=>w.heap.size<=b) p w):=
 xfh p p v h (fun W hW=>vdt v (h.ext hW) hp) hp hsz hdm
def weq (p:Pl):Prop:=p.sz<=1099511627776/\p.nf.sz<=1099511627776/\∀ (w:World) (q:Nat->Prop) (v:Value),PlV w q p v->Calls Tryz.prog 124 #[v] w (gdl (fun b=>w.heap.size<=b) p.nf w)
theorem kf6 {p:Pl} (hc:p.Can) (h:p.sz<=1099511627776) (hd:p.dm<=1099511627776):weq p:=⟨h,by rw [Pl.qR hc]; exact h,fun _ _ v hv=>by rw [Pl.qR hc]; exact ge9 v hv hc h (by omega)⟩
theorem we9 {w:World} {q:Nat->Prop} {p:Pl} (v:Value) (h:PlV w q p v) (hb:weq p):Calls Tryz.prog 124 #[v] w (gdl (fun b=>w.heap.size<=b) p.nf w):=hb.2.2 _ _ v h
theorem yfj {w:World} {q:Nat->Prop} {p:Pl} (v:Value) (h:PlV w q p v) (hb:weq p):Calls Tryz.prog 94 #[v] w fun e w'=>e=.returned (.int .i64 p.nf.lv)/\Ext w w':=
 xfr p p.nf v h fun _ hW=>we9 v (h.ext hW) hb
mutual
def Mx.each (P : Pl -> Prop) : Mx -> Prop
 | .mk _ _ p ks=>P p/\xeb P ks
def xeb (P : Pl -> Prop) : List Mx -> Prop
 | []=>True
 | t :: r=>t.each P/\xeb P r
end
theorem jee {P:Pl->Prop} {l:List Mx} {t:Mx} (h:xeb P l) (ht:t ∈ l):t.each P:=by
 induction l with
 | nil=>cases ht
 | cons x r ih =>
   rw [xeb] at h;rcases pI.1 ht with rfl | ht
   · exact h.1
   · exact ih h.2 ht
theorem Mx.zT {P:Pl->Prop} {t:Mx} (h:t.each P):xeb P t.ks:=by cases t; rw [Mx.each] at h; exact h.2
theorem Mx.yz {P:Pl->Prop} {t:Mx} (h:t.each P):P t.p:=by cases t; rw [Mx.each] at h; exact h.1
mutual
theorem Mx.xN {P Q : Pl -> Prop} (hq : ∀ p, P p -> Q p) : ∀ t : Mx, t.each P -> t.each Q
 | .mk _ _ p ks,h=>by rw [Mx.each] at h ⊢; exact ⟨hq p h.1,qet hq ks h.2⟩
theorem qet {P Q : Pl -> Prop} (hq : ∀ p, P p -> Q p) : ∀ l : List Mx, xeb P l -> xeb Q l
 | [],_=>by rw [xeb]; trivial
 | t :: r,h=>by rw [xeb] at h ⊢; exact ⟨Mx.xN hq t h.1,qet hq r h.2⟩
end
def ud4 (r:Int):Int:=if r < 1\/6 < r then 3 else r
theorem Mx.zD (t:Mx) (k:Nat) (hk:k < t.ks.length):t.ks[k].sz < t.sz:=by
 cases t with
 | mk kd r p ks=>have:=xf1 (l:=ks) (pt hk); simp only [Mx.sz,Mx.ks] at *; omega
theorem Mx.yx (t:Mx):t.ks.length < t.sz:=by
 cases t with
 | mk kd r p ks=>have:=qf1 ks; simp only [Mx.sz,Mx.ks] at *; omega
theorem jgn (W:World) (q:Nat->Prop) (k r:Int):MxV W q (.mk k r Pl.zero []) (mxV (.mk k r Pl.zero []) (.slice none 0 0) (.slice none 0 0) (.slice none 0 0)):=
 MxV.mk (t:=.mk k r Pl.zero []) (c:=0) (Pl.qV W q none 0 (by omega)) (by simp [Mx.ks]) (by omega) (by unfold Mx.ks zdr; trivial)
attribute [local go_sem] uds ydr qdt kds zdt wds vds ydp xdr gds xdt udv qdn ydt xdp
theorem Ext.xW {w w':World} (hx:Ext w w'):w.grownBy w' none:=⟨hx.below.os,hx.below.tape,hx.below.output,hx.size,fun k hk _=>hx.below.block k hk⟩
def ownB (v:Value):Nat->Prop:=fun i=>v.ownBlock=some i
def strs (l:List ByteArray):List Value:=l.map Value.string
theorem wed (l:List ByteArray) (s:ByteArray):strs (l ++ [s])=strs l ++ [.string s]:=by simp [strs]
def jdl (w:World) (base:Nat) (v:Value) (l:List ByteArray):Prop:=w.ownsRow base 9 1 v l.length (strs l)
theorem jdl.nil (w:World) (base:Nat):jdl w base (.slice none 0 0) []:=World.ownsRow_nil w base _ _
theorem jdl.ext {w w':World} {base:Nat} {v:Value} {l:List ByteArray} (h:jdl w base v l) (hx:Ext w w'):jdl w' base v l:=
 World.ownsRow.kept h (row:=none) hx.xW (by cases hv:v.ownBlock <;> simp)
theorem jdl.lt {w:World} {base:Nat} {v:Value} {l:List ByteArray} (h:jdl w base v l):∀ k,v.ownBlock=some k->base<=k/\k < w.heap.size:=uO h
theorem qdk.zX {w w':World} {v v':Value} (hg:w.grownBy w' v.ownBlock) (ha:v'.ownBlock=v.ownBlock\/v'.ownBlock=some w.heap.size):qdk (ownB v) w (ownB v') w':=
 ⟨rR hg,rK hg,rE hg,ud hg,fun i hi hn=>pW hg i hi (fun e=>hn e.symm),fun i hi ho=>by
   unfold ownB at ho ⊢;rcases ha with h | h
   · rw [<- h]; exact ho
   · rw [h] at ho; injection ho with e; omega⟩
theorem jfi {w:World} {g:Nat} {x:Value} (h:w.cell? ⟨g,0,none⟩=some x):∀ j u,[x][j]?=some u->w.cell? ((⟨g,0,none⟩:Addr).add j)=some u:=by
 intro j u hu;cases j with
 | zero=>simp at hu; rw [kdo,<- hu]; exact h
 | succ j=>simp at hu
def Fm.bound : Fm -> List ByteArray
 | .truth _=>[]
 | .atom _ _ _=>[]
 | .not f=>f.bound
 | .and f g=>f.bound ++ g.bound
 | .or f g=>f.bound ++ g.bound
 | .imp f g=>f.bound ++ g.bound
 | .iff f g=>f.bound ++ g.bound
 | .quant _ s f=>s :: f.bound
def gdr (l:List Fm):List ByteArray:=l.flatMap Fm.bound
theorem qej (l:List Fm) (k:Nat) (h:k < l.length):gdr (l.take (k+1))=gdr (l.take k) ++ (l[k]).bound:=by
 unfold gdr;rw [pg h,tV,List.flatMap_singleton]
def Fm.qZ : Fm -> Bool
 | .quant _ _ _=>true
 | _=>false
theorem Fm.zL (t:Fm) (h:t.qZ=false):t.bound=gdr t.kids:=by
 cases t <;> simp_all [Fm.bound,Fm.kids,gdr,Fm.qZ]
theorem FmV.yp {w:World} {L:Nat} {t:Fm} {v:Value} (h:FmV w L t v) (hn:t.qZ=false):∃ T x,v=.iface T x/\¬ T=79:=by
 cases t <;> (simp only [FmV] at h) <;> first | (cases hn; done) | exact ⟨_,_,h,by decide⟩ | (obtain ⟨_,e,_⟩:=h; exact ⟨_,_,e,by decide⟩) | (obtain ⟨_,_,e,_⟩:=h; exact ⟨_,_,e,by decide⟩)
theorem vek (l:List Fm) (h:∀ f ∈ l,f.bound.length<=f.sz):(gdr l).length<=xdn l:=by
 induction l with
 | nil=>simp [gdr,xdn]
 | cons f r ih =>
   have h1:=ih (fun g hg=>h g (rk _ hg));have h2:=h f rB;simp only [gdr,xdn,rG,pz,rL,List.sum_cons] at *;omega
theorem Fm.qY (t:Fm):t.bound.length<=t.sz:=by
 induction t <;> simp [Fm.bound,Fm.sz] <;> omega
def ufu (base:Nat) (l:List ByteArray) (W:World) (s:Value) (e:Ending) (W':World):Prop:=∃ s',e=.returned s'/\jdl W' base s' l/\qdk (ownB s) W (ownB s') W'
theorem zei:(Tryz.prog.info? 9).map (fun i=>(i.zero,i.size,i.bytes))=some (some (.string ByteArray.empty),1,16):=by kernel_rfl
theorem xev {w0:World} {L base:Nat} (n:Nat) :
 ∀ (t:Fm) (v:Value),t.sz < n->FmV w0 L t v->∀ (W:World) (s:Value) (l:List ByteArray),jdl W base s l->base<=W.heap.size->l.length+t.sz<=1099511627776 ->
 Calls Tryz.prog 61 #[v,s] W (ufu base (l ++ t.bound) W s):=by
 induction n with
 | zero=>intro t v ht; omega
 | succ n ih =>
 intro t v ht h W s l hR hb hl;have IH:=hid ih;have HR:=hid hR;have H:=hid h;clear ih hR;obtain ⟨i0,hi,hz0,hz1,hz2⟩:=info_parts zei;have HI0:Hid (Tryz.prog.info? 9=some i0/\i0.zero=some (.string ByteArray.empty)/\i0.size=1/\i0.bytes=16):=by
  have:Tryz.prog.info? 9=some i0/\i0.zero=some (.string ByteArray.empty)/\i0.size=1/\i0.bytes=16:=⟨hi,hz0,hz1,hz2⟩;exact this
 clear hi hz0 hz1 hz2
 by_cases hn:t.qZ=true
 · cases t with
   | quant al q f =>
     obtain ⟨x,rfl,hx⟩:=h;obtain ⟨T,x,rfl⟩:=hx.iface;clear hx;have hl1:l.length+(f.sz+1)<=1099511627776:=hl;go_enter Tryz.func61,Tryz.ntmps61
     go_wp2_with (at_builtin
                  refine wpList_append_own_at _ rfl (.tmp 15) (.tmp 18) _ rfl base 9 i0 (.string ByteArray.empty) 1 16 Tryz.underlying34 HI0.out.1 HI0.out.2.1 HI0.out.2.2.1 HI0.out.2.2.2 rfl (by omega) _ l.length (strs l) rfl (World.ownsRow.alloc (World.ownsRow.alloc HR.out _) _) ⟨W.heap.size+1,0,none⟩ 1 1 [.string q] rfl rfl (jfi ?_) ?_ ?_ ?_ ?_ ?_)
     · simp [go_sem]
     · simp [Value.oneCell']
     · unfold maxLen; omega
     · omega
     · simp; omega
     · intro v' w1 ad8 hg' _ afH;have hr1:jdl w1 base v' (l ++ [q]):=by
        unfold jdl;rw [wed]; simpa using ad8
       have hk1:qdk (ownB s) W (ownB v') w1:=(qdk.qo (((Ext.refl W).alloc _).alloc _)).trans (qdk.zX hg' (by simpa using afH));have HR1:=hid hr1;have HK1:=hid hk1;have aw0:=hid hr1.lt;have hw1:=hk1.size;clear ad8 hg' afH hr1 hk1;go_wp2_with fail;refine (ydw (Fm.quant al q f) H.out).mono ?_;rintro e w2 ⟨s2,rfl,hs,hf,hx⟩;obtain ⟨ks,hks⟩:=n_m ((Fm.quant al q f).kids);rw [hks] at hs;have HKS:=hid hks;have hlen:ks.length<=2:=by rw [<- hks]; exact Fm.qz _
       clear hks;obtain ⟨A,c,rfl⟩:=hs.len;have HS:=hid hs;have HF:=hid hf;have HX:=hid hx;have hw2:=hx.size;clear hs hf hx;go_wp2_with fail
       go_loopw [1,23] (fun lv iv wr=>∃ k:Nat,k<=ks.length/\iv=.int .i64 k/\Hid (jdl wr base lv (l ++ [q] ++ gdr (ks.take k))/\qdk (ownB v') w2 (ownB lv) wr)) (fun _ iv _=>ks.length - (intOf iv).toNat)
       case atStart=>exact ⟨0,pM _,rfl,⟨by simpa [gdr] using HR1.out.ext HX.out,qdk.refl _ _⟩⟩
       case round =>
        obtain ⟨k,hk,rfl,⟨hR',hk'⟩⟩:=hrel;have HR':=hid hR';have HK':=hid hk';have hw':=hk'.size;clear hR' hk'
        by_cases hlt:k < ks.length
        · obtain ⟨ad,y,rfl,hc,hp⟩:=SlR.qt (SlR.keeps HS.out HK'.out (fun ad n c e=>fun ho=>by
           have h1:=HF.out ad n c e;have h2:=(aw0.out _ ho).2
           omega)) k hlt
          have HP:=hid hp;obtain ⟨U,y,rfl⟩:=hp.iface;clear hp;have hkl:ks[k].sz < (Fm.quant al q f).sz:=Fm.qD _ _ (by rw [HKS.out]; exact pt hlt);have HLE:Hid ((l ++ [q] ++ gdr (ks.take k)).length+ks[k].sz<=1099511627776):=by
           have h1:=vek (ks.take k) (fun g _=>g.qY);have h2:xdn (ks.take k)+ks[k].sz<=xdn ks:=by
            have e1:xdn (ks.take (k+1))=xdn (ks.take k)+ks[k].sz:=by
             unfold xdn; rw [pg hlt,rC,si,um,uh]
            have e2:xdn ks=xdn (ks.take (k+1))+xdn (ks.drop (k+1)):=by
             unfold xdn; rw [<- si,<- rC,rl]
            omega
           have h3:=zeb (Fm.quant al q f);rw [HKS.out] at h3;have:(l ++ [q] ++ gdr (ks.take k)).length+ks[k].sz<=1099511627776:=by
            simp only [pz,py,pQ];omega
           exact this
          go_wp2_with fail;refine (IH.out (ks[k]) _ (by omega) HP.out _ _ _ HR'.out (by omega) HLE.out).mono ?_;rintro e w3 ⟨s3,rfl,hR3,hk3⟩;have HR3:=hid hR3;have HK3:=hid hk3;clear hR3 hk3 hc;go_wp2_with fail
          go_roundw
          case rel=>exact ⟨k+1,by omega,by go_num,⟨by rw [qej _ _ hlt,<- uG]; exact HR3.out,HK'.out.trans HK3.out⟩⟩
          case measure=>simp [intOf]; omega
        · have HKE:Hid (k=ks.length):=by
           have:k=ks.length:=by omega
           exact this
          go_wp2_with fail;go_ret;refine ⟨_,rfl,?_,(HK1.out.trans (qdk.qo HX.out)).trans HK'.out⟩;have:=HR'.out;rw [HKE.out,pw,<- HKS.out] at this;simpa [Fm.bound,Fm.kids,gdr] using this
   | _=>simp [Fm.qZ] at hn
 · have HN:Hid (t.qZ=false):=by
    have:t.qZ=false:=by simpa using hn
    exact this
   obtain ⟨T,x,rfl,hT⟩:=h.yp HN.out;clear h hn;have hlen:=t.qz;have HLT:=hid HR.out.lt;go_enter Tryz.func61,Tryz.ntmps61;go_wp2_with fail;refine (ydw t H.out).mono ?_;rintro e w2 ⟨s2,rfl,hs,hf,hx⟩;obtain ⟨A,c,rfl⟩:=hs.len;have HX:Hid (Ext W w2):=by
    have:Ext W w2:=((Ext.refl W).alloc _).trans hx;exact this
   have HS:=hid hs;have HF:=hid hf;have hw2:=HX.out.size;clear hs hf hx;go_wp2_with fail
   go_loopw [1,23] (fun lv iv wr=>∃ k:Nat,k<=t.kids.length/\iv=.int .i64 k/\Hid (jdl wr base lv (l ++ gdr (t.kids.take k))/\qdk (ownB s) w2 (ownB lv) wr)) (fun _ iv _=>t.kids.length - (intOf iv).toNat)
   case atStart=>exact ⟨0,pM _,rfl,⟨by simpa [gdr] using HR.out.ext HX.out,qdk.refl _ _⟩⟩
   case round =>
    obtain ⟨k,hk,rfl,⟨hR',hk'⟩⟩:=hrel;have HR':=hid hR';have HK':=hid hk';have hw':=hk'.size;clear hR' hk'
    by_cases hlt:k < t.kids.length
    · obtain ⟨ad,y,rfl,hc,hp⟩:=SlR.qt (SlR.keeps HS.out HK'.out (fun ad n c e=>fun ho=>by
       have h1:=HF.out ad n c e;have h2:=(HLT.out _ ho).2
       simp at h1; omega)) k hlt
      have HP:=hid hp;obtain ⟨U,y,rfl⟩:=hp.iface;clear hp;have hkl:t.kids[k].sz < t.sz:=Fm.qD _ _ (pt hlt);have HLE:Hid ((l ++ gdr (t.kids.take k)).length+t.kids[k].sz<=1099511627776):=by
       have h1:=vek (t.kids.take k) (fun g _=>g.qY);have h2:xdn (t.kids.take k)+t.kids[k].sz<=xdn t.kids:=by
        have e1:xdn (t.kids.take (k+1))=xdn (t.kids.take k)+t.kids[k].sz:=by
         unfold xdn; rw [pg hlt,rC,si,um,uh]
        have e2:xdn t.kids=xdn (t.kids.take (k+1))+xdn (t.kids.drop (k+1)):=by
         unfold xdn; rw [<- si,<- rC,rl]
        omega
       have h3:=zeb t;have:(l ++ gdr (t.kids.take k)).length+t.kids[k].sz<=1099511627776:=by
        simp only [pz];omega
       exact this
      go_wp2_with fail;refine (IH.out (t.kids[k]) _ (by omega) HP.out _ _ _ HR'.out (by omega) HLE.out).mono ?_;rintro e w3 ⟨s3,rfl,hR3,hk3⟩;have HR3:=hid hR3;have HK3:=hid hk3;clear hR3 hk3 hc;go_wp2_with fail
      go_roundw
      case rel=>exact ⟨k+1,by omega,by go_num,⟨by rw [qej _ _ hlt,<- uG]; exact HR3.out,HK'.out.trans HK3.out⟩⟩
      case measure=>simp [intOf]; omega
    · have HKE:Hid (k=t.kids.length):=by
       have:k=t.kids.length:=by omega
       exact this
      go_wp2_with fail;go_ret;refine ⟨_,rfl,?_,(qdk.qo HX.out).trans HK'.out⟩;have:=HR'.out;rw [HKE.out,pw,<- Fm.zL t HN.out] at this;exact this
def wew (l:List ByteArray) (w:World) (e:Ending) (w':World):Prop:=∃ s,e=.returned s/\jdl w' w.heap.size s l/\Ext w w'
theorem yel {w0 w:World} {L:Nat} (t:Fm) {v:Value} (h:FmV w0 L t v) (hl:t.sz<=1099511627776):Calls Tryz.prog 27 #[v] w (wew t.bound w):=by
 go_enter Tryz.func27,Tryz.ntmps27;go_wp2_with fail;refine (xev (t.sz+1) t v (pO _) h w _ [] (jdl.nil w w.heap.size) (pf _) (by simpa using hl)).mono ?_;rintro e w1 ⟨s1,rfl,hR,hk⟩;have hx:Ext w w1:=hk.ext (Ext.refl w) (fun i ho=>by unfold ownB at ho; simp [Value.ownBlock] at ho);have HX:=hid hx;have HR:=hid hR;clear hx hk hR h;go_wp2_with fail;go_ret;exact ⟨_,rfl,by simpa using HR.out,HX.out⟩
end Go.Proofs.YtheefiaoimbeiaaGreatDoor
