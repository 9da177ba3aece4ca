/- Layer 22: sparse.Level. -/
import Derived.Shelf.SlSortCmp.Whole1
import Derived.Test.YtcepajijiabkmaaGreatMp49
set_option linter.unusedSimpArgs false
set_option linter.unusedVariables false

set_option maxRecDepth 100000
set_option maxHeartbeats 8000000
namespace Go.Proofs.YtcepajijiabkmaaGreat
open Lib (hid)
open Go.RowKit Go.Shelf
attribute [local go_sem] Oper.semAt_some vby kby jby qby vca kca jca qca
def up (e i h:Int):Int:=if 0 < e/\h < i then i else h
def xal (m : Mo) : Nat -> Int
 | 0=>m.a
 | 1=>m.b
 | 2=>m.c
 | _=>m.d
def ube (m : Mo) (t : Int) : Nat -> Int
 | 0=>t
 | k+1=>up (xal m k) (k+1) (ube m t k)
theorem qax (m:Mo) (t:Int) (k:Nat):ube m t (k+1)=up (xal m k) (k+1) (ube m t k):=rfl
def Mo.Kh (m:Mo):Int:=if 0 < m.d then 4 else if 0 < m.c then 3 else if 0 < m.b then 2 else if 0 < m.a then 1 else 0
def qaf (l:Sp):Int:=l.foldl (fun a x=>max a x.2.Kh) 0
theorem qcn (m:Mo) (t:Int) (h:0<=t):ube m t 4=max t m.Kh:=by
 simp only [ube,up,xal,Mo.Kh]
 repeat' split
 all_goals omega
theorem xcn (l:Sp) (k:Nat) (hk:k < l.length):qaf (l.take (k+1))=max (qaf (l.take k)) l[k].2.Kh:=by
 unfold qaf;rw [pC hk,List.foldl_append]; rfl
theorem xbp : ∀ (l : Sp) (a : Int), a <= l.foldl (fun a x => max a x.2.Kh) a
 | [],a=>ub _
 | x :: r,a=>Int.le_trans (by omega) (xbp r (max a x.2.Kh))
theorem zb6 (l:Sp):0<=qaf l:=xbp l 0
theorem ga4 : ∀ (l : Sp) (a : Int), 0 <= a -> (0 < l.foldl (fun a x => max a x.2.Kh) a ↔ 0 < a \/ ∃ x ∈ l, 0 < x.2.Kh)
 | [],a,_=>by simp
 | x :: r,a,h=>by
   rw [Sn,ga4 r (max a x.2.Kh) (by omega)];simp only [pQ,exists_eq_or_imp]
   constructor
   · rintro (h1 | h1)
     · by_cases h2:0 < a
       · exact .inl h2
       · exact .inr (.inl (by omega))
     · exact .inr (.inr h1)
   · rintro (h1 | h1 | h1)
     · exact .inl (by omega)
     · exact .inl (by omega)
     · exact .inr h1
theorem wcw {l:Sp}:0 < qaf l ↔ ∃ x ∈ l,0 < x.2.Kh:=by
 unfold qaf;rw [ga4 l 0 (ub _)]; simp
theorem xcs {w:World} {A:Option Addr} {n c:Nat} {l:Sp} (hc:Calls Tryz.prog 31 #[.slice A n c] w (ya4 l w)):Calls Tryz.prog 28 #[.slice A n c] w (jbs l w):=by
 have bH:=hid hc;clear hc;go_enter Tryz.func28,Tryz.ntmps28;go_wp2_with fail;refine bH.out.mono ?_;rintro e w2 ⟨v2,rfl,h2,x2⟩;obtain ⟨A2,c2,rfl,-⟩:=id h2
 have HF:Hid (jbs l w (.returned (.func (.func 52) #[] #[.pointer (some ⟨w2.heap.size,0,none⟩)])) (w2.alloc (.cells #[.slice A2 l.length c2] 23))):=
  hid ⟨_,_,rfl,by simp [go_sem],x2.size,by simp,h2.ext ((Ext.refl w2).alloc _),x2.alloc _⟩
 clear x2 h2 bH;go_wp2_with fail;go_ret;exact HF.out
structure LvP (B : Nat) (w W W' : World) (h : Int) : Prop where
 from_:KeepsFrom B W W'
 keep:gp w.heap.size W W'
 ext:Ext w W'
 size:B<=W'.heap.size
 box:W'.heap[w.heap.size]?=some (.cells #[.int .i64 h] 3 (0,0))
theorem LvP.cell {B:Nat} {w W W':World} {h:Int} (p:LvP B w W W' h):W'.cell? ⟨w.heap.size,0,none⟩=some (.int .i64 h):=box1 p.box
theorem LvP.free {B:Nat} {w W W':World} {h:Int} (p:LvP B w W W' h):W'.frozen? ⟨w.heap.size,0,none⟩=false:=by simp [World.frozen?,p.box]
theorem LvP.put {B : Nat} {w W W' : World} {h v : Int} (p : LvP B w W W' h) (hB : w.heap.size < B) : LvP B w W (W'.setCell ⟨w.heap.size, 0, none⟩ (.int .i64 v)) v where
 from_:=p.from_.trans (KeepsFrom.of_grownBy (grownBy_setCell' W' _ _) (fun j e=>by injection e with e; omega))
 keep:=p.keep.trans (gp.setCell _ W' _ p.cell rfl)
 ext:=p.ext.setCell (pj _) _
 size:=by
  have h1:=p.size;have:(W'.setCell ⟨w.heap.size,0,none⟩ (.int .i64 v)).heap.size=W'.heap.size:=by simp [World.setCell]
  omega
 box:=Boxed.set _ p.box
theorem LvP.done {B:Nat} {w W W':World} {h h':Int} (p:LvP B w W W' h) (e:h=h'):KeepsFrom B W W'/\gp w.heap.size W W'/\Ext w W'/\B<=W'.heap.size/\W'.heap[w.heap.size]?=some (.cells #[.int .i64 h'] 3 (0,0)):=by
 subst e; exact ⟨p.from_,p.keep,p.ext,p.size,p.box⟩
theorem zcx {w:World} {A0:Option Addr} {l0 k0:Nat} {l:Sp} (HN:∀ W',Ext w W'->Calls Tryz.prog 31 #[.slice A0 l0 k0] W' (ya4 l W')) (gZ:∀ x ∈ l,(dg x.1.natAbs).length<=1099511627776) (hlen:l.length<=1099511627776):Calls Tryz.prog 8 #[.slice A0 l0 k0] w (gbf (qaf l) w):=by
 have nM:=hid gZ;have MM:=hid (fun (W':World) (hx:Ext w W')=>xcs (HN W' hx));clear gZ HN;have nH:∀ k:Nat,(Fence.wide.depth.isSome=true->1<=k):=fun k h=>by cases h
 obtain ⟨V0,fV⟩:=n_m ((w.alloc (.cells #[.int .i64 0] 3)));obtain ⟨W0,FP⟩:=n_m ((V0.setCell ⟨w.heap.size,0,none⟩ (.int .i64 0)));have aC:Ext w W0:=by rw [<- FP,<- fV]; exact ((Ext.refl w).alloc _).setCell (pj _) _
 have iT:W0.heap.size=w.heap.size+1:=by rw [<- FP,<- fV]; simp [World.setCell]
 have Ll:V0.heap[w.heap.size]?=some (.cells #[.int .i64 0] 3 (0,0)):=by rw [<- fV]; exact heap_alloc_new w _
 have FM:W0.heap[w.heap.size]?=some (.cells #[.int .i64 0] 3 (0,0)):=by rw [<- FP]; exact Boxed.set _ Ll
 have c0:V0.cell? ⟨w.heap.size,0,none⟩=some (.int .i64 0):=box1 Ll;have f0:V0.frozen? ⟨w.heap.size,0,none⟩=false:=by simp [World.frozen?,Ll]
 clear Ll;have ay:=hid aC;have Gt:=hid FM;clear aC FM;refine (callsIn_wide (n:=5)).1 ?_;refine callsIn_of_wp_marks Tryz.func8 rfl trivial ?_ rfl;simp only [Tryz.ntmps8,tP,pL,r8,Nat.reduceAdd,Nat.reduceSub,uW,uR,Pb,we,tI,rI]
 gi_wp2_with fail
 clear FP fV c0 f0;refine ⟨trivial,?_⟩;refine (callsIn_wide.2 (MM.out W0 ay.out)).mono ?_;rintro e w2 ⟨B2,v2,rfl,dO,qW,xH,⟨A2,k2,rfl,yY,hk2,aK⟩,x2⟩;have X2:=hid (ay.out.trans x2);have WI:=hid ((x2.below.block _ (by omega)).trans Gt.out);have jG:=x2.size;have vV:=hid (fun n=>kbn w.heap.size yY hk2 aK (aK.apart WI.out) (fun x hx=>nM.out x hx) B2 xH (by omega) dO n);clear x2 dO aK MM ay Gt
 gi_wp2_with fail
 refine xbv (by omega) (gf := 52) (lb := #[.pointer (some ⟨B2, 0, none⟩)]) rfl (enters_of Tryz.func52 (by kernel_rfl) rfl) (vV.out _) gp.trans (fun W l o o' _ h1 h2 _ => gp.putObj _ W l o o' h1 h2) (Below.refl _ _) (fun _ => rfl)
  (fun k W=>Ext w W/\w2.heap.size<=W.heap.size/\W.heap[w.heap.size]?=some (.cells #[.int .i64 (qaf (l.take k))] 3 (0,0)))
  ?ownI ?startI
  (fun k x a' W=>(∃ g,a'={ tmps:=#[.slice A0 l0 k0,undef,.int .i64 0,.pointer (some ⟨w.heap.size,0,none⟩),.pointer (some ⟨g,0,none⟩),undef,undef,.slice A0 l0 k0,.func (.func 52) #[] #[.pointer (some ⟨B2,0,none⟩)],.agg #[.int .i64 x.1.a,.int .i64 x.1.b,.int .i64 x.1.c,.int .i64 x.1.d],x.2,undef,undef,undef,undef,undef,undef,undef,undef,undef,undef,undef,undef,undef,undef,undef,undef,undef],defers:=[] }/\w2.heap.size<=g/\W.heap[g]?=some (.cells #[.int .i64 x.1.a,.int .i64 x.1.b,.int .i64 x.1.c,.int .i64 x.1.d] 61 (0,0)))/\(∃ h:k < l.length,x.1=l[k].2)/\Ext w W/\w2.heap.size<=W.heap.size/\W.heap[w.heap.size]?=some (.cells #[.int .i64 (qaf (l.take k))] 3 (0,0)))
  ?ownA ?assign ?body ?done
 case ownI =>
  rintro k W W' row ⟨h1,h2,h3⟩ hg hr;exact ⟨Below.grown h1.below hg h1.size (fun r e=>by have:=(hr r e).1; have:=h1.size; have:=X2.out.size; omega),py h2 hg.size,cells_kept hg (fun r e=>(hr r e).2) h3⟩
 case startI=>exact ⟨X2.out,pj _,WI.out⟩
 case ownA =>
  rintro k x a' s W W' row ⟨⟨g,ha,jT,dR⟩,hk,h1,h2,h3⟩ hg hr;have fJ:=fun r e=>(hr r e).2
  exact ⟨⟨g,ha,jT,cells_kept hg fJ dR⟩,hk,Below.grown h1.below hg h1.size (fun r e=>by have:=(hr r e).1; have:=h1.size; have:=X2.out.size; omega),py h2 hg.size,cells_kept hg fJ h3⟩
 case assign =>
  rintro lp k ⟨mk,xv⟩ W K hk ⟨h1,h2,h3⟩ ⟨lW,hm,hz⟩ hK;dsimp only at hm hz;have hx1:Ext W (W.alloc (.cells #[.int .i64 mk.a,.int .i64 mk.b,.int .i64 mk.c,.int .i64 mk.d] 61)):=(Ext.refl W).alloc _;have HK:=hK { tmps:=#[.slice A0 l0 k0,undef,.int .i64 0,.pointer (some ⟨w.heap.size,0,none⟩),.pointer (some ⟨W.heap.size,0,none⟩),undef,undef,.slice A0 l0 k0,.func (.func 52) #[] #[.pointer (some ⟨B2,0,none⟩)],.agg #[.int .i64 mk.a,.int .i64 mk.b,.int .i64 mk.c,.int .i64 mk.d],xv,undef,undef,undef,undef,undef,undef,undef,undef,undef,undef,undef,undef,undef,undef,undef,undef,undef],defers:=[] } _ (xas hx1) (gp.q9 _ hx1) ⟨⟨W.heap.size,rfl,h2,heap_alloc_new W _⟩,⟨lW,hm⟩,h1.trans hx1,py h2 hx1.size,(hx1.below.block _ (by have:=X2.out.size; have:=h1.size; omega)).trans h3⟩;have PH:=hid HK;clear HK hK h1 h2 h3 hx1 hz hm;simp only [xbs,moV]
  gi_wp2
  exact PH.out
 case body =>
  rintro lp k ⟨mk,xv⟩ a' W hk ⟨⟨g,rfl,jT,dR⟩,⟨lW,hm⟩,h1,h2,h3⟩;dsimp only at hm dR;have bY:Hid (qaf (l.take (k+1))=ube mk (qaf (l.take k)) 4):=hid (by rw [xcn l k lW,hm,qcn _ _ (zb6 _)]);have HP0:Hid (LvP w2.heap.size w W W (qaf (l.take k))):=hid ⟨KeepsFrom.refl _ _,gp.refl _ _,h1,h2,h3⟩;have kG:Hid (∀ (W':World) (h v:Int),LvP w2.heap.size w W W' h->LvP w2.heap.size w W (W'.setCell ⟨w.heap.size,0,none⟩ (.int .i64 v)) v):=hid (fun W' h v hp=>hp.put (by have:=X2.out.size; have:=jG; have:=iT; omega));obtain ⟨m0,m1,m2,m3⟩:=box4 dR;clear h1 h2 h3 dR hm;rw [bY.out];generalize hL0:qaf (l.take k)=tk at HP0;clear bY;obtain ⟨xa,eU⟩:=n_m (mk.a);obtain ⟨xb,nO⟩:=n_m (mk.b);obtain ⟨xc,AO⟩:=n_m (mk.c);obtain ⟨xd,Zu⟩:=n_m (mk.d);rw [eU] at m0;rw [nO] at m1;rw [AO] at m2;rw [Zu] at m3;have HM:=hid (show mk.a=xa/\mk.b=xb/\mk.c=xc/\mk.d=xd from ⟨eU,nO,AO,Zu⟩);clear eU nO AO Zu
  gi_wp2_with fail
  clear m0 m1 m2 m3
  gi_loopw [12] (fun iv wr=>∃ k:Nat,k<=4/\iv=.int .i64 k/\∃ h,Hid (LvP w2.heap.size w W wr h/\ube mk tk k=h)) (fun iv _=>4 - (intOf iv).toNat)
  case atStart=>exact ⟨0,by omega,rfl,tk,hid ⟨HP0.out,rfl⟩⟩
  case round =>
   obtain ⟨k,hk,rfl,h,HR⟩:=hrel;have t0:=HR.out.1.cell;have tf:=HR.out.1.free;have Ep:=hid (fun v=>kG.out _ _ v HR.out.1);rcases (by omega:k=0\/k=1\/k=2\/k=3\/k=4) with rfl | rfl | rfl | rfl | rfl
   · have HN:=hid (qax mk tk 0)
     by_cases hp:0 < xa
     · by_cases hq:h < 1
       · gi_wp2_with fail
         go_roundw
         case rel=>exact ⟨1,by omega,by first | rfl | go_num,1,hid ⟨Ep.out _,by rw [HN.out,HR.out.2]; simp [up,xal,HM.out,hp,hq]⟩⟩
         case measure=>simp [intOf]
       · gi_wp2_with fail
         go_roundw
         case rel=>exact ⟨1,by omega,by first | rfl | go_num,h,hid ⟨HR.out.1,by rw [HN.out,HR.out.2]; simp [up,xal,HM.out,hp,hq]⟩⟩
         case measure=>simp [intOf]
     · gi_wp2_with fail
       go_roundw
       case rel=>exact ⟨1,by omega,by first | rfl | go_num,h,hid ⟨HR.out.1,by rw [HN.out,HR.out.2]; simp [up,xal,HM.out,hp]⟩⟩
       case measure=>simp [intOf]
   · have HN:=hid (qax mk tk 1)
     by_cases hp:0 < xb
     · by_cases hq:h < 2
       · gi_wp2_with fail
         go_roundw
         case rel=>exact ⟨2,by omega,by first | rfl | go_num,2,hid ⟨Ep.out _,by rw [HN.out,HR.out.2]; simp [up,xal,HM.out,hp,hq]⟩⟩
         case measure=>simp [intOf]
       · gi_wp2_with fail
         go_roundw
         case rel=>exact ⟨2,by omega,by first | rfl | go_num,h,hid ⟨HR.out.1,by rw [HN.out,HR.out.2]; simp [up,xal,HM.out,hp,hq]⟩⟩
         case measure=>simp [intOf]
     · gi_wp2_with fail
       go_roundw
       case rel=>exact ⟨2,by omega,by first | rfl | go_num,h,hid ⟨HR.out.1,by rw [HN.out,HR.out.2]; simp [up,xal,HM.out,hp]⟩⟩
       case measure=>simp [intOf]
   · have HN:=hid (qax mk tk 2)
     by_cases hp:0 < xc
     · by_cases hq:h < 3
       · gi_wp2_with fail
         go_roundw
         case rel=>exact ⟨3,by omega,by first | rfl | go_num,3,hid ⟨Ep.out _,by rw [HN.out,HR.out.2]; simp [up,xal,HM.out,hp,hq]⟩⟩
         case measure=>simp [intOf]
       · gi_wp2_with fail
         go_roundw
         case rel=>exact ⟨3,by omega,by first | rfl | go_num,h,hid ⟨HR.out.1,by rw [HN.out,HR.out.2]; simp [up,xal,HM.out,hp,hq]⟩⟩
         case measure=>simp [intOf]
     · gi_wp2_with fail
       go_roundw
       case rel=>exact ⟨3,by omega,by first | rfl | go_num,h,hid ⟨HR.out.1,by rw [HN.out,HR.out.2]; simp [up,xal,HM.out,hp]⟩⟩
       case measure=>simp [intOf]
   · have HN:=hid (qax mk tk 3)
     by_cases hp:0 < xd
     · by_cases hq:h < 4
       · gi_wp2_with fail
         go_roundw
         case rel=>exact ⟨4,by omega,by first | rfl | go_num,4,hid ⟨Ep.out _,by rw [HN.out,HR.out.2]; simp [up,xal,HM.out,hp,hq]⟩⟩
         case measure=>simp [intOf]
       · gi_wp2_with fail
         go_roundw
         case rel=>exact ⟨4,by omega,by first | rfl | go_num,h,hid ⟨HR.out.1,by rw [HN.out,HR.out.2]; simp [up,xal,HM.out,hp,hq]⟩⟩
         case measure=>simp [intOf]
     · gi_wp2_with fail
       go_roundw
       case rel=>exact ⟨4,by omega,by first | rfl | go_num,h,hid ⟨HR.out.1,by rw [HN.out,HR.out.2]; simp [up,xal,HM.out,hp]⟩⟩
       case measure=>simp [intOf]
   · gi_wp2_with fail
     simp only [ga6];exact HR.out.1.done HR.out.2.symm
 case done =>
  rintro D W hD ⟨h1,h2,h3⟩ hK;rw [pP] at h3;have t0:=box1 h3;have H1:=hid h1;have PI:=hid hK;have yH:=X2.out.size;clear h1 h2 h3 hK
  gi_wp2_with fail
  refine ⟨by simp,.inl ⟨_,_,rfl,run_takeDeferred PI.out,?_⟩⟩;exact ⟨.int .i64 (qaf l),by simp [results,Tryz.results8,go_sem],rfl,Below.grown H1.out.below (grownBy_putObj' _ D _) H1.out.size (fun k e=>by injection e with e; omega)⟩
theorem jcn {w:World} {v:Value} {l:Sp} (h:SpV w none v l) (hc:xg l=l) (gZ:∀ x ∈ l,(dg x.1.natAbs).length<=1099511627776) (hL:(dg (zg l)).length<=1099511627776) (hlen:l.length<=1099511627776):Calls Tryz.prog 8 #[v] w (gbf (qaf l) w):=by
 have HN:=fun (W':World) (hx:Ext w W')=>gac 1099511627776 (h.ext hx) (fun z ⟨x,hx,e⟩=>by rw [<- e]; exact gZ x hx) (by omega) hlen
 rw [hc] at HN;obtain ⟨A,c,rfl,-⟩:=h;exact zcx HN gZ hlen
end Go.Proofs.YtcepajijiabkmaaGreat

namespace Go.Proofs.YtcepajijiabkmaaGreat
open Lib (hid)
def ubg:Go.Shelf.Ren:=⟨fun | 6=>45 | 14=>73 | 20=>94 | 21=>95 | 22=>96 | 23=>97 | 24=>98 | 25=>99 | 26=>100 | 27=>101 | 46=>118 | 47=>119 | 48=>120 | 49=>121 | 50=>122 | 15=>74 | 57=>148 | 28=>102 | 29=>103 | n=>n,fun | 24=>23 | 22=>48 | 3=>3 | 25=>73 | 4=>4 | 0=>0 | 46=>127 | 45=>126 | 50=>115 | 66=>146 | 39=>85 | 55=>67 | 70=>150 | 76=>168 | 77=>169 | 53=>84 | 5=>5 | 9=>9 | n=>n,fun | n=>n⟩
theorem zck : Go.Proofs.SlLaysF.n6 Tryz.prog ubg := {
 mixed:=by kernel_rfl,
 f6:=⟨Tryz.f45.name,by decide,Tryz.func45.trans (congrArg some (by kernel_rfl))⟩,
 f14:=⟨Tryz.f73.name,by decide,Tryz.func73.trans (congrArg some (by kernel_rfl))⟩,
 f15:=Tryz.func74.trans (congrArg some (by kernel_rfl)),
 f20:=⟨Tryz.f94.name,by decide,Tryz.func94.trans (congrArg some (by kernel_rfl))⟩,
 f21:=⟨Tryz.f95.name,by decide,Tryz.func95.trans (congrArg some (by kernel_rfl))⟩,
 f22:=⟨Tryz.f96.name,by decide,Tryz.func96.trans (congrArg some (by kernel_rfl))⟩,
 f23:=⟨Tryz.f97.name,by decide,Tryz.func97.trans (congrArg some (by kernel_rfl))⟩,
 f24:=⟨Tryz.f98.name,by decide,Tryz.func98.trans (congrArg some (by kernel_rfl))⟩,
 f25:=⟨Tryz.f99.name,by decide,Tryz.func99.trans (congrArg some (by kernel_rfl))⟩,
 f26:=⟨Tryz.f100.name,by decide,Tryz.func100.trans (congrArg some (by kernel_rfl))⟩,
 f27:=⟨Tryz.f101.name,by decide,Tryz.func101.trans (congrArg some (by kernel_rfl))⟩,
 f28:=Tryz.func102.trans (congrArg some (by kernel_rfl)),
 f29:=Tryz.func103.trans (congrArg some (by kernel_rfl)),
 f46:=⟨Tryz.f118.name,by decide,Tryz.func118.trans (congrArg some (by kernel_rfl))⟩,
 f47:=Tryz.func119.trans (congrArg some (by kernel_rfl)),
 f48:=Tryz.func120.trans (congrArg some (by kernel_rfl)),
 f49:=⟨Tryz.f121.name,by decide,Tryz.func121.trans (congrArg some (by kernel_rfl))⟩,
 f50:=⟨Tryz.f122.name,by decide,Tryz.func122.trans (congrArg some (by kernel_rfl))⟩,
 f57:=⟨Tryz.f148.name,by decide,Tryz.func148.trans (congrArg some (by kernel_rfl))⟩,
 t0:=Tryz.underlying0,
 a0:=Tryz.isAgg0,
 z0:=Tryz.sizeOf0,
 v0:=Tryz.zeroValue0,
 t3:=Tryz.underlying3,
 a3:=Tryz.isAgg3,
 z3:=Tryz.sizeOf3,
 v3:=Tryz.zeroValue3,
 t4:=SR,
 a4:=Tryz.isAgg4,
 z4:=Tryz.sizeOf4,
 v4:=Tryz.zeroValue4,
 t5:=Tryz.underlying5,
 a5:=Tryz.isAgg5,
 z5:=Tryz.sizeOf5,
 v5:=Tryz.zeroValue5,
 t9:=Tryz.underlying9,
 a9:=Tryz.isAgg9,
 z9:=Tryz.sizeOf9,
 v9:=Tryz.zeroValue9,
 t22:=Tryz.underlying48,
 a22:=Tryz.isAgg48,
 z22:=Tryz.sizeOf48,
 v22:=Tryz.zeroValue48,
 a24:=Tryz.isAgg23,
 z24:=Tryz.sizeOf23,
 t25:=Tryz.underlying73,
 a25:=Tryz.isAgg73,
 z25:=Tryz.sizeOf73,
 v25:=Tryz.zeroValue73,
 t39:=Tryz.underlying85,
 a39:=Tryz.isAgg85,
 z39:=Tryz.sizeOf85,
 v39:=Tryz.zeroValue85,
 t45:=Tryz.underlying126,
 a45:=Tryz.isAgg126,
 z45:=Tryz.sizeOf126,
 v45:=Tryz.zeroValue126,
 t46:=Tryz.underlying127,
 a46:=Tryz.isAgg127,
 z46:=Tryz.sizeOf127,
 v46:=Tryz.zeroValue127,
 t50:=Tryz.underlying115,
 a50:=Tryz.isAgg115,
 z50:=Tryz.sizeOf115,
 v50:=Tryz.zeroValue115,
 t53:=Tryz.underlying84,
 a53:=Tryz.isAgg84,
 z53:=Tryz.sizeOf84,
 v53:=Tryz.zeroValue84,
 t55:=Tryz.underlying67,
 a55:=Tryz.isAgg67,
 z55:=Tryz.sizeOf67,
 v55:=Tryz.zeroValue67,
 t66:=Tryz.underlying146,
 a66:=Tryz.isAgg146,
 z66:=Tryz.sizeOf146,
 v66:=Tryz.zeroValue146,
 t70:=Tryz.underlying150,
 a70:=Tryz.isAgg150,
 z70:=Tryz.sizeOf150,
 v70:=Tryz.zeroValue150,
 t76:=Tryz.underlying168,
 a76:=Tryz.isAgg168,
 z76:=Tryz.sizeOf168,
 v76:=Tryz.zeroValue168,
 t77:=Tryz.underlying169,
 a77:=Tryz.isAgg169,
 z77:=Tryz.sizeOf169,
 v77:=Tryz.zeroValue169 }
open Go
theorem gcq {α:Type} (a:Ask α):∀ w:World,w.drawn<=(w.ask a).2.drawn:=by
 induction a with
 | done a=>intro w; exact pj _
 | ask what range k ih =>
   intro w;unfold World.ask;simp only []
   split
   · exact ih _ _
   · exact py (r6 w.drawn) (ih _ { w with drawn:=w.drawn+1 })
theorem jcj (w:World) (c:Sys):w.drawn<=(w.sys c).2.drawn:=by
 have h:=gcq (Kernel.perform c w.os) w;unfold World.sys
 split
 · exact pj _
 · rename_i r os w' _ e;rw [e] at h;exact h
theorem zbc {ε α β:Type} {x:Except ε α} {f:α->Except ε β} {b:β} (h:x.bind f=.ok b):∃ a,x=.ok a/\f a=.ok b:=by
 cases x with
 | error e=>cases h
 | ok a=>exact ⟨a,rfl,h⟩
theorem ybg {p:Program} {w w':World} {at_:Addr} {u:TypeId} {k:Addr} {v:Value} {b:Bool} {l:List Addr} (h:w.viewStore p at_ u k v b=.ok (w',l)):w'.drawn=w.drawn:=by
 unfold World.viewStore at h;simp only [bind] at h
 split at h
 · cases h
 obtain ⟨a,-,h⟩:=zbc h
 split at h
 · split at h
   · cases h
   obtain ⟨c,-,h⟩:=zbc h;injection h with h
   injection h with h
   rw [<- h]
 · cases h
theorem jbm {p:Program} {w w':World} {a:Addr} {v:Value} {b:Bool} {l:List Addr} (h:w.farStore p a v b=.ok (w',l)):w'.drawn=w.drawn:=by
 unfold World.farStore at h
 split at h
 · split at h
   · rename_i e;injection h with h
     rw [h] at e;exact ybg e
   · cases h
 · cases h
def zbv {α : Type} : Result α -> World
 | .ok _ w=>w
 | .halt _ w=>w
theorem vaw {α:Type} (p:Program) (s:Sem α):∀ w:World,w.drawn<=(zbv (s.run p w)).drawn:=by
 induction s with
 | pure a=>intro w; exact pj _
 | load m a k ih =>
   intro w;unfold Sem.run
   split
   · exact ih _ _
   · split
     · exact ih _ _
     · exact pj _
 | store m a v k ih =>
   intro w
   have key:w.drawn<=(zbv (match w.cell? a with
    | some _ => if w.frozen? a then .halt (.unsupported (.unsafePointer "a write to bytes that a string shares")) w else k.run p (w.setCell a v)
    | none=>match w.farStore p a v (m == .atomic) with
      | .ok (w,_)=>k.run p w
      | .error h=>.halt h w)).drawn:=by
    split
    · split
      · exact pj _
      · exact ih (w.setCell a v)
    · split
      · rename_i e;rw [<- jbm e];exact ih _
      · exact pj _
   cases v <;> first | exact pj _ | exact key
 | new o k ih=>intro w; exact ih _ { w with heap:=w.heap.push o }
 | shape r k ih=>intro w; exact ih _ _
 | freeze a n k ih =>
   intro w;have:(w.freeze a n).drawn=w.drawn:=by unfold World.freeze; split <;> rfl
   exact this ▸ ih (w.freeze a n)
 | frozen a k ih=>intro w; exact ih _ _
 | getObj r k ih =>
   intro w;unfold Sem.run
   split
   · exact pj _
   · exact ih _ _
   · exact pj _
 | setObj r o k ih =>
   intro w;unfold Sem.run
   split
   · exact pj _
   · exact ih { w with heap:=w.heap.setIfInBounds r o }
   · exact pj _
 | choose q k ih =>
   intro w;unfold Sem.run
   split
   · exact ih _ _
   · exact py (r6 w.drawn) (ih _ { w with drawn:=w.drawn+1 })
 | sys c k ih =>
   intro w;exact py (jcj w c) (ih _ _)
 | program k ih=>intro w; exact ih _ _
 | mark m k ih=>intro w; exact ih _
 | halt h=>intro w; exact pj _
theorem yat {α:Type} (p:Program) (s:Sem α) (w:World) (es:Array Event):w.drawn<=(zbv (s.runT p w es).1).drawn:=by
 rw [Sem.runT_fst]; exact vaw p s w
theorem zc6 {α:Type} {p:Program} {s:Sem α} {w w':World} {a:α} {es es':Array Event} (h:s.runT p w es=(.ok a w',es')):w.drawn<=w'.drawn:=by
 have:=yat p s w es; rw [h] at this; exact this
theorem zcl {α:Type} {p:Program} {s:Sem α} {w w':World} {a:Halt} {es es':Array Event} (h:s.runT p w es=(.halt a w',es')):w.drawn<=w'.drawn:=by
 have:=yat p s w es; rw [h] at this; exact this
def gW (n : Nat) : GStep -> Prop
 | .go _ w _ | .comm _ _ _ _ w _ | .spawn _ _ w _ | .count _ w _ | .timer _ _ w _ | .alone _ _ w _ | .newcoro _ _ _ w _ | .coroswitch _ _ _ w _ | .collect _ w _ | .watch _ w _=>n<=w.drawn
 | .ended ..=>True
theorem gai {n:Nat} {es:Array Event} {s:GStep} (h:gW n s):gW n (s.after es):=by cases s <;> exact h
theorem gW.mono {n m:Nat} {s:GStep} (h:gW n s) (hm:m<=n):gW m s:=by
 cases s <;> first | exact trivial | exact py hm h
theorem gaz {n:Nat} {c:Prop} [Decidable c] {a b:GStep} (ha:gW n a) (hb:gW n b):gW n (if c then a else b):=by
 split
 · exact ha
 · exact hb
theorem gca {n:Nat} {α:Type} {o:Option α} {b:GStep} {f:α->GStep} (hb:gW n b) (hf:∀ a,gW n (f a)):gW n (o.elim b f):=by
 cases o with
 | none=>exact hb
 | some a=>exact hf a
theorem jw {α:Type} {p:Program} {s:Sem α} {w w':World} {a:α} (h:s.run p w=.ok a w'):w.drawn<=w'.drawn:=by
 have:=vaw p s w; rw [h] at this; exact this
theorem qcf {α:Type} {p:Program} {s:Sem α} {w w':World} {a:Halt} (h:s.run p w=.halt a w'):w.drawn<=w'.drawn:=by
 have:=vaw p s w; rw [h] at this; exact this
theorem qb7 (fr:Frame) (l:List ByteArray) (m:String) (b:Bool) (w:World):gW w.drawn (dieOf fr l m b w):=pj _
theorem gaj (fr:Frame) (m:String) (w:World):gW w.drawn (endThrow fr m w):=pj _
theorem gbr (w:World) (fd:Nat) (t:ByteArray) (o:Outcome):gW w.drawn (endWith w fd t o):=by
 unfold endWith;dsimp only
 split
 · split
   · exact trivial
   · exact trivial
 · exact trivial
 · exact trivial
theorem uas (p:Program) (fr:Frame) (v:Value) (w:World):gW w.drawn (endPrinting p fr v w):=by
 unfold endPrinting;simp only []
 split
 · exact gaj _ _ _
 · exact trivial
theorem ya0 (p:Program) (fr:Frame) (callers:List Frame) (dying:Option Dying) (m:String) (w:World):gW w.drawn (endFatal p fr callers dying m w):=by
 unfold endFatal;simp only []
 split
 · rename_i e; exact (qb7 _ _ _ _ _).mono (jw e)
 · exact trivial
 · exact trivial
theorem qbr (p:Program) (fr:Frame) (d:Dying) (f:Fatal) (w:World):gW w.drawn (writeOn p fr d f w):=by
 unfold writeOn;simp only []
 split
 · exact trivial
 · split
   · rename_i e;exact zc6 e
   · rename_i e;exact zcl e
   · exact trivial
   · exact trivial
theorem vai {α:Type} {p:Program} {s:Sem α} {w:World} {r:Result α} {es es':Array Event} (h:s.runT p w es=(r,es')):w.drawn<=(zbv r).drawn:=by
 have:=yat p s w es; rw [h] at this; exact this
theorem ucp (p:Program) (fr:Frame) (d:Dying) (w:World):gW w.drawn (die p fr d w):=by
 unfold die
 split
 · exact qbr _ _ _ _ _
 · split
   · split
     · exact pj _
     · exact gbr _ _ _ _
   · dsimp only
     split
     · exact pj _
     · split
       · rename_i e; exact jw e
       · exact trivial
     · generalize hr:Sem.runT p (invoke _ _) w #[]=x;obtain ⟨r,es⟩:=x;have hd:=vai hr;dsimp only;refine gai ?_;clear hr
       revert hd
       split <;> intro hd
       · exact hd
       · exact hd
       · exact trivial
       · exact (uas _ _ _ _).mono hd
       · exact trivial
     · exact trivial
theorem waj (p:Program) (main:Bool) (fr:Frame) (callers:List Frame) (dying:Option Dying) (v:Value) (w:World):gW w.drawn (doReturn p main fr callers dying v w):=by
 unfold doReturn
 split
 · split <;> exact pj _
 · split
   · exact pj _
   · exact trivial
   · split
     · exact pj _
     · split
       · exact pj _
       · exact trivial
theorem za8 (p:Program) (fr:Frame) (callers:List Frame) (dying:Option Dying) (d:Deferred) (w:World):gW w.drawn (callDeferred p fr callers dying d w):=by
 unfold callDeferred;refine gaz trivial ?_
 · generalize hr:Sem.runT p (invoke _ _) w #[]=x;obtain ⟨r,es⟩:=x;have hd:=vai hr;dsimp only;refine gai ?_;clear hr
   revert hd
   split <;> intro hd
   all_goals first
     | exact trivial
     | exact hd
     | exact (ya0 _ _ _ _ _ _).mono hd
     | exact (gaj _ _ _).mono hd
     | (split <;> exact hd)
theorem ubs (p:Program) (main:Bool) (fr:Frame) (callers:List Frame) (dying:Option Dying) (w:World):gW w.drawn (unwind p main fr callers dying w):=by
 unfold unwind
 split
 · generalize hr:Sem.runT p (Instr.takeDeferred _) w #[]=x;obtain ⟨r,es⟩:=x;have hd:=vai hr;dsimp only;refine gai ?_;clear hr
   revert hd
   split <;> intro hd
   · exact hd
   · exact trivial
 · exact za8 _ _ _ _ _ _
 · split
   · exact trivial
   · split
     · exact trivial
     · split
       · exact pj _
       · split
         · split
           · exact pj _
           · split
             · rename_i e; exact jw e
             · exact trivial
             · exact trivial
         · split
           · exact uas _ _ _ _
           · exact trivial
   · split
     · exact waj _ _ _ _ _ _ _
     · generalize hr:Sem.runT p (results _ _) w #[]=x;obtain ⟨r,es⟩:=x;have hd:=vai hr;dsimp only;refine gai ?_;clear hr
       revert hd
       split <;> intro hd
       · exact (waj _ _ _ _ _ _ _).mono hd
       · exact trivial
       · exact trivial
theorem zb7 (p:Program) (fr:Frame) (callers:List Frame) (dying:Option Dying) (g:Nat) (w:World):gW w.drawn (early p fr callers dying g w):=by
 have notYet:∀ (w0 w:World),w0.drawn<=w.drawn->gW w0.drawn (match w.heap[g]? with
  | some (.pending c elem) =>
    GStep.go { frame:=fr,callers,status:=.running,dying } { w with heap:=w.heap.setIfInBounds g (.cells c elem) }
  | _ => .ended (.stuck "early: the variable does not wait" (fr.pos p)) w) := by
  intro w0 w h
  split
  · exact h
  · exact trivial
 unfold early;dsimp only
 split
 · exact notYet w w (pj _)
 · split
   · exact trivial
   · split
     · exact notYet w w (pj _)
     · split
       · exact notYet w w (pj _)
       · split
         · exact trivial
         · exact pj _
         · exact trivial
         · exact notYet w w (pj _)
         · split
           · exact pj _
           · split
             · exact notYet w w (pj _)
             · split
               · rename_i e; exact notYet w _ (jw e)
               · rename_i e; exact jw e
               · exact trivial
theorem kak (p:Program) (listen:Bool) (fr:Frame) (callers:List Frame) (dying:Option Dying) (s:Sem Next) (w:World):gW w.drawn (stepG.apply p listen fr callers dying s w):=by
 unfold stepG.apply;dsimp only;generalize hr:(if listen=true then s.runT p w #[] else (s.run p w,#[]))=x;have hd:w.drawn<=(zbv x.1).drawn:=by
  rw [<- hr]
  split
  · exact yat p s w #[]
  · exact vaw p s w
 obtain ⟨r,es⟩:=x;dsimp only at hd ⊢;refine gai ?_;clear hr
 revert hd
 split <;> intro hd
 all_goals first
   | exact trivial
   | exact hd
   | exact (ya0 _ _ _ _ _ _).mono hd
   | exact (gaj _ _ _).mono hd
   | exact (zb7 _ _ _ _ _ _).mono hd
   | (refine gaz ((gaj _ _ _).mono hd) hd)
   | (split <;> exact hd)
theorem vce (p:Program) (listen:Bool) (fr:Frame) (callers:List Frame) (dying:Option Dying) (w:World):gW w.drawn (stepG.oper p listen fr callers dying w):=by
 unfold stepG.oper
 split
 · exact trivial
 · split
   · exact kak _ _ _ _ _ _ _
   · exact kak _ _ _ _ _ _ _
theorem ycg (p:Program) (main listen:Bool) (fr:Frame) (callers:List Frame) (dying:Option Dying) (w:World):gW w.drawn (stepG.exec p main listen fr callers dying w):=by
 have leave:∀ jump:Option Code,gW w.drawn (match fr.roundOf with
  | none => if jump matches none | some .ret then .go { frame := { fr with mode := .returning }, callers, status := .running, dying } w else .ended (.stuck "exit, goto: no such block or label" (fr.pos p)) w
  | some l =>
    let (r,es):=(Instr.endRound l jump).runT p w #[]
    GStep.after (seen p fr.fn es) <| match r with
    | .ok v w=>doReturn p main fr callers dying v w
    | .halt _ w => .ended (.stuck "range over a function: no such loop" (fr.pos p)) w) := by
  intro jump
  split
  · exact gaz (pj _) trivial
  · generalize hr:Sem.runT p (Instr.endRound _ jump) w #[]=x;obtain ⟨r,es⟩:=x;have hd:=vai hr;dsimp only;refine gai ?_;clear hr
    revert hd
    split <;> intro hd
    · exact (waj _ _ _ _ _ _ _).mono hd
    · exact trivial
 unfold stepG.exec;dsimp only
 split
 all_goals first
   | exact pj _
   | exact trivial
   | exact leave none
   | exact leave (some .ret)
   | exact kak _ _ _ _ _ _ _
   | (refine gca ?_ (fun _=>pj _)
      split
      · exact gaz (pj _) trivial
      · refine gai ?_;generalize hr:Sem.runT p (Instr.endRound _ _) w #[]=x;have hd:=vai (r:=x.1) (es':=x.2) hr;clear hr;obtain ⟨r,es⟩:=x;dsimp only at hd ⊢
        revert hd
        split <;> intro hd
        · exact (waj _ _ _ _ _ _ _).mono hd
        · exact trivial)
   | exact gca trivial (fun _=>kak _ _ _ _ _ _ _)
   | exact gaz (vce _ _ _ _ _ _) (pj _)
   | (split <;> first | exact pj _ | exact trivial)
   | (refine gaz (pj _) ?_
      split
      · rename_i e; exact jw e
      · exact trivial)
   | skip
 all_goals refine gai ?_
 · generalize hr:Sem.runT p (Instr.enterLoop _ _ _ _ _ _) w #[]=x;have hd:=vai (r:=x.1) (es':=x.2) hr;clear hr;obtain ⟨r,es⟩:=x;dsimp only at hd ⊢
   revert hd
   split <;> intro hd
   · exact (kak _ _ _ _ _ _ _).mono hd
   · exact trivial
 · generalize hr:Sem.runT p (Instr.endLoop _) w #[]=x;have hd:=vai (r:=x.1) (es':=x.2) hr;clear hr;obtain ⟨r,es⟩:=x;dsimp only at hd ⊢
   revert hd
   split <;> intro hd
   · exact hd
   · exact hd
   · exact trivial
theorem wb3 (p:Program) (main:Bool) (g:Goroutine) (w:World) (listen:Bool):gW w.drawn (stepG p main g w listen):=by
 unfold stepG;dsimp only
 split
 · exact ucp _ _ _ _
 · exact ycg _ _ _ _ _ _ _
 · exact ubs _ _ _ _ _ _
def sW (n : Nat) : Stepped -> Prop
 | .next m=>n<=m.world.drawn
 | .ended ..=>True
theorem sW.mono {n m:Nat} {s:Stepped} (h:sW n s) (hm:m<=n):sW m s:=by
 cases s <;> first | exact trivial | exact py hm h
theorem zbg {rest:Rest} {cases:Array CommCase} {w w':World} (h:waitingAt rest cases w=some w'):w'.drawn=w.drawn:=by
 unfold waitingAt at h
 split at h
 · split at h
   · injection h with h; rw [<- h]
   · cases h
 · injection h with h; rw [h]
theorem wcg (p:Program) (rest:Rest) (gs:Array Goroutine) (i:Nat) (g:Goroutine) (cases:Array CommCase) (blocking:Bool) (shape:CommShape) (w:World):sW w.drawn (communicate p rest gs i g cases blocking shape w).1:=by
 unfold communicate;dsimp only
 split
 · exact trivial
 · split
   · split
     · split
       · rename_i e; exact Nat.le_of_eq (zbg e).symm
       · exact trivial
     · exact pj _
   · split
     · exact trivial
     · rename_i e;have hd:=jw e;clear e
       split
       · split
         · rename_i e;have h2:=qcf e;exact py hd h2
         · exact trivial
       · exact hd
       · exact hd
       · split
         · exact hd
         · split
           · rename_i e;have h2:=jw e;exact py hd h2
           · exact trivial
       · exact hd
       · exact hd
       · exact trivial
theorem yb7 (w:World) (c:Nat):(drain w c).2.drawn=w.drawn:=by
 unfold drain
 split <;> rfl
theorem za6 (m:Machine) (k:Nat) (t:Timer) (a b:Nat):(retime m k t a b).2.world.drawn=m.world.drawn:=by
 have h:(match t.chan with | some c=>drain m.world c | none=>(false,m.world)).2.drawn=m.world.drawn:=by
  split
  · exact yb7 _ _
  · rfl
 exact h
theorem jbr {m m':Machine} {op:TimerOp} {v:Value} (h:timerOp m op=.ok (v,m')):m'.world.drawn=m.world.drawn:=by
 have hn:∀ (m m2:Machine) (var:Addr) (f:Nat->Timer->Value × Machine),(∀ k t,(f k t).2.world.drawn=m2.world.drawn)->timerOp.named m var f=.ok (v,m')->m'.world.drawn=m2.world.drawn:=by
  intro m m2 var f hf h;unfold timerOp.named at h
  split at h
  · injection h with h
    have hs:_=m':=congrArg Prod.snd h;rw [<- hs];exact hf _ _
  · cases h
 unfold timerOp at h
 split at h
 · split at h
   · injection h with h; injection h with _ h; rw [<- h]; rfl
   · split at h
     · split at h
       · cases h
       · injection h with h; injection h with _ h; rw [<- h]
     · cases h
 · exact hn _ m _ _ (fun k t=>za6 _ _ _ _ _) h
 · split at h
   · rename_i m2 e;have:=hn _ m2 _ _ (fun k t=>za6 _ _ _ _ _) h;rw [this];unfold timerOp.opened at e
     split at e
     · split at e
       · injection e with e; rw [<- e]
       · cases e
     · injection e with e; rw [e]
   · cases h
 · injection h with h; injection h with _ h; rw [<- h]; rfl
theorem jb4 (p:Program) (m:Machine) (k:Nat):sW m.world.drawn (serve p m k):=by
 unfold serve
 split
 · exact trivial
 · exact pj _
 · dsimp only
   split
   · exact trivial
   · exact pj _
theorem xbi (p:Program) (gs:Array Goroutine) (rest:Rest) (w:World):sW w.drawn (look p gs rest w):=by
 unfold look
 split
 · dsimp only
   split
   · exact trivial
   · split
     · exact trivial
     · split
       · rename_i e;have hd:=jw e;exact hd
       · exact trivial
       · exact trivial
 · exact trivial
theorem ybm (p:Program) (m:Machine) (i:Nat) (listen:Bool):sW m.world.drawn (Go.runT p m i listen).1:=by
 unfold Go.runT;dsimp only;have hg:=wb3 p (i == 0) (m.gs.swapAt! i { (default:Goroutine) with status:=.finished }).1 m.world listen;generalize stepG p (i == 0) (m.gs.swapAt! i { (default:Goroutine) with status:=.finished }).1 m.world listen=s at hg ⊢;cases s with
 | ended o w es=>exact trivial
 | comm g cases blocking shape w es=>exact (wcg _ _ _ _ _ _ _ _ _).mono hg
 | go g w es=>exact hg
 | spawn g child w es=>exact hg
 | count g w es =>
   dsimp only
   split
   · exact trivial
   · exact hg
 | alone g on w es=>exact hg
 | collect g w es=>exact (xbi _ _ _ _).mono hg
 | watch g w es=>exact hg
 | newcoro g c d w es=>exact hg
 | coroswitch g c exit w es =>
   dsimp only
   split
   · exact hg
   · exact hg
   · exact trivial
 | timer g op w es =>
   dsimp only
   split
   · rename_i v m' e;have:=jbr e;exact py hg (Nat.le_of_eq this.symm)
   · exact hg
   · exact trivial
   · exact trivial
def mW (n : Nat) : Move -> Prop
 | .goroutine m _=>n<=m.world.drawn
 | .machine s _=>sW n s
theorem mW.mono {n m:Nat} {s:Move} (h:mW n s) (hm:m<=n):mW m s:=by
 cases s with
 | goroutine m i=>exact py hm h
 | machine s ops=>exact sW.mono h hm
theorem yaz (p:Program) (m:Machine):mW m.world.drawn (askOn p m):=by
 have pick:∀ (n:Nat) (rs:List Nat) (m:Machine),n<=m.world.drawn->mW n (match (choose (.sched rs.length)).run p m.world with
  | .halt _ w => Move.machine (.ended (.stuck "sched" "") w)
  | .ok k world =>
    if rs.length<=1 then .goroutine { m with world } (rs.getD k 0) else
    match (choose (.extern "sched.slice" 65536)).run p world with
    | .halt _ w => .machine (.ended (.stuck "sched.slice" "") w)
    | .ok n world=>.goroutine { m with world,rest:={ m.rest with slice:=if n=0 then none else some (rs.getD k 0,n) } } (rs.getD k 0)):=by
  intro n rs m hm
  split
  · exact trivial
  · rename_i e;have h1:=jw e
    split
    · exact py hm h1
    · split
      · exact trivial
      · rename_i e;have h2:=jw e;exact py hm (py h1 h2)
 unfold askOn;dsimp only
 split
 · exact trivial
 · rename_i e;have h1:=jw e;clear e
   split
   · exact sW.mono (jb4 p _ _) h1
   · split
     · split
       · exact h1
       · split
         · exact h1
         · split <;> exact trivial
     · split
       · refine pick _ _ { m with world:=_ } ?_;exact h1
       · split
         · exact trivial
         · rename_i e;have h2:=jw e;refine pick _ _ { m with world:=_ } ?_;exact py h1 h2
         · rename_i e;have h2:=jw e;exact py h1 h2
         · rename_i e;have h2:=jw e;refine pick _ _ (Machine.advanceTo { m with world:=_ } _) ?_;exact py h1 h2
theorem wbj (p:Program) (m:Machine):mW m.world.drawn (ask p m):=by
 unfold ask
 split
 · split
   · exact trivial
   · rename_i e;have h1:=jw e;have h2:=xbi p m.gs m.rest
     split
     · rename_i w1 _ m' e2;have h3:=h2 w1;rw [e2] at h3;exact (yaz p m').mono (py h1 h3)
     · rename_i w1 _ e2;exact (h2 w1).mono h1
   · rename_i e;have h1:=jw e;exact (yaz p _).mono h1
 · exact yaz p m
theorem wce (p:Program) (m:Machine):mW m.world.drawn (move p m):=by
 unfold move
 split
 · split
   · exact pj _
   · exact trivial
 · split
   · split
     · exact pj _
     · exact wbj p _
   · exact wbj p m
theorem jcc (p:Program) (m:Machine):sW m.world.drawn (step p m):=by
 unfold step stepT;have h:=wce p m
 split
 · rename_i m' i e;rw [e] at h;exact (ybm p m' i _).mono h
 · rename_i s ops e;rw [e] at h;exact h
theorem gb3 {p:Program} {m m':Machine} (h:Steps p m m'):m.world.drawn<=m'.world.drawn:=by
 obtain ⟨n,hn⟩:=h
 induction n generalizing m with
 | zero=>injection hn with hn; rw [hn]; exact pj _
 | succ n ih =>
   unfold runN at hn;have h1:=jcc p m
   split at hn
   · rename_i m1 e;rw [e] at h1;exact py h1 (ih hn)
   · rename_i e;exact absurd hn (by intro h; exact e _ h)
theorem zb8 {P:Program} {f:FuncId} {args:Array Value} {w:World} {R:Ending->World->Prop} (h:Calls P f args w R):Calls P f args w fun e w'=>R e w'/\(∀ v,e=.returned v->w.drawn<=w'.drawn):=fun cs=>by
 obtain ⟨e,w',fr,hr,hc,h1,h2⟩:=h cs;refine ⟨e,w',fr,⟨hr,fun v ev=>?_⟩,hc,h1,h2⟩;subst ev;exact gb3 hc
theorem Ext.qbN {w w':World} (hx:Ext w w') (hd:w.drawn<=w'.drawn):∃ q os',w'=Go.Sort.grow (w.drewN q) os':=by
 refine ⟨w'.drawn - w.drawn,w'.heap.extract w.heap.size w'.heap.size,?_⟩;have hs:=hx.size;have hh:w'.heap=w.heap ++ w'.heap.extract w.heap.size w'.heap.size:=by
  refine Array.ext (by simp; omega) fun i h1 h2=>?_
  by_cases hi:i < w.heap.size
  · rw [Array.getElem_append_left hi];have:=hx.below.block i hi;rw [Array.getElem?_eq_getElem h1,Array.getElem?_eq_getElem hi] at this;exact Option.some.inj this
  · rw [Array.getElem_append_right (by omega),Array.getElem_extract]
    congr 1
    omega
 have FB:w'.drawn=w.drawn+(w'.drawn - w.drawn):=by omega
 have e1:=hx.below.os;have e2:=hx.below.tape;have e3:=hx.below.output;obtain ⟨h',t',d',o',p'⟩:=w';obtain ⟨h0,t0,d0,o0,p0⟩:=w;simp only at *;subst e1 e2 e3;unfold Go.Sort.grow World.drewN;simp only [World.mk.injEq,true_and,and_true];exact ⟨hh,FB⟩
theorem kch {P:Program} {f:FuncId} {args:Array Value} {w:World} {v:Value} (h:Calls P f args w fun e w'=>e=.returned v/\Ext w w'):Calls P f args w fun e w'=>e=.returned v/\∃ q os',w'=Go.Sort.grow (w.drewN q) os':=
 (zb8 h).mono fun _ _ ⟨⟨he,hx⟩,hd⟩=>⟨he,hx.qbN (hd v he)⟩
open Go.RowKit Go.Sort Go.Shelf
theorem wc7 (m n:Mo) (w:World):(Op.equalIn 10000 61 (.agg #[.int .i64 m.a,.int .i64 m.b,.int .i64 m.c,.int .i64 m.d]) (.agg #[.int .i64 n.a,.int .i64 n.b,.int .i64 n.c,.int .i64 n.d])).run Tryz.prog w=.ok (decide (m=n)) w:=zbo m n w
attribute [local go_sem] wc7
theorem jcq {W:World} {b b':Bool} {B B':Option Addr} {n c n' c':Nat} {m m':Mo} {z z':Int} (h:ul W (.agg #[.bool b,.slice B n c]) z) (h':ul W (.agg #[.bool b',.slice B' n' c']) z') :
 Calls Tryz.prog 76 #[.agg (tmC b (.slice B n c) m).toArray,.agg (tmC b' (.slice B' n' c') m').toArray] W fun e w'=>e=.returned (.int .i64 (gaa (z,m) (z',m')))/\Ext W w':=by
 have HM:=hid (fun W'=>zay m m' W');have HC:=hid (fun (W':World) (hx:Ext W W')=>wca _ _ z z' _ _ W' (h.ext hx).raw (h'.ext hx).raw);have HG:Hid (∀ (W':World) q os,Ext W' (Go.Sort.grow (W'.drewN q) os)):=hid (fun W' q os=>by
  refine ⟨rfl,rfl,rfl,by simp [Go.Sort.grow],fun k hk=>?_⟩;simp only [Go.Sort.grow]
  exact Array.getElem?_append_left (xs:=W'.heap) hk)
 have HX:Hid (∀ o o',Ext W ((W.alloc o).alloc o')):=hid (fun o o'=>((Ext.refl W).alloc _).alloc _);unfold tmC moV at *;clear h h'
 by_cases hm:m=m'
 · have hv:gaa (z,m) (z',m')=jh z z':=by unfold gaa; exact if_pos hm
   rw [hv];subst hm;clear hv;go_enter Tryz.func76,Tryz.ntmps76;go_wp2_with fail;refine (HC.out _ (HX.out _ _)).mono ?_;rintro e w1 ⟨rfl,x1⟩;have HF:=hid ((HX.out _ _).trans x1);clear x1;go_wp2_with fail;go_ret;exact ⟨rfl,HF.out⟩
 · have hv:gaa (z,m) (z',m')=vaf m m':=by unfold gaa; exact if_neg hm
   rw [hv];have ax:decide (m=m')=false:=by simpa using hm
   clear hv;go_enter Tryz.func76,Tryz.ntmps76;go_wp2_with fail;refine (HM.out _).mono ?_;rintro e w1 ⟨rfl,q,os,rfl⟩;go_wp2_with fail;go_ret;exact ⟨rfl,(HX.out _ _).trans (HG.out _ q os)⟩
theorem wb7 {w:World} {l m:Sp} {A B:Option Addr} {c c':Nat} (hl:gaq w none A l) (hm:gaq w none B m) (hn:l.length<=9223372036854775807) (Xj:m.length<=9223372036854775807) :
 Calls Tryz.prog 75 #[.slice A l.length c,.slice B m.length c',.func (.func 76) #[] #[]] w (gbf (ui l m) w):=by
 have HL:=hid hl;have HM:=hid hm;clear hl hm;go_enter Tryz.func75,Tryz.ntmps75;go_wp2_with fail
 go_loopw [13] (fun iv wr=>∃ k:Nat,k<=l.length/\k<=m.length/\iv=.int .i64 k/\Hid (ui (l.drop k) (m.drop k)=ui l m/\Ext w wr)) (fun iv _=>l.length - (intOf iv).toNat)
 case atStart=>exact ⟨0,pS _,pS _,rfl,hid ⟨rfl,Ext.refl w⟩⟩
 case round =>
  obtain ⟨k,hk,lW,rfl,HR⟩:=hrel;have HX:=hid HR.out.2;have HE:=hid HR.out.1;clear HR
  by_cases af:k < l.length
  · obtain ⟨ad,b,C,n,cc,rfl,hb,kN,eF⟩:=HL.out.ext HX.out k af
    by_cases yS:k < m.length
    · obtain ⟨ad',b',C',n',cc',rfl,eP,QD,Ub⟩:=HM.out.ext HX.out k yS;have hdr:=ych k af yS;have hbd:=wcz l[k] m[k];have DR:=hid (fun (W':World) (hx:Ext wr W')=>jcq (m:=l[k].2) (m':=m[k].2) (eF.ext hx) (Ub.ext hx));have Yr:=hid (fun (W':World) (hx:Ext wr W')=>QD.ext hx (by rw [ja]; exact eP));obtain ⟨v,hv⟩:=n_m (gaa l[k] m[k]);have e1:gaa (l[k].1,l[k].2) (m[k].1,m[k].2)=v:=hv;rw [e1] at DR;rw [hv] at hdr hbd;have Jp:=hid hdr;obtain ⟨a0,a1,a2,a3,a4,a5⟩:=kN;unfold tmC at DR;clear hdr eF Ub QD hv e1;generalize l[k].2=mk at *;generalize m[k].2=mk' at *;have RS:¬ m.length<=k:=by omega
      obtain ⟨V1,jK⟩:=n_m (wr.alloc (.cells #[.bool b,.slice C n cc,.int .i64 mk.a,.int .i64 mk.b,.int .i64 mk.c,.int .i64 mk.d] 76));have x1:Ext wr V1:=by rw [<- jK]; exact (Ext.refl wr).alloc _
      obtain ⟨V2,rF⟩:=n_m (V1.alloc (.cells #[.bool b',.slice C' n' cc',.int .i64 mk'.a,.int .i64 mk'.b,.int .i64 mk'.c,.int .i64 mk'.d] 76));have x2:Ext wr V2:=by rw [<- rF]; exact x1.alloc _
      obtain ⟨g1,jT⟩:=n_m (wr.heap.size);obtain ⟨g2,dR⟩:=n_m (V1.heap.size);obtain ⟨p0,p1,p2,p3,p4,p5⟩:kal V2 ⟨g1,0,none⟩ b (.slice C n cc) mk:=by
       have h1:kal V1 ⟨g1,0,none⟩ b (.slice C n cc) mk:=by
        rw [<- jK,<- jT];refine ⟨?_,?_,?_,?_,?_,?_⟩ <;> simp [go_sem]
       have h2:Ext V1 V2:=by rw [<- rF]; exact (Ext.refl V1).alloc _
       exact h1.ext h2 (by show g1 < _; rw [<- jK,<- jT]; simp)
      obtain ⟨q0,q1,q2,q3,q4,q5⟩:kal V2 ⟨g2,0,none⟩ b' (.slice C' n' cc') mk':=by
       rw [<- rF,<- dR];refine ⟨?_,?_,?_,?_,?_,?_⟩ <;> simp [go_sem]
      obtain ⟨d0,d1,d2,d3,d4,d5⟩:=Yr.out _ x1;have aO:=DR.out _ x2;have oP:=hid x2;have bH:=hid aO;clear x1 x2 aO Yr DR;go_wp2_with fail;refine bH.out.mono ?_;clear jK rF jT dR p0 p1 p2 p3 p4 p5 q0 q1 q2 q3 q4 q5 d0 d1 d2 d3 d4 d5 a0 a1 a2 a3 a4 a5;rintro e w3 ⟨rfl,x3⟩;have IX:=hid (HX.out.trans (oP.out.trans x3));clear x3
      by_cases Bv:v=0
      · have HN:Hid (ui (l.drop (k+1)) (m.drop (k+1))=ui l m):=hid (by
         have h1:=Jp.out;rw [if_pos Bv] at h1
         exact h1.symm.trans HE.out)
        subst Bv;go_wp2_with fail
        go_roundw
        case rel=>exact ⟨k+1,by omega,by omega,by go_num,hid ⟨HN.out,IX.out⟩⟩
        case measure=>simp [intOf]; omega
      · have HN:Hid (ui l m=v):=hid (by
         have h1:=Jp.out;rw [if_neg Bv] at h1
         exact HE.out.symm.trans h1)
        have hvb:(v != 0)=true:=by simpa using Bv
        clear Jp Bv;go_wp2_with fail;go_ret;exact ⟨by rw [HN.out]; rfl,IX.out⟩
    · obtain ⟨a0,a1,a2,a3,a4,a5⟩:=kN;have HN:Hid (ui l m=1):=hid (by
       have e:m.drop k=[]:=tU (by omega);rw [<- HE.out,r9 af,e]
       simp [ui])
      have RS:m.length<=k:=by omega
      have HA:Hid (∀ o,Ext wr (wr.alloc o)):=hid (fun o=>(Ext.refl wr).alloc o);clear eF;generalize l[k].2=mk at *;go_wp2_with fail;go_ret;exact ⟨by rw [HN.out]; rfl,HX.out.trans (HA.out _)⟩
  · obtain rfl:k=l.length:=by omega
    by_cases Xm:l.length < m.length
    · have HN:Hid (ui l m=-1):=hid (by
       have e:l.drop l.length=[]:=tU (pj _);rw [<- HE.out,e,r9 Xm]
       simp [ui])
      go_wp2_with fail;go_ret;exact ⟨by rw [HN.out]; rfl,HX.out⟩
    · have HN:Hid (ui l m=0):=hid (by
       have e:l.drop l.length=[]:=tU (pj _);have e2:m.drop l.length=[]:=tU (by omega);rw [<- HE.out,e,e2]
       simp [ui])
      go_wp2_with fail;go_ret;exact ⟨by rw [HN.out]; rfl,HX.out⟩
theorem kbq {w:World} {l m:Sp} (v u:Value) (L:Nat) (hl:SpV w none v l) (hm:SpV w none u m) (dl:∀ x ∈ l,(dg x.1.natAbs).length<=L) (dm:∀ x ∈ m,(dg x.1.natAbs).length<=L) (hL:L<=1099511627776) (nl:(dg (zg l)).length<=1099511627776) (nm:(dg (zg m)).length<=1099511627776) (ll:l.length<=1099511627776) (lm:m.length<=1099511627776) :
 Calls Tryz.prog 47 #[v,u] w (gbf (ui (xg l) (xg m)) w):=by
 have DF:=hid (gac (ko:=none) L hl (fun z ⟨x,hx,e⟩=>by rw [<- e]; exact dl x hx) (by omega) ll);have Jg:=hid (fun (W':World) (hx:Ext w W')=>gac (ko:=none) L (hm.ext hx) (fun z ⟨x,hx,e⟩=>by rw [<- e]; exact dm x hx) (by omega) lm);obtain ⟨A0,c0,rfl,-⟩:=hl;obtain ⟨A1,c1,rfl,-⟩:=hm;clear dl dm nl nm ll lm hL;generalize xg l=l' at *;generalize xg m=m' at *;generalize l.length=n0 at *;generalize m.length=n1 at *;go_enter Tryz.func47,Tryz.ntmps47;go_wp2_with fail;refine DF.out.mono ?_;rintro e w1 ⟨v1,rfl,h1,x1⟩;have H1:=hid h1;have Js:=hid (Jg.out _ x1);have X1:=hid x1;obtain ⟨A2,c2,rfl,-⟩:=h1;clear x1;go_wp2_with fail;refine Js.out.mono ?_;rintro e w2 ⟨v2,rfl,h2,x2⟩;have h1:=H1.out.ext x2;obtain ⟨A3,c3,rfl,k1,k2,kF⟩:=h2;obtain ⟨A2',c2',e9,k3,k4,sZ⟩:=h1;injection e9 with e1 e2 e3
 subst e1 e3;have ou:=hid (wb7 (c:=c2) (c':=c3) sZ kF (by omega) (by omega));have X2:=hid (X1.out.trans x2);clear e2 x2 sZ kF Js;go_wp2_with fail;refine ou.out.mono ?_;rintro e w3 ⟨rfl,x3⟩;have X3:=hid (X2.out.trans x3);clear x3;go_wp2_with fail;go_ret;exact ⟨rfl,X3.out⟩
theorem uck {w:World} {l m:Sp} (v u:Value) (L:Nat) (hl:SpV w none v l) (hm:SpV w none u m) (dl:∀ x ∈ l,(dg x.1.natAbs).length<=L) (dm:∀ x ∈ m,(dg x.1.natAbs).length<=L) (hL:L<=1099511627776) (nl:(dg (zg l)).length<=1099511627776) (nm:(dg (zg m)).length<=1099511627776) (ll:l.length<=1099511627776) (lm:m.length<=1099511627776) :
 Calls Tryz.prog 48 #[v,u] w (vao (decide (xg l=xg m)) w):=by
 have HC:=hid (kbq v u L hl hm dl dm hL nl nm ll lm);have hz:(ui (xg l) (xg m) == 0)=decide (xg l=xg m):=by
  have:=wa3 (xg l) (xg m)
  by_cases h:xg l=xg m
  · rw [decide_eq_true h,this.2 h]; rfl
  · rw [decide_eq_false h,beq_eq_false_iff_ne]; exact fun e=>h (this.1 e)
 rw [<- hz];clear hz dl dm nl nm ll lm hL hl hm;generalize ui (xg l) (xg m)=r at *;go_enter Tryz.func48,Tryz.ntmps48;go_wp2_with fail;refine HC.out.mono ?_;rintro e w1 ⟨rfl,x1⟩;have X1:=hid x1;clear x1;go_wp2_with fail;go_ret;exact ⟨rfl,X1.out⟩
end Go.Proofs.YtcepajijiabkmaaGreat

namespace Go.Proofs.YtcepajijiabkmaaGreat
open Lib (hid)
open Go.RowKit
def qaz (P:Value->Prop) (W:World) (v:Value):Prop:=∀ R cur T fr,v.ownBlock=some R->W.heap[R]?=some (.cells cur T fr)->∀ u ∈ cur.toList,P u
theorem qaz.ext {P:Value->Prop} {W W':World} {v:Value} (h:qaz P W v) (hx:∀ R,v.ownBlock=some R->W'.heap[R]?=W.heap[R]?):qaz P W' v:=fun R cur T fr e hb=>h R cur T fr e ((hx R e).symm.trans hb)
theorem jci {P:Value->Prop} {S T:TypeId} {k bytes:Nat} {Z:Value} (R:jao S T k bytes Z) (hZ:∀ u ∈ Z.cells.toList,P u) (n:Nat):∀ u ∈ (Builtin.zeroCells Z.cells n).toList,P u:=by
 intro u hu;unfold Builtin.zeroCells at hu;simp only [Array.toList_map,pZ] at hu;obtain ⟨i,-,rfl⟩:=hu;have hp:=R.pos;have af:i % Z.cells.size < Z.cells.size:=te _ (by rw [R.cells]; exact hp);rw [getElem!_pos Z.cells (i % Z.cells.size) af];exact hZ _ (by simp)
theorem all_append {P : Value -> Prop} {S T : TypeId} {k bytes : Nat} {Z : Value} (R : jao S T k bytes Z) (hZ : ∀ u ∈ Z.cells.toList, P u) {base : Nat} {W : World} {ov : Value} {n : Nat} {xs : List Value} (h : yl T k base W ov n xs) (hP : qaz P W ov) (dh : base <= W.heap.size) (a : Addr) (m c : Nat) (news : List Value)
 (oG:news.length=m * k) (Cc:∀ j u,news[j]?=some u->W.cell? (a.add j)=some u) (h1:∀ u ∈ news,u.oneCell'=true/\jo u=false/\P u) (hm:0 < m) (hlen:(n+m) * bytes<=140737488355328) (hlen2:n+m<=140737488355328) (ty:TypeId) {v4:Value} {w4:World}
 (ak:(Builtin.append_ #[S,S] ty #[ov,.slice (some a) m c]).run Tryz.prog W=.ok v4 w4):qaz P w4 v4:=by
 obtain ⟨o1,bP⟩:=h;obtain ⟨i0,hi,iV,iI,iH⟩:=info_parts R.info;have hk:=R.pos;have fin:∀ (xs:List Value) (q:Nat) (w5:World) (l cap:Nat),(∀ u ∈ xs,P u)->w5.heap.size=W.heap.size->qaz P (w5.alloc (.cells (xs.toArray ++ news.toArray ++ Builtin.zeroCells Z.cells q) T)) (.slice (some ⟨W.heap.size,0,none⟩) l cap):=by
  intro xs q w5 l cap wK h5 R' cur T' fr hR hb u hu;have LQ:W.heap.size=R':=by simpa [Value.ownBlock] using hR
  rw [<- LQ,<- h5,heap_alloc_new] at hb;injection hb with hb
  injection hb with hb
  rw [<- hb] at hu;simp only [Array.toList_append,rj] at hu;rcases hu with (hu | hu) | hu
  · exact wK u hu
  · exact (h1 u hu).2.2
  · exact jci R hZ q u hu
 have hold:∀ g cur,ov.ownBlock=some g->W.heap[g]?=some (.cells cur T (0,0))->∀ u ∈ cur.toList,P u:=fun g cur e hb=>hP g cur _ _ e hb
 have jZ:m<=m * bytes\/bytes=0:=by
  rcases tR bytes with h | h
  · exact .inr h
  · exact .inl (Nat.le_mul_of_pos_right _ h)
 rcases o1.2 with ⟨rfl,gX⟩ | ⟨g,cap,cur,rfl,FK,hg,RD,gU,fB,wM⟩
 · subst gX;have hr:=run_append_nil (P:=Tryz.prog) W S ty T i0 _ R.und hi iV a m c news (by rw [iI]; exact oG) Cc hm (by omega) (by rw [iH]; rw [rh] at hlen; omega);rw [ak] at hr;injection hr with e1 e2
   subst e1 e2;have:=fin [] (grownCap W m 0 T - m) W.drew m (grownCap W m 0 T) (by simp) rfl;simpa using this
 · by_cases rX:n+m<=cap
   · have aF:n * k+news.length<=cur.size:=by
      rw [fB,oG,<- rN];exact pE _ rX
     have hr:=run_append_room (P:=Tryz.prog) W S ty T i0 R.und hi g n cap cur hg a m c news (by rw [iI]; exact oG) Cc (fun u hu=>(h1 u hu).1) rX (by rw [iI]; exact aF);rw [ak] at hr;injection hr with e1 e2
     subst e1 e2;intro R' cur' T' fr hR hb u hu;have LQ:g=R':=by simpa [Value.ownBlock] using hR
     rw [<- LQ,setRow_heap W g cur _ _ _ hg] at hb;injection hb with hb
     injection hb with hb
     rw [<- hb] at hu;simp only [rj] at hu;rcases hu with (hu | hu) | hu
     · exact hold g cur rfl hg u (tl hu)
     · exact (h1 u hu).2.2
     · exact hold g cur rfl hg u (RT hu)
   · have hr:=run_append_grow (P:=Tryz.prog) W S ty T i0 _ R.und hi iV ⟨g,0,none⟩ n cap xs (by rw [iI]; exact o1.1) (o1.cells (g:=g) rfl) a m c news (by rw [iI]; exact oG) Cc (by omega) (by omega) (growslice_fits (by omega) (by rw [iH]; exact hlen));rw [ak] at hr;injection hr with e1 e2
     subst e1 e2;exact fin xs _ W.drew _ _ (fun u hu=>hold g cur rfl hg u (tl (by rw [wM]; exact hu))) rfl
theorem kc1 {P : Value -> Prop} {S T : TypeId} {k bytes : Nat} {Z : Value} (R : jao S T k bytes Z) (hZ : ∀ u ∈ Z.cells.toList, P u) {base : Nat} {W : World} {ov : Value} {n : Nat} {xs : List Value} (h : yl T k base W ov n xs) (hP : qaz P W ov) (dh : base <= W.heap.size) (news : List Value)
 (oG:news.length=k) (h1:∀ u ∈ news,u.oneCell'=true/\jo u=false/\P u) (hlen:(n+1) * bytes<=140737488355328) (hlen2:n+1<=140737488355328) (ty:TypeId) {v4:Value} {w4:World}
 (ak:(Builtin.append_ #[S,S] ty #[ov,.slice (some ⟨W.heap.size,0,none⟩) 1 1]).run Tryz.prog (W.alloc (.cells news.toArray T))=.ok v4 w4):qaz P w4 v4:=by
 have hx:Ext W (W.alloc (.cells news.toArray T)):=(Ext.refl W).alloc _;exact all_append R hZ (h.ext hx) (hP.ext fun R hR=>hx.below.block R (h.own hR).2) (by have:=hx.size; omega) ⟨W.heap.size,0,none⟩ 1 1 news (by omega) (fun j u hu=>by
  rw [zu,rh,cell_of_row _ _ j _ _ (0,0) (heap_alloc_new W _)]; simpa using hu) h1 (by omega) hlen hlen2 ty ak
def xb3 (u:Value):Prop:=∃ A n c,u=.slice A n c
theorem ub8 : jao 48 23 1 24 (.slice none 0 0) where
 und:=Tryz.underlying48
 info:=by kernel_rfl
 cells:=rfl
 pos:=by omega
 nodig:=by intro u hu; simp [Value.cells] at hu; subst hu; rfl
structure jaj (base : Nat) (w : World) (v : Value) (l : List Sp) : Prop where
 row:∃ xs:List Value,xs.length=l.length/\yl 23 1 base w v l.length xs/\∀ i (hi:i < xs.length) (hl:i < l.length),SpV w none xs[i] l[i]
 all:qaz xb3 w v
theorem SpV.xl {W W':World} {v s:Value} {l:Sp} (h:SpV W none s l) (ha:qaz xb3 W v) (ho:∀ R,v.ownBlock=some R->∃ cur T fr,W.heap[R]?=some (.cells cur T fr)) (hg:W.grownBy W' v.ownBlock) (hn:∀ v ds,jc W v ds->jc W' v ds):SpV W' none s l:=by
 obtain ⟨A,c,rfl,h1,h2,aK⟩:=h;refine ⟨A,c,rfl,h1,h2,fun i hi=>?_⟩;obtain ⟨ad,b,B,n,cc,rfl,hb,ht,hc⟩:=aK i hi;have ax:v.ownBlock ≠ some ad.block:=fun e=>by
  obtain ⟨cur,T,fr,hh⟩:=ho _ e;have h0:=ht.1;rw [World.cell?,ja,hh] at h0;have dB:∃ k:Nat,cur[k]?=some (.bool b):=by
   revert h0
   simp only
   split <;> intro h0
   · cases h0
   · exact ⟨_,h0⟩
  obtain ⟨k,hk⟩:=dB;obtain ⟨A',n',c',e'⟩:=ha _ _ _ _ e hh (.bool b) (by
   obtain ⟨yY,hk2⟩:=rB.1 hk
   rw [<- hk2]; simp)
  cases e'
 have jO:∀ (a:Addr) (u:Value),a.block=ad.block->W.cell? a=some u->W'.cell? a=some u:=fun a u e hu=>(pB (by rw [e]; exact rr hg _ hb (fun e2=>ax e2.symm))).trans hu
 obtain ⟨t0,t1,t2,t3,t4,t5⟩:=ht;exact ⟨ad,b,B,n,cc,rfl,pw hb hg.size,⟨jO _ _ (ja _ _) t0,jO _ _ (ja _ _) t1,jO _ _ (ja _ _) t2,jO _ _ (ja _ _) t3,jO _ _ (ja _ _) t4,jO _ _ (ja _ _) t5⟩,hc.xl hn⟩
theorem jaj.ext {base:Nat} {w w':World} {v:Value} {l:List Sp} (h:jaj base w v l) (hx:Ext w w'):jaj base w' v l:=by
 obtain ⟨⟨xs,e,g,hs⟩,ha⟩:=h;exact ⟨⟨xs,e,g.ext hx,fun i hi hl=>(hs i hi hl).ext hx⟩,ha.ext fun R hR=>hx.below.block R (g.own hR).2⟩
theorem jaj.nil (base:Nat) (w:World):jaj base w (.slice none 0 0) []:=⟨⟨[],rfl,yl.nil _ _ _ _,fun i hi=>absurd hi (by simp)⟩,fun R _ _ _ e=>by cases e⟩
theorem jaj.len {base:Nat} {w:World} {v:Value} {l:List Sp} (h:jaj base w v l):∃ A c,v=.slice A l.length c/\l.length<=c/\c<=9223372036854775807:=by
 obtain ⟨⟨xs,e,g,-⟩,-⟩:=h;exact g.len
theorem jaj.push {base:Nat} {W:World} {v u:Value} {l:List Sp} {s:Sp} (h:jaj base W v l) (hs:SpV W none u s) (dh:base<=W.heap.size) (hlen:l.length < 1099511627776) (ty:TypeId) :
 ∃ v4 w4,(Builtin.append_ #[48,48] ty #[v,.slice (some ⟨W.heap.size,0,none⟩) 1 1]).run Tryz.prog (W.alloc (.cells #[u] 23))=.ok v4 w4/\jaj base w4 v4 (l ++ [s])/\W.grownBy w4 v.ownBlock:=by
 obtain ⟨⟨xs,e,g,wK⟩,ha⟩:=h;have hu:xb3 u:=by obtain ⟨A,c,rfl,-⟩:=hs; exact ⟨_,_,_,rfl⟩
 have h1:∀ x ∈ [u],x.oneCell'=true/\jo x=false/\xb3 x:=fun x hx=>by
  rw [pD] at hx;subst hx;obtain ⟨A,n,c,rfl⟩:=hu;exact ⟨rfl,rfl,_,_,_,rfl⟩
 obtain ⟨v4,w4,hr,g4,hg,hn,-⟩:=g.push ub8 dh [u] rfl (fun x hx=>⟨(h1 x hx).1,(h1 x hx).2.1⟩) (by omega) (by omega) ty;have h4:=kc1 ub8 (P:=xb3) (fun x hx=>by simp [Value.cells] at hx; subst hx; exact ⟨_,_,_,rfl⟩) g ha dh [u] rfl h1 (by omega) (by omega) ty hr;have ht:∀ (y:Value) (m:Sp),SpV W none y m->SpV w4 none y m:=fun y m hy=>hy.xl ha (yaf g.1) hg hn
 refine ⟨v4,w4,hr,⟨⟨xs ++ [u],by simp [e],by simpa using g4,fun i hi hl=>?_⟩,h4⟩,hg⟩
 by_cases Eb:i < l.length
 · rw [ud (by omega),ud (by omega)];exact ht _ _ (wK i (by omega) Eb)
 · have:i=l.length:=by simp at hl; omega
   subst this;rw [tB (by omega),tB (by omega)];simp only [e,Ps,List.getElem_singleton];exact ht _ _ hs
open Go.Sort Go.Shelf
structure SmS (s : Sp) : Prop where
 nf:xg s=s
 dig:∀ x ∈ s,(dg x.1.natAbs).length<=1099511627776
 nrm:(dg (zg s)).length<=1099511627776
 len:s.length<=1099511627776
theorem SmS.nil:SmS []:=⟨by decide,fun x hx=>absurd hx (by simp),py (yf (k:=1) (by simp [zg,B32])) (by omega),by decide⟩
theorem SpV.nil (w:World):SpV w none (.slice none 0 0) []:=⟨none,0,rfl,by simp,by omega,fun i hi=>absurd hi (by simp)⟩
theorem zcg {w:World} {l m:Sp} {v u:Value} (hl:SpV w none v l) (hm:SpV w none u m) (sl:SmS l) (sm:SmS m):Calls Tryz.prog 46 #[v,u] w fun e w'=>e=.returned (.int .i64 (ui l m))/\Ext w w':=by
 have HC:=hid (kbq v u 1099511627776 hl hm sl.dig sm.dig (by omega) sl.nrm sm.nrm sl.len sm.len);rw [sl.nf,sm.nf] at HC;obtain ⟨A,c,rfl,-⟩:=hl;obtain ⟨B,d,rfl,-⟩:=hm;clear sl sm;go_enter Tryz.func46,Tryz.ntmps46;go_wp2_with fail;refine HC.out.mono ?_;rintro e w1 ⟨rfl,x1⟩;have X1:=hid x1;clear x1;go_wp2_with fail;go_ret;exact ⟨rfl,X1.out⟩
abbrev kad (w:World):={ x:Value × Sp // SpV w none x.1 x.2/\SmS x.2 }
instance (w:World):Inhabited (kad w):=⟨⟨(.slice none 0 0,[]),SpV.nil w,SmS.nil⟩⟩
def kad.vc {w:World} (x:kad w):Value:=x.1.1
def kad.ord {w:World} (x y:kad w):Int:=ui x.1.2 y.1.2
theorem kad.swo (w : World) : SWO (ltOf (kad.ord (w := w))) where
 irrefl x:=uz.swo.irrefl x.1.2
 trans x y z:=uz.swo.trans x.1.2 y.1.2 z.1.2
 ntrans x y z:=uz.swo.ntrans x.1.2 y.1.2 z.1.2
theorem kad.one (w:World):OneCell (kad.vc (w:=w)):=fun x=>by
 obtain ⟨⟨v,s⟩,⟨A,c,e,-⟩,-⟩:=x;simp only at e;subst e
 rfl
theorem uat {α:Type} [Inhabited α] (enc:α->Value) (W:World) (g n:Nat) (d:Array α) (os:Array Obj):W.grownBy (sortWorld enc W g 0 n d os) (some g):=by
 refine ⟨rfl,rfl,rfl,?_,fun b hb ax=>?_⟩
 · simp [sortWorld,grow,putRow,mapBlock,Go.Sort.ahead]
 · have Ko:¬ g=b:=fun e=>ax (by rw [e])
   simp [sortWorld,grow,putRow,mapBlock,Go.Sort.ahead,Array.getElem?_append,hb,Array.getElem_modify,Ko]
theorem xby (v:Value) (w:World):Calls Tryz.prog 94 #[v,.int .i64 0,.int .i64 0,.func (.func 46) #[] #[]] w fun e w'=>e=.returned (.tuple #[])/\w'=w:=by
 go_enter Tryz.func94,Tryz.ntmps94;go_wp2_with fail;refine wp_loop_rounds 1 ?_;rw [rounds_succ];go_wp2_with fail
 go_end0
 exact ⟨rfl,rfl⟩
theorem jbw (v:Value) (limit:Int) (w:World):Calls Tryz.prog 73 #[v,.int .i64 0,.int .i64 0,.int .i64 limit,.func (.func 46) #[] #[]] w fun e w'=>e=.returned (.tuple #[])/\w'=w:=by
 go_enter Tryz.func73,Tryz.ntmps73;go_wp2_with fail;refine wp_loop_rounds 1 ?_;rw [rounds_succ];go_wp2_with fail;refine (xby _ _).mono ?_;rintro e w1 ⟨rfl,rfl⟩;go_wp2_with fail;exact bodyPost_ret (results_none rfl _ _ _) rfl ⟨rfl,rfl⟩
theorem kbr (A:Option Addr) (c:Nat) (w:World):Calls Tryz.prog 45 #[.slice A 0 c,.func (.func 46) #[] #[]] w fun e w'=>e=.returned (.tuple #[])/\w'=w:=by
 have wr:IntKind.u64.wrap (0:Int)=0:=by decide
 have hb:=zaz 0 w (by omega);have HB:=hid hb;clear hb;go_enter Tryz.func45,Tryz.ntmps45;go_wp2_with fail;refine HB.out.mono ?_;rintro e w1 ⟨rfl,rfl⟩;go_wp2_with fail;refine (jbw _ _ _).mono ?_;rintro e w1 ⟨rfl,rfl⟩;go_wp2_with fail
 go_end0
 exact ⟨rfl,rfl⟩
def wch (w:World) (v:Value) (L:List Sp):Prop:=∃ A c,v=.slice A L.length c/\L.length<=c/\c<=9223372036854775807/\∀ i (hi:i < L.length),∃ ad u,A=some ad/\ad.block < w.heap.size/\w.cell? (ad.add i)=some u/\SpV w none u L[i]
theorem wch.ext {w w':World} {v:Value} {L:List Sp} (h:wch w v L) (hx:Ext w w'):wch w' v L:=by
 obtain ⟨A,c,rfl,h1,h2,h3⟩:=h;refine ⟨A,c,rfl,h1,h2,fun i hi=>?_⟩;obtain ⟨ad,u,rfl,hb,hc,hs⟩:=h3 i hi;exact ⟨ad,u,rfl,pw hb hx.size,(pB (by rw [ja]; exact hx.below.block _ hb)).trans hc,hs.ext hx⟩
theorem kcc {base:Nat} {W:World} {v:Value} {l:List Sp} (h:jaj base W v l) (hs:∀ s ∈ l,SmS s) (hlen:l.length<=1099511627776):Calls Tryz.prog 45 #[v,.func (.func 46) #[] #[]] W fun e w'=>e=.returned (.tuple #[])/\∃ l':List Sp,l'.Perm l/\(∀ i j (hi:i < l'.length) (hj:j < l'.length),i < j->¬ ui l'[j] l'[i] < 0)/\wch w' v l'/\W.grownBy w' v.ownBlock:=by
 by_cases h0:l=[]
 · subst h0;obtain ⟨A,c,rfl,h1,h2⟩:=h.len;refine (kbr _ _ _).mono ?_;rintro e w' ⟨he,rfl⟩;exact ⟨he,[],List.Perm.refl _,fun i j hi=>absurd hi (by simp),⟨A,c,rfl,h1,h2,fun i hi=>absurd hi (by simp)⟩,⟨rfl,rfl,rfl,pj _,fun _ _ _=>rfl⟩⟩
 have di:0 < l.length:=rA.2 h0;obtain ⟨⟨xs,hxl,hg,wK⟩,iU⟩:=h;obtain ⟨g,c,rfl,bZ,dO,FK,sN,bG⟩:=hg.pos di;have aj:∀ i (hi:i < l.length),W.cell? ⟨g,i,none⟩=some (xs[i]'(by omega)):=fun i hi=>by
  rw [yl.cell hg i (by omega),po (by omega)]
 obtain ⟨d,hd⟩:∃ d:Array (kad W),d=Array.ofFn (n:=l.length) fun i=>⟨(xs[i.1]'(by have:=i.2; omega),l[i.1]),wK i.1 (by have:=i.2; omega) i.2,hs _ (pt _)⟩:=⟨_,rfl⟩
 have zB:d.size=l.length:=by rw [hd]; simp
 have gZ:∀ i (hi:i < l.length),(d[i]!).1=(xs[i]'(by omega),l[i]):=fun i hi=>by
  rw [getElem!_pos d i (by omega)];subst hd;simp
 have qB:d.toList.map (fun x=>x.1.2)=l:=by
  apply sR
  · simp [zB]
  · intro i h1 h2;have:=gZ i h2;rw [getElem!_pos d i (by omega)] at this;simp [this]
 clear hd;have hH:Holds kad.vc W g 0 d:=fun j hj=>by
  rw [rh];refine ⟨?_,bG _⟩;rw [aj j (by omega)];have:=gZ j (by omega);unfold kad.vc;rw [this]
 have eg:∀ args w,(callFunc 46 args).run Tryz.prog w=.ok (.enter 46 args) w:=enters_of Tryz.func46 (by kernel_rfl) rfl
 have BB:∀ (n:Nat) (dk:Array (kad W)) (os:Array Obj) (y:Value) (m:Sp),SpV W none y m->SpV (sortWorld kad.vc W g 0 n dk os) none y m:=fun n dk os y m hy =>
  hy.xl (v:=.slice (some ⟨g,0,none⟩) l.length c) iU (yaf hg.1) (uat _ W g n dk os) fun y ds hy=>jat hy (v:=.slice (some ⟨g,0,none⟩) l.length c) (uat _ W g n dk os) hg.2 (yaf hg.1)
 have TW:CmpLays1 Tryz.prog 46 #[] kad.vc kad.ord g 0 d.size W:=fun m os dk _ x y=>kch (zcg (BB m dk os _ _ x.2.1) (BB m dk os _ _ y.2.1) x.2.2 y.2.2)
 have aO:=Go.Proofs.Any.slices_SortFunc (P:=Tryz.prog) (ρ:=ubg) zck kad.vc (kad.one W) kad.ord (kad.swo W) 46 #[] g 0 c d W eg TW hH sN (by omega);rw [zB] at aO;refine aO.mono ?_;rintro e w' ⟨he,d',n,os,⟨hsz,-,jA⟩,kP,rfl⟩;rw [zB] at hsz;have qN:d'.toList.Perm d.toList:=by
  rw [RK (by omega),RK (by omega)] at jA;exact jA
 have XP:=holds_sortWorld kad.vc W g 0 n d d' os sN hH (by omega);have mQ:(d'.toList.map (fun x=>x.1.2)).length=l.length:=by simp [hsz]
 have hgi:∀ i (hi:i < (d'.toList.map (fun x=>x.1.2)).length),(d'.toList.map (fun x=>x.1.2))[i]=(d'[i]!).1.2:=fun i hi=>by
  rw [getElem!_pos d' i (by simpa using hi)];simp
 refine ⟨he,d'.toList.map (fun x=>x.1.2),by rw [<- qB]; exact qN.map _,fun i j hi hj oI=>?_,⟨some ⟨g,0,none⟩,c,by rw [mQ],by omega,dO,fun i hi=>?_⟩,uat _ W g n d' os⟩
 · have:=kP i j (pS _) oI (by omega);rw [hgi i hi,hgi j hj];intro h;unfold ltOf kad.ord at this;rw [decide_eq_false_iff_not] at this;exact this h
 · have h1:=(XP i (by omega)).1;rw [rh] at h1;refine ⟨⟨g,0,none⟩,_,rfl,pw sN (uat kad.vc W g n d' os).size,by rw [zu,rh]; exact h1,?_⟩;rw [hgi i hi];exact BB n d' os _ _ (d'[i]!).2.1
theorem gcw {m:Mo} (h:∀ i:Nat,0 < i->i<=4->m.get i=0):m.Kh=0:=by
 have h1:=h 1 (by omega) (by omega);have h2:=h 2 (by omega) (by omega);have h3:=h 3 (by omega) (by omega);have h4:=h 4 (by omega) (by omega);simp [Mo.get] at h1 h2 h3 h4;simp [Mo.Kh,h1,h2,h3,h4]
theorem kcr {m:Mo} (hn:m.qe) (h:¬ 0 < m.Kh):∀ i:Nat,0 < i->i<=4->m.get i=0:=by
 intro i h0 h4;obtain ⟨n1,n2,n3,n4⟩:=hn;unfold Mo.Kh at h;have:m.d=0/\m.c=0/\m.b=0/\m.a=0:=by
  revert h
  repeat' split
  all_goals omega
 unfold Mo.get
 split
 · omega
 · split
   · omega
   · split <;> omega
theorem gda {p:Pl} (h:p.Can):0 < qaf p.sp ↔ 0 < p.lv:=by
 have h0:=h.qq.1;rw [wcw]
 constructor
 · rintro ⟨x,hx,hl⟩;refine Classical.byContradiction fun hn=>?_
   obtain ⟨-,y,hy,e⟩:=qw hx;have:x.2.Kh=0:=gcw fun i h1 h4=>by
    rw [<- e,Pl.zj p Mo.one 0 h (by omega) y hy i h1 h4];unfold Mo.get Mo.one
    split <;> (try split) <;> (try split) <;> rfl
   omega
 · intro hp;refine Classical.byContradiction fun hn=>?_
   have:=Pl.XS (l:=p.sp) (n:=0) (by omega) p.kI fun x hx=>kcr (p.kI x hx) fun hl=>hn ⟨x,hx,hl⟩
   rw [Pl.vu h] at this;omega
theorem SmS.of {p:Pl} {E D:Nat} (h:Fit p E D) (hE:E<=900) (hD:D<=1099511627776):SmS p.sp:=
 ⟨p.vl,fun x hx=>py (h.qaB x hx) hD,py (yf h.vy) hD,py h.Kd (py (jbl hE) (by decide))⟩
def kz (l : List Sp) : Nat -> List Sp
 | 0=>[]
 | k+1=>if 0 < k/\l[k - 1]?=l[k]? then kz l k else kz l k ++ (l[k]?).toList
theorem ybq {l:List Sp} {k:Nat} (h0:0 < k) (h:l[k - 1]?=l[k]?):kz l (k+1)=kz l k:=if_pos ⟨h0,h⟩
theorem ub0 {l:List Sp} {k:Nat} (hk:k < l.length) (h:¬ (0 < k/\l[k - 1]?=l[k]?)):kz l (k+1)=kz l k ++ [l[k]]:=by
 have:kz l (k+1)=kz l k ++ (l[k]?).toList:=if_neg h;rw [this,po hk]; rfl
theorem gb0 (l : List Sp) : ∀ k, (kz l k).length <= k
 | 0=>by simp [kz]
 | k+1=>by
   have ih:=gb0 l k;unfold kz
   split
   · omega
   · rw [ra];have:(l[k]?).toList.length<=1:=by cases l[k]? <;> simp
     omega
theorem zbq {l : List Sp} (hs : ∀ i j (hi : i < l.length) (hj : j < l.length), i < j -> ¬ ui l[j] l[i] < 0) : ∀ k, k <= l.length -> AscS (kz l k) /\ ∀ x, x ∈ kz l k ↔ x ∈ l.take k
 | 0,_=>⟨List.Pairwise.nil,fun x=>by simp [kz]⟩
 | k+1,hk=>by
   obtain ⟨ha,hm⟩:=zbq hs k (by omega);have eu:l.take (k+1)=l.take k ++ [l[k]]:=pC (by omega)
   by_cases h:0 < k/\l[k - 1]?=l[k]?
   · rw [ybq h.1 h.2];refine ⟨ha,fun x=>?_⟩;rw [hm,eu,rj,pD]
     constructor
     · exact .inl
     · rintro (hx | rfl)
       · exact hx
       · have e:=h.2;rw [po (by omega),po (by omega)] at e;injection e with e
         rw [<- e];exact List.mem_take_iff_getElem.2 ⟨k - 1,by omega,rfl⟩
   · rw [ub0 (by omega) h];refine ⟨?_,fun x=>by rw [rj,hm,eu,rj]⟩;unfold AscS at ha ⊢;rw [List.pairwise_append];refine ⟨ha,List.pairwise_singleton _ _,fun x hx y hy=>?_⟩;rw [pD] at hy;subst hy;obtain ⟨i,hi,rfl⟩:=List.mem_take_iff_getElem.1 ((hm x).1 hx);have h1:=hs i k (by omega) (by omega) (by omega);have h2:=uz.anti l[i] l[k];have h3:ui l[i] l[k] ≠ 0:=fun e0=>h (by
      have e1:=(uz.zero _ _).1 e0;refine ⟨by omega,?_⟩;rw [po (by omega),po (by omega)]
      by_cases nG:i=k - 1
      · subst nG; rw [e1]
      · have a1:=hs i (k - 1) (by omega) (by omega) (by omega);have a2:=hs (k - 1) k (by omega) (by omega) (by omega);rw [e1] at a1;have a3:=uz.anti (l[k - 1]'(by omega)) l[k]
        rw [(uz.zero _ _).1 (show ui (l[k - 1]'(by omega)) l[k]=0 by omega)])
     omega
theorem gcz {l m:List Sp} (hp:l.Perm m) (hs:∀ i j (hi:i < l.length) (hj:j < l.length),i < j->¬ ui l[j] l[i] < 0):kz l l.length=xao m:=by
 obtain ⟨h1,h2⟩:=zbq hs l.length (pj _);exact ubf h1 (ja3 m) fun x=>by rw [h2,pP,zaq,hp.mem_iff]
def waf (ps:List Pl) (k:Nat):List Sp:=(jas (ps.take k)).map Pl.sp
theorem gcm {ps:List Pl} {k:Nat} (hk:k < ps.length):waf ps (k+1)=waf ps k ++ if 0 < (snP ps[k]).lv then [(snP ps[k]).sp] else []:=by
 unfold waf jas;rw [pC hk,ux,uE,ux]
 congr 1
 by_cases h:0 < (snP ps[k]).lv
 · simp [h]
 · simp [h]
theorem wbw (ps:List Pl) (k:Nat):(waf ps k).length<=k:=by
 unfold waf jas;rw [px];refine py (uc _ _) ?_;rw [px,pA]; omega
theorem gbw {ps:List Pl} {k:Nat} {s:Sp} (h:s ∈ waf ps k):∃ p ∈ ps,s=(snP p).sp:=by
 unfold waf at h;obtain ⟨x,hx,rfl⟩:=pZ.1 h;obtain ⟨p,hp,rfl,-⟩:=yaq.1 hx;exact ⟨p,tl hp,rfl⟩
def xa1 (L:List Pl) (w:World) (e:Ending) (w':World):Prop:=∃ v,e=.returned v/\kas w' (fun b=>w.heap.size<=b) v L/\Ext w w'
theorem kas.mono {W:World} {q q':Nat->Prop} {v:Value} {L:List Pl} (h:kas W q v L) (hq:∀ b,q b->q' b):kas W q' v L:=by
 obtain ⟨D,c,e,h1,h2,h3⟩:=h;exact ⟨D,c,e,h1,h2,jd.xl (pj _) (fun _ _ h=>h) (fun b _ hb=>⟨hq b hb,rfl⟩) _ _ _ h3⟩
theorem jaj.own {base:Nat} {w:World} {v:Value} {l:List Sp} (h:jaj base w v l) {R:Nat} (hR:v.ownBlock=some R):base<=R:=by
 obtain ⟨⟨xs,-,g,-⟩,-⟩:=h;exact (g.own hR).1
theorem zbj {w:World} {q:Nat->Prop} {D0:Option Addr} {c0 E D:Nat} {ps:List Pl} (aK:jd w q ps D0 0) (hn:ps.length<=1000000) (aF:∀ p ∈ ps,Fit p E D) (hE:E<=170) (hD:D<=1099511627776):Calls Tryz.prog 18 #[.slice D0 ps.length c0] w (xa1 (uad ps) w):=by
 have lQ:=hid aK;have HF:=hid aF;have Pm:Hid (∀ k,∀ s ∈ waf ps k,SmS s):=hid (fun k s hs=>by
  obtain ⟨p,hp,rfl⟩:=gbw hs
  exact SmS.of (ual (aF p hp)) (by omega) hD)
 clear aK aF;go_enter Tryz.func18,Tryz.ntmps18;go_wp2_with fail
 go_step3
 go_wp2_with fail
 go_loopw [3,12] (fun sv iv wr=>∃ (k:Nat) (SA:Option Addr) (sc:Nat),k<=ps.length/\iv=.int .i64 k/\sv=.slice SA (waf ps k).length sc/\Hid (jaj w.heap.size wr sv (waf ps k)/\Ext w wr)) (fun _ iv _=>ps.length - (intOf iv).toNat)
 case atStart=>exact ⟨0,none,0,pS _,rfl,rfl,hid ⟨jaj.nil _ _,Ext.refl _⟩⟩
 case round =>
  obtain ⟨k,SA,sc,hk,rfl,rfl,HR⟩:=hrel;have HX:=hid HR.out.2;have aW:=hid HR.out.1;clear HR
  by_cases af:k < ps.length
  · obtain ⟨ad,C0,j0,f0,C1,j1,f1,rfl,ah,⟨a0,a1,a2,a3⟩,bC⟩:=jd.ym (lQ.out.ext HX.out) k af;have fU:=HF.out ps[k] (pt af);have QH:=fU.small hE;have aa0:=fU.dm;have o7:=ual fU;have ZK:=gcm af;have oG:=wbw ps k;have fC:=gda o7.can;have hsm:=SmS.of fU (by omega) hD;have yK:=SmS.of o7 (by omega) hD;have wV:=ybl _ ps[k].ki;rw [qck] at ZK fC yK;obtain ⟨V,hV⟩:=n_m (wr.alloc (.cells #[.int .i64 ps[k].lv,.bool ps[k].neg,.slice C0 j0 f0,.slice C1 j1 f1] 33));have dM:Ext wr V:=by rw [<- hV]; exact (Ext.refl wr).alloc _
    have Yq:=hid (zcj ps[k] _ (bC.ext dM) QH (by omega));have aH:=hid (fun (W':World) (u:Value) (hu:SpV W' none u ps[k].sp)=>ubt u hu hsm.nf hsm.dig wV hsm.nrm hsm.len (by omega));have Eu:=hid (fun (W':World) (u:Value) (hu:SpV W' none u (ssn ps[k].sp))=>jcn hu yK.nf yK.dig yK.nrm yK.len);have Vu:=hid ZK;have Jk:=hid fC;have xN:=hid dM;have e0:xg (ps[k].qt Mo.one)=ps[k].sp:=rfl;rw [e0] at Yq;have gs:V.heap.size=wr.heap.size+1:=by rw [<- hV]; simp
    obtain ⟨⟨b0,b1,b2,b3⟩,bf⟩:jb V wr.heap.size ps[k] (.slice C0 j0 f0) (.slice C1 j1 f1)/\True:=⟨by rw [<- hV]; exact jb.new wr _ _ _ _,trivial⟩;unfold plV at Yq;clear bC fU QH aa0 o7 ZK fC hsm yK wV dM e0 bf;generalize (snP ps[k]).lv=pl at *;generalize ssn ps[k].sp=s at *;generalize ps[k].sp=sp0 at *;generalize ps[k]=pk at *;go_wp2_with fail;clear hV b0 b1 b2 b3 a0 a1 a2 a3;refine Yq.out.mono ?_;rintro e w2 ⟨v2,rfl,s2,x2⟩;have aY:=hid (aH.out _ _ s2);obtain ⟨A2,c2,rfl,-⟩:=s2;have X2:=hid (xN.out.trans x2);clear x2 Yq xN aH;go_wp2_with fail;refine aY.out.mono ?_;rintro e w3 ⟨v3,rfl,s3,x3⟩;have HL3:=hid (Eu.out _ _ s3);have S3:=hid s3;obtain ⟨A3,c3,rfl,-⟩:=s3;have X3:=hid (X2.out.trans x3);clear x3 aY Eu X2;go_wp2_with fail;refine HL3.out.mono ?_;rintro e w4 ⟨rfl,x4⟩;have X4:=hid (X3.out.trans x4);have S4:=hid (S3.out.ext x4);clear x4 HL3 S3 X3;have jM:Ext w w4:=HX.out.trans X4.out
    by_cases hp:0 < qaf s
    · obtain ⟨v5,w5,ak,jP,KJ⟩:=(aW.out.ext X4.out).push S4.out jM.size (by omega) 48;have tZ:Ext w w5:=Below.grown jM.below KJ jM.size (fun b e=>aW.out.own e);have HN:Hid (jaj w.heap.size w5 v5 (waf ps (k+1))/\Ext w w5):=hid ⟨by rw [Vu.out,if_pos (Jk.out.1 hp)]; exact jP,tZ⟩;obtain ⟨SA5,sc5,WU,-,-⟩:=HN.out.1.len;subst WU;have fC:decide (0 < qaf s)=true:=by simpa using hp
      clear hp jP KJ tZ jM S4 X4 Vu Jk aW HX;generalize qaf s=lv at *
      go_wp2_with (at_builtin
                   refine wpList_append_run rfl (.tmp 22) (.tmp 24) _ _ rfl _ _ _ _ rfl rfl ak ?_)
      clear ak
      go_roundw
      case rel=>exact ⟨k+1,SA5,sc5,by omega,by go_num,rfl,HN⟩
      case measure=>simp [intOf]; omega
    · have HN:Hid (jaj w.heap.size w4 (.slice SA (waf ps k).length sc) (waf ps (k+1))/\Ext w w4):=hid ⟨by rw [Vu.out,if_neg (fun h=>hp (Jk.out.2 h)),si]; exact aW.out.ext X4.out,jM⟩;have nD:(waf ps (k+1)).length=(waf ps k).length:=by rw [Vu.out,if_neg (fun h=>hp (Jk.out.2 h)),si]
      have fC:decide (0 < qaf s)=false:=by simpa using hp
      clear hp jM S4 X4 Vu Jk aW HX;generalize qaf s=lv at *;go_wp2_with fail
      go_roundw
      case rel=>exact ⟨k+1,SA,sc,by omega,by go_num,by rw [nD],HN⟩
      case measure=>simp [intOf]; omega
  · obtain rfl:k=ps.length:=by omega
    have oG:=wbw ps ps.length;have IY:=hid (kcc aW.out (Pm.out _) (by omega));have mP:∀ R,(Value.slice SA (waf ps ps.length).length sc).ownBlock=some R->w.heap.size<=R:=fun R e=>aW.out.own e
    have Dz:=hid mP;have Wj:Hid (uad ps=(xao (waf ps ps.length)).map Pl.jz):=hid (by unfold uad waf; rw [pP]);have mX:Hid (∀ s ∈ waf ps ps.length,∃ P,s=Pl.sp P/\Pl.jz s=P/\Fit P E D):=hid (fun s hs=>by
     obtain ⟨p,hp,rfl⟩:=gbw hs
     exact ⟨snP p,rfl,Pl.vu (jaz p),ual (HF.out p hp)⟩)
    have Dt:=hid (Pm.out ps.length);clear aW mP lQ HF Pm af hk;generalize waf ps ps.length=M at *;go_wp2_with fail;refine IY.out.mono ?_;rintro e w3 ⟨rfl,L,jA,kP,oZ,sO⟩;have rU:Ext w w3:=Below.grown HX.out.below sO HX.out.size (fun b e=>Dz.out b e);have hLM:L.length=M.length:=jA.length_eq;have HD:Hid (uad ps=(kz L L.length).map Pl.jz):=hid (by rw [Wj.out,gcz jA fun i j hi hj oI=>Int.not_lt.2 (kP i j hi hj oI)]);have xP:=hid oZ;have IX:=hid rU;have og:Hid (∀ s ∈ L,s ∈ M):=hid (fun s hs=>jA.mem_iff.1 hs);clear jA kP oZ sO IY Wj Dz HX rU;rw [hLM] at HD;go_wp2_with fail
    go_step3
    go_wp2_with fail
    go_loopw [7,31] (fun fv iv wr=>∃ (k:Nat) (FA:Option Addr) (fc:Nat),k<=M.length/\iv=.int .i64 k/\fv=.slice FA (kz L k).length fc/\Hid (jg w3.heap.size (fun b=>w3.heap.size<=b) wr fv ((kz L k).map Pl.jz)/\Ext w3 wr)) (fun _ iv _=>M.length - (intOf iv).toNat)
    case atStart=>exact ⟨0,none,0,pS _,rfl,rfl,hid ⟨jg.nil _ _ _,Ext.refl _⟩⟩
    case round =>
     obtain ⟨k,FA,fc,hk,rfl,rfl,HR⟩:=hrel;have HX:=hid HR.out.2;have aW:=hid HR.out.1;clear HR
     by_cases aaq:k < M.length
     · have af:k < L.length:=by omega
       obtain ⟨ad,u,hA,ah,Xt,Oc⟩:∃ ad u,SA=some ad/\ad.block < wr.heap.size/\wr.cell? (ad.add k)=some u/\SpV wr none u L[k]:=by
        obtain ⟨A',c',e,-,-,h⟩:=xP.out.ext HX.out;injection e with e1 e2 e3
        subst e1;exact h k af
       subst hA;have Pn:=mX.out _ (og.out _ (pt af));obtain ⟨P,XJ,hPo,hPf⟩:=Pn;have yJ:=Dt.out _ (og.out _ (pt af));have HU:=hid Oc;have VG:=hid (show L[k]=P.sp/\Pl.jz L[k]=P from ⟨XJ,hPo⟩);have Jd:=hid (fun (W':World) (hx:Ext wr W')=>yb9 u (show SpV W' none u P.sp by rw [<- XJ]; exact Oc.ext hx) hPf (by omega) (by omega));have qB:=gb0 L k
       have kG:Hid (∀ W4,Ext wr W4->∀ (v5:Value) (w5:World),PlV w5 (fun b=>W4.heap.size<=b) P v5->Ext W4 w5->∃ A0 n0 c0 A1 n1 c1,v5=plV P (.slice A0 n0 c0) (.slice A1 n1 c1)/\n1=P.cs.length /\
        ∃ v6 w6,(Builtin.append_ #[31,31] 31 #[.slice FA (kz L k).length fc,.slice (some ⟨w5.heap.size,0,none⟩) 1 1]).run Tryz.prog (w5.alloc (.cells #[.int .i64 P.lv,.bool P.neg,.slice A0 n0 c0,.slice A1 n1 c1] 33))=.ok v6 w6/\jg w3.heap.size (fun b=>w3.heap.size<=b) w6 v6 ((kz L k).map Pl.jz ++ [P])/\Ext w3 w6):=hid (fun W4 jM v5 w5 hp5 tZ=>by
        obtain ⟨A0,n0,c0,A1,c1,rfl,-⟩:=id hp5.open_;have hw:=HX.out.size;have h4:=jM.size;have h5:=tZ.size;have hro:=aW.out.ext (jM.trans tZ);have bQ:Ext w3 w5:=HX.out.trans (jM.trans tZ);obtain ⟨v6,w6,ak,hg,-,ae,-⟩:=hro.push bQ.size (x:=P) (hp5.mono fun b hb=>⟨fun e=>by have:=(aW.out.own e).2; omega,by omega⟩) (by simp; omega) 31
        exact ⟨A0,n0,c0,A1,_,c1,rfl,rfl,v6,w6,ak,ae,Below.grown bQ.below hg bQ.size (fun b e=>(hro.own e).1)⟩)
       obtain ⟨Au,cu,rfl,-⟩:=id Oc;have BI:Hid (0 < k->L[k - 1]?=L[k]?->kz L (k+1)=kz L k):=hid (fun h0 h=>ybq h0 h);have o9:Hid (¬ (0 < k/\L[k - 1]?=L[k]?)->(kz L (k+1)).map Pl.jz=(kz L k).map Pl.jz ++ [P]):=hid (fun h=>by rw [ub0 af h,ux,<- VG.out.2]; rfl)
       by_cases qQ:0 < k
       · obtain ⟨m,hm⟩:∃ m,k=m+1:=⟨k - 1,by omega⟩;have yS:m < L.length:=by omega
         have hmM:m < M.length:=by omega
         obtain ⟨um,gU,hsum⟩:∃ um,wr.cell? (ad.add m)=some um/\SpV wr none um L[m]:=by
          obtain ⟨A',c',e,-,-,h⟩:=xP.out.ext HX.out;injection e with e1 e2 e3
          obtain ⟨ad',u',e4,-,h5,h6⟩:=h m yS;rw [<- e1] at e4;injection e4 with e4
          subst e4;exact ⟨u',h5,h6⟩
         have BH:=Dt.out _ (og.out _ (pt yS));have jO:=uck _ _ 1099511627776 hsum Oc BH.dig yJ.dig (by omega) BH.nrm yJ.nrm BH.len yJ.len;rw [BH.nf,yJ.nf] at jO;have hq:(L[k - 1]?=L[k]?) ↔ L[m]=L[k]:=by
          rw [show k - 1=m by omega,po yS,po af];simp
         have hsz:(M.length:Int)=M.length:=rfl;have I7:=hid jO;obtain ⟨Am,cm,rfl,-⟩:=id hsum;have hw:IntKind.i64.wrap ((k:Int) - 1)=(m:Int):=by rw [rk]; omega
         have hkd:decide (0 < (k:Int))=true:=by simpa using qQ
         have uU:=BI.out qQ;rw [hq] at uU;have BO:=o9.out;rw [hq] at BO;have Yt:=hid uU;have Ep:=hid (fun (h:¬ L[m]=L[k])=>BO (fun h'=>h h'.2));clear BI o9 uU BO hq jO yJ BH hsum Oc XJ hPo hPf Dt og mX VG HU hsz hm;generalize L[k]=sk at *;generalize L[m]=sm at *;go_wp2_with fail;refine I7.out.mono ?_;rintro e w4 ⟨rfl,x4⟩;have X4:=hid x4;clear x4 I7 Xt gU
         by_cases he:sm=sk
         · have nH:decide (sm=sk)=true:=by simpa using he
           have HN:Hid (jg w3.heap.size (fun b=>w3.heap.size<=b) w4 (.slice FA (kz L k).length fc) ((kz L (k+1)).map Pl.jz)/\Ext w3 w4):=hid ⟨by rw [Yt.out he]; exact aW.out.ext X4.out,HX.out.trans X4.out⟩;have qO:(kz L (k+1)).length=(kz L k).length:=by rw [Yt.out he]
           clear he Yt Ep kG Jd aW;go_wp2_with fail
           go_roundw
           case rel=>exact ⟨k+1,FA,fc,by omega,by go_num,by rw [qO],HN⟩
           case measure=>simp [intOf]; omega
         · have nH:decide (sm=sk)=false:=by simpa using he
           have QR:=hid (Ep.out he);clear he Yt Ep;go_wp2_with fail;refine (Jd.out _ X4.out).mono ?_;rintro e w5 ⟨v5,rfl,p5,x5⟩;obtain ⟨A0,n0,d0,A1,n1,d1,rfl,rfl,v6,w6,ak,dW,DX⟩:=kG.out _ X4.out v5 w5 p5 x5;have HN:Hid (jg w3.heap.size (fun b=>w3.heap.size<=b) w6 v6 ((kz L (k+1)).map Pl.jz)/\Ext w3 w6):=hid ⟨by rw [QR.out]; exact dW,DX⟩;obtain ⟨FA6,fc6,JI,-,-⟩:=HN.out.1.len;rw [px] at JI;subst JI;clear p5 x5 dW DX QR kG Jd aW;unfold plV
           go_wp2_with (at_builtin
                        refine wpList_append_run rfl (.tmp 47) (.tmp 50) _ _ rfl _ _ _ _ rfl rfl ak ?_)
           clear ak
           go_roundw
           case rel=>exact ⟨k+1,FA6,fc6,by omega,by go_num,rfl,HN⟩
           case measure=>simp [intOf]; omega
       · have hkd:decide (0 < (k:Int))=false:=by simpa using qQ
         have QR:=hid (o9.out (fun h=>qQ h.1));clear BI o9 yJ Oc XJ hPo hPf Dt og mX VG HU;generalize L[k]=sk at *;go_wp2_with fail;refine (Jd.out _ (Ext.refl wr)).mono ?_;rintro e w5 ⟨v5,rfl,p5,x5⟩;obtain ⟨A0,n0,d0,A1,n1,d1,rfl,rfl,v6,w6,ak,dW,DX⟩:=kG.out _ (Ext.refl wr) v5 w5 p5 x5;have HN:Hid (jg w3.heap.size (fun b=>w3.heap.size<=b) w6 v6 ((kz L (k+1)).map Pl.jz)/\Ext w3 w6):=hid ⟨by rw [QR.out]; exact dW,DX⟩;obtain ⟨FA6,fc6,JI,-,-⟩:=HN.out.1.len;rw [px] at JI;subst JI;clear p5 x5 dW DX QR kG Jd aW;unfold plV
         go_wp2_with (at_builtin
                      refine wpList_append_run rfl (.tmp 47) (.tmp 50) _ _ rfl _ _ _ _ rfl rfl ak ?_)
         clear ak
         go_roundw
         case rel=>exact ⟨k+1,FA6,fc6,by omega,by go_num,rfl,HN⟩
         case measure=>simp [intOf]; omega
     · obtain rfl:k=M.length:=by omega
       have iM:Hid (xa1 (uad ps) w (.returned (.slice FA (kz L M.length).length fc)) wr):=hid ⟨_,rfl,by rw [HD.out]; exact aW.out.qaW.mono fun b hb=>by have:=IX.out.size; omega,IX.out.trans HX.out⟩;clear aW xP og Dt mX HD aaq hk;go_wp2_with fail;rw [Exit.noGoto_ret];go_ret;exact iM.out
end Go.Proofs.YtcepajijiabkmaaGreat
