/- Layer 22: sparse.Level. -/
import Derived.Shelf.SlSortCmp.Whole1
import Derived.Test.YtcepajijiabkmaaGreatMq49
set_option linter.unusedSimpArgs false
set_option linter.unusedVariables false

set_option maxRecDepth 100000
set_option maxHeartbeats 8000000
namespace Go.Proofs.YtcepajijiabkmaaGreat
open Lib (hid)
open Go.RowKit Go.Shelf
attribute [local go_sem] Oper.semAt_some zbw wbv gbv ubv kb7 jb7 qb7 xb7
def up (e i h:Int):Int:=if 0 < e/\h < i then i else h
def qak (m : Mo) : Nat -> Int
 | 0=>m.a
 | 1=>m.b
 | 2=>m.c
 | _=>m.d
def wbc (m : Mo) (t : Int) : Nat -> Int
 | 0=>t
 | k+1=>up (qak m k) (k+1) (wbc m t k)
theorem vav (m:Mo) (t:Int) (k:Nat):wbc m t (k+1)=up (qak m k) (k+1) (wbc m t k):=rfl
def Mo.lvl (m:Mo):Int:=if 0 < m.d then 4 else if 0 < m.c then 3 else if 0 < m.b then 2 else if 0 < m.a then 1 else 0
def yaa (l:Sp):Int:=l.foldl (fun a x=>max a x.2.lvl) 0
theorem yck (m:Mo) (t:Int) (h:0<=t):wbc m t 4=max t m.lvl:=by
 simp only [wbc,up,qak,Mo.lvl]
 repeat' split
 all_goals omega
theorem zck (l:Sp) (k:Nat) (hk:k < l.length):yaa (l.take (k+1))=max (yaa (l.take k)) l[k].2.lvl:=by
 unfold yaa;rw [List.take_succ_eq_append_getElem hk,List.foldl_append]; rfl
theorem jbm : ∀ (l : Sp) (a : Int), a <= l.foldl (fun a x => max a x.2.lvl) a
 | [],a=>Int.le_refl _
 | x :: r,a=>Int.le_trans (by omega) (jbm r (max a x.2.lvl))
theorem zb3 (l:Sp):0<=yaa l:=jbm l 0
theorem ka3 : ∀ (l : Sp) (a : Int), 0 <= a -> (0 < l.foldl (fun a x => max a x.2.lvl) a ↔ 0 < a \/ ∃ x ∈ l, 0 < x.2.lvl)
 | [],a,_=>by simp
 | x :: r,a,h=>by
   rw [List.foldl_cons,ka3 r (max a x.2.lvl) (by omega)];simp only [List.mem_cons,exists_eq_or_imp]
   constructor
   · rintro (h1 | h1)
     · by_cases h2:0 < a
       · exact .inl h2
       · exact .inr (.inl (by omega))
     · exact .inr (.inr h1)
   · rintro (h1 | h1 | h1)
     · exact .inl (by omega)
     · exact .inl (by omega)
     · exact .inr h1
theorem kct {l:Sp}:0 < yaa l ↔ ∃ x ∈ l,0 < x.2.lvl:=by
 unfold yaa;rw [ka3 l 0 (Int.le_refl _)]; simp
theorem qco {w:World} {A:Option Addr} {n c:Nat} {l:Sp} (hc:Calls Tryz.prog 31 #[.slice A n c] w (ga2 l w)):Calls Tryz.prog 28 #[.slice A n c] w (xbp l w):=by
 have aY:=hid hc;clear hc;go_enter Tryz.func28,Tryz.ntmps28;go_wp2_with fail;refine aY.out.mono ?_;rintro e w2 ⟨v2,rfl,h2,x2⟩;obtain ⟨A2,c2,rfl,-⟩:=id h2
 have HF:Hid (xbp l w (.returned (.func (.func 52) #[] #[.pointer (some ⟨w2.heap.size,0,none⟩)])) (w2.alloc (.cells #[.slice A2 l.length c2] 23))):=
  hid ⟨_,_,rfl,by simp [go_sem],x2.size,by simp,h2.ext ((Ext.refl w2).alloc _),x2.alloc _⟩
 clear x2 h2 aY;go_wp2_with fail;go_ret;exact HF.out
structure LvP (B : Nat) (w W W' : World) (h : Int) : Prop where
 from_:KeepsFrom B W W'
 keep:zq w.heap.size W W'
 ext:Ext w W'
 size:B<=W'.heap.size
 box:W'.heap[w.heap.size]?=some (.cells #[.int .i64 h] 3 (0,0))
theorem LvP.cell {B:Nat} {w W W':World} {h:Int} (p:LvP B w W W' h):W'.cell? ⟨w.heap.size,0,none⟩=some (.int .i64 h):=box1 p.box
theorem LvP.free {B:Nat} {w W W':World} {h:Int} (p:LvP B w W W' h):W'.frozen? ⟨w.heap.size,0,none⟩=false:=by simp [World.frozen?,p.box]
theorem LvP.put {B : Nat} {w W W' : World} {h v : Int} (p : LvP B w W W' h) (hB : w.heap.size < B) : LvP B w W (W'.setCell ⟨w.heap.size, 0, none⟩ (.int .i64 v)) v where
 from_:=p.from_.trans (KeepsFrom.of_grownBy (grownBy_setCell' W' _ _) (fun j e=>by injection e with e; omega))
 keep:=p.keep.trans (zq.setCell _ W' _ p.cell rfl)
 ext:=p.ext.setCell (Nat.le_refl _) _
 size:=by
  have h1:=p.size;have:(W'.setCell ⟨w.heap.size,0,none⟩ (.int .i64 v)).heap.size=W'.heap.size:=by simp [World.setCell]
  omega
 box:=Boxed.set _ p.box
theorem LvP.done {B:Nat} {w W W':World} {h h':Int} (p:LvP B w W W' h) (e:h=h'):KeepsFrom B W W'/\zq w.heap.size W W'/\Ext w W'/\B<=W'.heap.size/\W'.heap[w.heap.size]?=some (.cells #[.int .i64 h'] 3 (0,0)):=by
 subst e; exact ⟨p.from_,p.keep,p.ext,p.size,p.box⟩
theorem zbv {w:World} {A0:Option Addr} {l0 k0:Nat} {l:Sp} (HN:∀ W',Ext w W'->Calls Tryz.prog 31 #[.slice A0 l0 k0] W' (ga2 l W')) (eG:∀ x ∈ l,(dg x.1.natAbs).length<=1099511627776) (hlen:l.length<=1099511627776):Calls Tryz.prog 8 #[.slice A0 l0 k0] w (xa6 (yaa l) w):=by
 have nY:=hid eG;have JF:=hid (fun (W':World) (hx:Ext w W')=>qco (HN W' hx));clear eG HN;have kX:∀ k:Nat,(Fence.wide.depth.isSome=true->1<=k):=fun k h=>by cases h
 obtain ⟨V0,fK⟩:=n_m ((w.alloc (.cells #[.int .i64 0] 3)));obtain ⟨W0,DY⟩:=n_m ((V0.setCell ⟨w.heap.size,0,none⟩ (.int .i64 0)));have aF:Ext w W0:=by rw [<- DY,<- fK]; exact ((Ext.refl w).alloc _).setCell (Nat.le_refl _) _
 have iE:W0.heap.size=w.heap.size+1:=by rw [<- DY,<- fK]; simp [World.setCell]
 have Jd:V0.heap[w.heap.size]?=some (.cells #[.int .i64 0] 3 (0,0)):=by rw [<- fK]; exact heap_alloc_new w _
 have DU:W0.heap[w.heap.size]?=some (.cells #[.int .i64 0] 3 (0,0)):=by rw [<- DY]; exact Boxed.set _ Jd
 have c0:V0.cell? ⟨w.heap.size,0,none⟩=some (.int .i64 0):=box1 Jd;have f0:V0.frozen? ⟨w.heap.size,0,none⟩=false:=by simp [World.frozen?,Jd]
 clear Jd;have ay:=hid aF;have EC:=hid DU;clear aF DU;refine (callsIn_wide (n:=5)).1 ?_;refine callsIn_of_wp_marks Tryz.func8 rfl trivial ?_ rfl;simp only [Tryz.ntmps8,List.size_toArray,List.length_cons,List.length_nil,Nat.reduceAdd,Nat.reduceSub,Array.replicate_succ,Array.replicate_zero,List.push_toArray,List.append_toArray,List.nil_append,List.cons_append]
 gi_wp2_with fail
 clear DY fK c0 f0;refine ⟨trivial,?_⟩;refine (callsIn_wide.2 (JF.out W0 ay.out)).mono ?_;rintro e w2 ⟨B2,v2,rfl,dw,AZ,uX,⟨A2,k2,rfl,xA,hk2,aK⟩,x2⟩;have X2:=hid (ay.out.trans x2);have Tz:=hid ((x2.below.block _ (by omega)).trans EC.out);have jT:=x2.size;have tH:=hid (fun n=>ubk w.heap.size xA hk2 aK (aK.apart Tz.out) (fun x hx=>nY.out x hx) B2 uX (by omega) dw n);clear x2 dw aK JF ay EC
 gi_wp2_with fail
 refine gbs (by omega) (gf := 52) (lb := #[.pointer (some ⟨B2, 0, none⟩)]) rfl (enters_of Tryz.func52 (by kernel_rfl) rfl) (tH.out _) zq.trans (fun W l o o' _ h1 h2 _ => zq.putObj _ W l o o' h1 h2) (Below.refl _ _) (fun _ => rfl)
  (fun k W=>Ext w W/\w2.heap.size<=W.heap.size/\W.heap[w.heap.size]?=some (.cells #[.int .i64 (yaa (l.take k))] 3 (0,0)))
  ?ownI ?startI
  (fun k x a' W=>(∃ g,a'={ tmps:=#[.slice A0 l0 k0,undef,.int .i64 0,.pointer (some ⟨w.heap.size,0,none⟩),.pointer (some ⟨g,0,none⟩),undef,undef,.slice A0 l0 k0,.func (.func 52) #[] #[.pointer (some ⟨B2,0,none⟩)],.agg #[.int .i64 x.1.a,.int .i64 x.1.b,.int .i64 x.1.c,.int .i64 x.1.d],x.2,undef,undef,undef,undef,undef,undef,undef,undef,undef,undef,undef,undef,undef,undef,undef,undef,undef],defers:=[] }/\w2.heap.size<=g/\W.heap[g]?=some (.cells #[.int .i64 x.1.a,.int .i64 x.1.b,.int .i64 x.1.c,.int .i64 x.1.d] 61 (0,0)))/\(∃ h:k < l.length,x.1=l[k].2)/\Ext w W/\w2.heap.size<=W.heap.size/\W.heap[w.heap.size]?=some (.cells #[.int .i64 (yaa (l.take k))] 3 (0,0)))
  ?ownA ?assign ?body ?done
 case ownI =>
  rintro k W W' row ⟨h1,h2,h3⟩ hg hr;exact ⟨Below.grown h1.below hg h1.size (fun r e=>by have:=(hr r e).1; have:=h1.size; have:=X2.out.size; omega),Nat.le_trans h2 hg.size,cells_kept hg (fun r e=>(hr r e).2) h3⟩
 case startI=>exact ⟨X2.out,Nat.le_refl _,Tz.out⟩
 case ownA =>
  rintro k x a' s W W' row ⟨⟨g,ha,iH,dL⟩,hk,h1,h2,h3⟩ hg hr;have fA:=fun r e=>(hr r e).2
  exact ⟨⟨g,ha,iH,cells_kept hg fA dL⟩,hk,Below.grown h1.below hg h1.size (fun r e=>by have:=(hr r e).1; have:=h1.size; have:=X2.out.size; omega),Nat.le_trans h2 hg.size,cells_kept hg fA h3⟩
 case assign =>
  rintro lp k ⟨mk,xv⟩ W K hk ⟨h1,h2,h3⟩ ⟨lN,hm,hz⟩ hK;dsimp only at hm hz;have hx1:Ext W (W.alloc (.cells #[.int .i64 mk.a,.int .i64 mk.b,.int .i64 mk.c,.int .i64 mk.d] 61)):=(Ext.refl W).alloc _;have HK:=hK { tmps:=#[.slice A0 l0 k0,undef,.int .i64 0,.pointer (some ⟨w.heap.size,0,none⟩),.pointer (some ⟨W.heap.size,0,none⟩),undef,undef,.slice A0 l0 k0,.func (.func 52) #[] #[.pointer (some ⟨B2,0,none⟩)],.agg #[.int .i64 mk.a,.int .i64 mk.b,.int .i64 mk.c,.int .i64 mk.d],xv,undef,undef,undef,undef,undef,undef,undef,undef,undef,undef,undef,undef,undef,undef,undef,undef,undef],defers:=[] } _ (yaq hx1) (zq.of_ext _ hx1) ⟨⟨W.heap.size,rfl,h2,heap_alloc_new W _⟩,⟨lN,hm⟩,h1.trans hx1,Nat.le_trans h2 hx1.size,(hx1.below.block _ (by have:=X2.out.size; have:=h1.size; omega)).trans h3⟩;have ML:=hid HK;clear HK hK h1 h2 h3 hx1 hz hm;simp only [zbp,moV]
  gi_wp2
  exact ML.out
 case body =>
  rintro lp k ⟨mk,xv⟩ a' W hk ⟨⟨g,rfl,iH,dL⟩,⟨lN,hm⟩,h1,h2,h3⟩;dsimp only at hm dL;have bG:Hid (yaa (l.take (k+1))=wbc mk (yaa (l.take k)) 4):=hid (by rw [zck l k lN,hm,yck _ _ (zb3 _)]);have HP0:Hid (LvP w2.heap.size w W W (yaa (l.take k))):=hid ⟨KeepsFrom.refl _ _,zq.refl _ _,h1,h2,h3⟩;have mZ:Hid (∀ (W':World) (h v:Int),LvP w2.heap.size w W W' h->LvP w2.heap.size w W (W'.setCell ⟨w.heap.size,0,none⟩ (.int .i64 v)) v):=hid (fun W' h v hp=>hp.put (by have:=X2.out.size; have:=jT; have:=iE; omega));obtain ⟨m0,m1,m2,m3⟩:=box4 dL;clear h1 h2 h3 dL hm;rw [bG.out];generalize hL0:yaa (l.take k)=tk at HP0;clear bG;obtain ⟨xa,iM⟩:=n_m (mk.a);obtain ⟨xb,Hq⟩:=n_m (mk.b);obtain ⟨xc,yF⟩:=n_m (mk.c);obtain ⟨xd,VN⟩:=n_m (mk.d);rw [iM] at m0;rw [Hq] at m1;rw [yF] at m2;rw [VN] at m3;have HM:=hid (show mk.a=xa/\mk.b=xb/\mk.c=xc/\mk.d=xd from ⟨iM,Hq,yF,VN⟩);clear iM Hq yF VN
  gi_wp2_with fail
  clear m0 m1 m2 m3
  gi_loopw [12] (fun iv wr=>∃ k:Nat,k<=4/\iv=.int .i64 k/\∃ h,Hid (LvP w2.heap.size w W wr h/\wbc mk tk k=h)) (fun iv _=>4 - (intOf iv).toNat)
  case atStart=>exact ⟨0,by omega,rfl,tk,hid ⟨HP0.out,rfl⟩⟩
  case round =>
   obtain ⟨k,hk,rfl,h,HR⟩:=hrel;have t0:=HR.out.1.cell;have tf:=HR.out.1.free;have CG:=hid (fun v=>mZ.out _ _ v HR.out.1);rcases (by omega:k=0\/k=1\/k=2\/k=3\/k=4) with rfl | rfl | rfl | rfl | rfl
   · have HN:=hid (vav mk tk 0)
     by_cases hp:0 < xa
     · by_cases hq:h < 1
       · gi_wp2_with fail
         go_roundw
         case rel=>exact ⟨1,by omega,by first | rfl | go_num,1,hid ⟨CG.out _,by rw [HN.out,HR.out.2]; simp [up,qak,HM.out,hp,hq]⟩⟩
         case measure=>simp [intOf]
       · gi_wp2_with fail
         go_roundw
         case rel=>exact ⟨1,by omega,by first | rfl | go_num,h,hid ⟨HR.out.1,by rw [HN.out,HR.out.2]; simp [up,qak,HM.out,hp,hq]⟩⟩
         case measure=>simp [intOf]
     · gi_wp2_with fail
       go_roundw
       case rel=>exact ⟨1,by omega,by first | rfl | go_num,h,hid ⟨HR.out.1,by rw [HN.out,HR.out.2]; simp [up,qak,HM.out,hp]⟩⟩
       case measure=>simp [intOf]
   · have HN:=hid (vav mk tk 1)
     by_cases hp:0 < xb
     · by_cases hq:h < 2
       · gi_wp2_with fail
         go_roundw
         case rel=>exact ⟨2,by omega,by first | rfl | go_num,2,hid ⟨CG.out _,by rw [HN.out,HR.out.2]; simp [up,qak,HM.out,hp,hq]⟩⟩
         case measure=>simp [intOf]
       · gi_wp2_with fail
         go_roundw
         case rel=>exact ⟨2,by omega,by first | rfl | go_num,h,hid ⟨HR.out.1,by rw [HN.out,HR.out.2]; simp [up,qak,HM.out,hp,hq]⟩⟩
         case measure=>simp [intOf]
     · gi_wp2_with fail
       go_roundw
       case rel=>exact ⟨2,by omega,by first | rfl | go_num,h,hid ⟨HR.out.1,by rw [HN.out,HR.out.2]; simp [up,qak,HM.out,hp]⟩⟩
       case measure=>simp [intOf]
   · have HN:=hid (vav mk tk 2)
     by_cases hp:0 < xc
     · by_cases hq:h < 3
       · gi_wp2_with fail
         go_roundw
         case rel=>exact ⟨3,by omega,by first | rfl | go_num,3,hid ⟨CG.out _,by rw [HN.out,HR.out.2]; simp [up,qak,HM.out,hp,hq]⟩⟩
         case measure=>simp [intOf]
       · gi_wp2_with fail
         go_roundw
         case rel=>exact ⟨3,by omega,by first | rfl | go_num,h,hid ⟨HR.out.1,by rw [HN.out,HR.out.2]; simp [up,qak,HM.out,hp,hq]⟩⟩
         case measure=>simp [intOf]
     · gi_wp2_with fail
       go_roundw
       case rel=>exact ⟨3,by omega,by first | rfl | go_num,h,hid ⟨HR.out.1,by rw [HN.out,HR.out.2]; simp [up,qak,HM.out,hp]⟩⟩
       case measure=>simp [intOf]
   · have HN:=hid (vav mk tk 3)
     by_cases hp:0 < xd
     · by_cases hq:h < 4
       · gi_wp2_with fail
         go_roundw
         case rel=>exact ⟨4,by omega,by first | rfl | go_num,4,hid ⟨CG.out _,by rw [HN.out,HR.out.2]; simp [up,qak,HM.out,hp,hq]⟩⟩
         case measure=>simp [intOf]
       · gi_wp2_with fail
         go_roundw
         case rel=>exact ⟨4,by omega,by first | rfl | go_num,h,hid ⟨HR.out.1,by rw [HN.out,HR.out.2]; simp [up,qak,HM.out,hp,hq]⟩⟩
         case measure=>simp [intOf]
     · gi_wp2_with fail
       go_roundw
       case rel=>exact ⟨4,by omega,by first | rfl | go_num,h,hid ⟨HR.out.1,by rw [HN.out,HR.out.2]; simp [up,qak,HM.out,hp]⟩⟩
       case measure=>simp [intOf]
   · gi_wp2_with fail
     simp only [ga4];exact HR.out.1.done HR.out.2.symm
 case done =>
  rintro D W hD ⟨h1,h2,h3⟩ hK;rw [List.take_length] at h3;have t0:=box1 h3;have H1:=hid h1;have MM:=hid hK;have wM:=X2.out.size;clear h1 h2 h3 hK
  gi_wp2_with fail
  refine ⟨by simp,.inl ⟨_,_,rfl,run_takeDeferred MM.out,?_⟩⟩;exact ⟨.int .i64 (yaa l),by simp [results,Tryz.results8,go_sem],rfl,Below.grown H1.out.below (grownBy_putObj' _ D _) H1.out.size (fun k e=>by injection e with e; omega)⟩
theorem xck {w:World} {v:Value} {l:Sp} (h:SpV w none v l) (hc:jf l=l) (eG:∀ x ∈ l,(dg x.1.natAbs).length<=1099511627776) (hL:(dg (yg l)).length<=1099511627776) (hlen:l.length<=1099511627776):Calls Tryz.prog 8 #[v] w (xa6 (yaa l) w):=by
 have HN:=fun (W':World) (hx:Ext w W')=>xab 1099511627776 (h.ext hx) (fun z ⟨x,hx,e⟩=>by rw [<- e]; exact eG x hx) (by omega) hlen
 rw [hc] at HN;obtain ⟨A,c,rfl,-⟩:=h;exact zbv HN eG hlen
theorem ja5 {w:World} {v:Value} {ts:List gag} {n d:Nat} {e:Int} (h:kaj w v ts) (hf:∀ t ∈ ts,t.few d e) (hn:ts.length<=n) (Ip:n<=1000) (hd:d<=1000) (he:e<=900) (he0:0<=e):Calls Tryz.prog 8 #[v] w (xa6 (yaa (jf (yx ts))) w):=by
 have hE:∃ E:Nat,e=E:=⟨e.toNat,by omega⟩;obtain ⟨E,rfl⟩:=hE;obtain ⟨-,Du⟩:=vax h.dig hf hn (by omega);have hlen:(yx ts).length<=n:=by rw [yx,List.length_map]; exact hn
 have HN:=fun (W':World) (hx:Ext w W')=>xab d ((h.sp hf).ext hx) (fun z _=>Nat.le_refl _) (by have:=ve Du; omega) (by omega)
 obtain ⟨A,c,rfl,-⟩:=h;refine zbv HN (fun x hx=>?_) (Nat.le_trans (ych _) (by omega));have h1:=Nat.le_trans (waz hx) (uau _);have h2:=ve (Nat.lt_of_le_of_lt h1 Du);omega
theorem wb6 : ∀ (l : Sp) (a : Int), a <= l.foldl (fun a x => max a x.2.lvl) a /\ ∀ x ∈ l, x.2.lvl <= l.foldl (fun a x => max a x.2.lvl) a
 | [],a=>⟨Int.le_refl _,by simp⟩
 | y :: r,a=>by
   obtain ⟨h1,h2⟩:=wb6 r (max a y.2.lvl);rw [List.foldl_cons];refine ⟨by omega,fun x hx=>?_⟩;rcases List.mem_cons.1 hx with rfl | hx
   · omega
   · exact h2 x hx
theorem ubu : ∀ (l : Sp) (a : Int), a <= 4 -> l.foldl (fun a x => max a x.2.lvl) a <= 4
 | [],a,h=>h
 | y :: r,a,h=>by
   rw [List.foldl_cons];refine ubu r _ ?_
   have : y.2.lvl <= 4 := by
    unfold Mo.lvl
    repeat' split
    all_goals omega
   omega
theorem kbj {l:Sp} (h:yaa (jf l) ≠ 4):(Pl.ofS l).lv < 4:=by
 have h4:=ubu (jf l) 0 (by omega);have key:(Pl.ofS (jf l)).lv<=(3:Nat):=Pl.ofS_lv (by omega) (fun x hx=>(yt hx).1) fun x hx i h3 hi=>by
  have h1:=(wb6 (jf l) 0).2 x hx;have hn:=(yt hx).1.2.2.2;unfold yaa at h;obtain rfl:i=4:=by omega
  have h5:x.2.lvl < 4:=by omega
  have h6:¬ 0 < x.2.d:=fun h7=>by unfold Mo.lvl at h5; rw [if_pos h7] at h5; omega
  show x.2.get ((4:Nat):Int)=0;unfold Mo.get;simp;omega
 have e:Pl.ofS (jf l)=Pl.ofS l:=Pl.can_eq (Pl.ofS_can _) (Pl.ofS_can _) fun k=>by
  rw [Pl.ofS_coef,Pl.ofS_coef,qai]
  split <;> rfl
 rw [e] at key;omega
end Go.Proofs.YtcepajijiabkmaaGreat

namespace Go.Proofs.YtcepajijiabkmaaGreat
open Lib (hid)
def zbf:Go.Shelf.Ren:=⟨fun | 6=>45 | 14=>73 | 20=>94 | 21=>95 | 22=>96 | 23=>97 | 24=>98 | 25=>99 | 26=>100 | 27=>101 | 46=>118 | 47=>119 | 48=>120 | 49=>121 | 50=>122 | 15=>74 | 57=>148 | 28=>102 | 29=>103 | n=>n,fun | 24=>23 | 22=>48 | 3=>3 | 25=>73 | 4=>4 | 0=>0 | 46=>127 | 45=>126 | 50=>115 | 66=>146 | 39=>85 | 55=>67 | 70=>150 | 76=>168 | 77=>169 | 53=>84 | 5=>5 | 9=>9 | n=>n,fun | n=>n⟩
theorem wcg : Go.Proofs.SlLaysF.n6 Tryz.prog zbf := {
 mixed:=by kernel_rfl,
 f6:=⟨Tryz.f45.name,by decide,Tryz.func45.trans (congrArg some (by kernel_rfl))⟩,
 f14:=⟨Tryz.f73.name,by decide,Tryz.func73.trans (congrArg some (by kernel_rfl))⟩,
 f15:=Tryz.func74.trans (congrArg some (by kernel_rfl)),
 f20:=⟨Tryz.f94.name,by decide,Tryz.func94.trans (congrArg some (by kernel_rfl))⟩,
 f21:=⟨Tryz.f95.name,by decide,Tryz.func95.trans (congrArg some (by kernel_rfl))⟩,
 f22:=⟨Tryz.f96.name,by decide,Tryz.func96.trans (congrArg some (by kernel_rfl))⟩,
 f23:=⟨Tryz.f97.name,by decide,Tryz.func97.trans (congrArg some (by kernel_rfl))⟩,
 f24:=⟨Tryz.f98.name,by decide,Tryz.func98.trans (congrArg some (by kernel_rfl))⟩,
 f25:=⟨Tryz.f99.name,by decide,Tryz.func99.trans (congrArg some (by kernel_rfl))⟩,
 f26:=⟨Tryz.f100.name,by decide,Tryz.func100.trans (congrArg some (by kernel_rfl))⟩,
 f27:=⟨Tryz.f101.name,by decide,Tryz.func101.trans (congrArg some (by kernel_rfl))⟩,
 f28:=Tryz.func102.trans (congrArg some (by kernel_rfl)),
 f29:=Tryz.func103.trans (congrArg some (by kernel_rfl)),
 f46:=⟨Tryz.f118.name,by decide,Tryz.func118.trans (congrArg some (by kernel_rfl))⟩,
 f47:=Tryz.func119.trans (congrArg some (by kernel_rfl)),
 f48:=Tryz.func120.trans (congrArg some (by kernel_rfl)),
 f49:=⟨Tryz.f121.name,by decide,Tryz.func121.trans (congrArg some (by kernel_rfl))⟩,
 f50:=⟨Tryz.f122.name,by decide,Tryz.func122.trans (congrArg some (by kernel_rfl))⟩,
 f57:=⟨Tryz.f148.name,by decide,Tryz.func148.trans (congrArg some (by kernel_rfl))⟩,
 t0:=Tryz.underlying0,
 a0:=Tryz.isAgg0,
 z0:=Tryz.sizeOf0,
 v0:=Tryz.zeroValue0,
 t3:=Tryz.underlying3,
 a3:=Tryz.isAgg3,
 z3:=Tryz.sizeOf3,
 v3:=Tryz.zeroValue3,
 t4:=Tryz.underlying4,
 a4:=Tryz.isAgg4,
 z4:=Tryz.sizeOf4,
 v4:=Tryz.zeroValue4,
 t5:=Tryz.underlying5,
 a5:=Tryz.isAgg5,
 z5:=Tryz.sizeOf5,
 v5:=Tryz.zeroValue5,
 t9:=Tryz.underlying9,
 a9:=Tryz.isAgg9,
 z9:=Tryz.sizeOf9,
 v9:=Tryz.zeroValue9,
 t22:=Tryz.underlying48,
 a22:=Tryz.isAgg48,
 z22:=Tryz.sizeOf48,
 v22:=Tryz.zeroValue48,
 a24:=Tryz.isAgg23,
 z24:=Tryz.sizeOf23,
 t25:=Tryz.underlying73,
 a25:=Tryz.isAgg73,
 z25:=Tryz.sizeOf73,
 v25:=Tryz.zeroValue73,
 t39:=Tryz.underlying85,
 a39:=Tryz.isAgg85,
 z39:=Tryz.sizeOf85,
 v39:=Tryz.zeroValue85,
 t45:=Tryz.underlying126,
 a45:=Tryz.isAgg126,
 z45:=Tryz.sizeOf126,
 v45:=Tryz.zeroValue126,
 t46:=Tryz.underlying127,
 a46:=Tryz.isAgg127,
 z46:=Tryz.sizeOf127,
 v46:=Tryz.zeroValue127,
 t50:=Tryz.underlying115,
 a50:=Tryz.isAgg115,
 z50:=Tryz.sizeOf115,
 v50:=Tryz.zeroValue115,
 t53:=Tryz.underlying84,
 a53:=Tryz.isAgg84,
 z53:=Tryz.sizeOf84,
 v53:=Tryz.zeroValue84,
 t55:=Tryz.underlying67,
 a55:=Tryz.isAgg67,
 z55:=Tryz.sizeOf67,
 v55:=Tryz.zeroValue67,
 t66:=Tryz.underlying146,
 a66:=Tryz.isAgg146,
 z66:=Tryz.sizeOf146,
 v66:=Tryz.zeroValue146,
 t70:=Tryz.underlying150,
 a70:=Tryz.isAgg150,
 z70:=Tryz.sizeOf150,
 v70:=Tryz.zeroValue150,
 t76:=Tryz.underlying168,
 a76:=Tryz.isAgg168,
 z76:=Tryz.sizeOf168,
 v76:=Tryz.zeroValue168,
 t77:=Tryz.underlying169,
 a77:=Tryz.isAgg169,
 z77:=Tryz.sizeOf169,
 v77:=Tryz.zeroValue169 }
open Go
theorem wcm {α:Type} (a:Ask α):∀ w:World,w.drawn<=(w.ask a).2.drawn:=by
 induction a with
 | done a=>intro w; exact Nat.le_refl _
 | ask what range k ih =>
   intro w;unfold World.ask;simp only []
   split
   · exact ih _ _
   · exact Nat.le_trans (Nat.le_succ w.drawn) (ih _ { w with drawn:=w.drawn+1 })
theorem xcg (w:World) (c:Sys):w.drawn<=(w.sys c).2.drawn:=by
 have h:=wcm (Kernel.perform c w.os) w;unfold World.sys
 split
 · exact Nat.le_refl _
 · rename_i r os w' _ e;rw [e] at h;exact h
theorem yba {ε α β:Type} {x:Except ε α} {f:α->Except ε β} {b:β} (h:x.bind f=.ok b):∃ a,x=.ok a/\f a=.ok b:=by
 cases x with
 | error e=>cases h
 | ok a=>exact ⟨a,rfl,h⟩
theorem kbe {p:Program} {w w':World} {at_:Addr} {u:TypeId} {k:Addr} {v:Value} {b:Bool} {l:List Addr} (h:w.viewStore p at_ u k v b=.ok (w',l)):w'.drawn=w.drawn:=by
 unfold World.viewStore at h;simp only [bind] at h
 split at h
 · cases h
 obtain ⟨a,-,h⟩:=yba h
 split at h
 · split at h
   · cases h
   obtain ⟨c,-,h⟩:=yba h;injection h with h
   injection h with h
   rw [<- h]
 · cases h
theorem zbk {p:Program} {w w':World} {a:Addr} {v:Value} {b:Bool} {l:List Addr} (h:w.farStore p a v b=.ok (w',l)):w'.drawn=w.drawn:=by
 unfold World.farStore at h
 split at h
 · split at h
   · rename_i e;injection h with h
     rw [h] at e;exact kbe e
   · cases h
 · cases h
def vbs {α : Type} : Result α -> World
 | .ok _ w=>w
 | .halt _ w=>w
theorem gau {α:Type} (p:Program) (s:Sem α):∀ w:World,w.drawn<=(vbs (s.run p w)).drawn:=by
 induction s with
 | pure a=>intro w; exact Nat.le_refl _
 | load m a k ih =>
   intro w;unfold Sem.run
   split
   · exact ih _ _
   · split
     · exact ih _ _
     · exact Nat.le_refl _
 | store m a v k ih =>
   intro w
   have key:w.drawn<=(vbs (match w.cell? a with
    | some _ => if w.frozen? a then .halt (.unsupported (.unsafePointer "a write to bytes that a string shares")) w else k.run p (w.setCell a v)
    | none=>match w.farStore p a v (m == .atomic) with
      | .ok (w,_)=>k.run p w
      | .error h=>.halt h w)).drawn:=by
    split
    · split
      · exact Nat.le_refl _
      · exact ih (w.setCell a v)
    · split
      · rename_i e;rw [<- zbk e];exact ih _
      · exact Nat.le_refl _
   cases v <;> first | exact Nat.le_refl _ | exact key
 | new o k ih=>intro w; exact ih _ { w with heap:=w.heap.push o }
 | shape r k ih=>intro w; exact ih _ _
 | freeze a n k ih =>
   intro w;have:(w.freeze a n).drawn=w.drawn:=by unfold World.freeze; split <;> rfl
   exact this ▸ ih (w.freeze a n)
 | frozen a k ih=>intro w; exact ih _ _
 | getObj r k ih =>
   intro w;unfold Sem.run
   split
   · exact Nat.le_refl _
   · exact ih _ _
   · exact Nat.le_refl _
 | setObj r o k ih =>
   intro w;unfold Sem.run
   split
   · exact Nat.le_refl _
   · exact ih { w with heap:=w.heap.setIfInBounds r o }
   · exact Nat.le_refl _
 | choose q k ih =>
   intro w;unfold Sem.run
   split
   · exact ih _ _
   · exact Nat.le_trans (Nat.le_succ w.drawn) (ih _ { w with drawn:=w.drawn+1 })
 | sys c k ih =>
   intro w;exact Nat.le_trans (xcg w c) (ih _ _)
 | program k ih=>intro w; exact ih _ _
 | mark m k ih=>intro w; exact ih _
 | halt h=>intro w; exact Nat.le_refl _
theorem uaq {α:Type} (p:Program) (s:Sem α) (w:World) (es:Array Event):w.drawn<=(vbs (s.runT p w es).1).drawn:=by
 rw [Sem.runT_fst]; exact gau p s w
theorem yc0 {α:Type} {p:Program} {s:Sem α} {w w':World} {a:α} {es es':Array Event} (h:s.runT p w es=(.ok a w',es')):w.drawn<=w'.drawn:=by
 have:=uaq p s w es; rw [h] at this; exact this
theorem qci {α:Type} {p:Program} {s:Sem α} {w w':World} {a:Halt} {es es':Array Event} (h:s.runT p w es=(.halt a w',es')):w.drawn<=w'.drawn:=by
 have:=uaq p s w es; rw [h] at this; exact this
def gW (n : Nat) : GStep -> Prop
 | .go _ w _ | .comm _ _ _ _ w _ | .spawn _ _ w _ | .count _ w _ | .timer _ _ w _ | .alone _ _ w _ | .newcoro _ _ _ w _ | .coroswitch _ _ _ w _ | .collect _ w _ | .watch _ w _=>n<=w.drawn
 | .ended ..=>True
theorem uah {n:Nat} {es:Array Event} {s:GStep} (h:gW n s):gW n (s.after es):=by cases s <;> exact h
theorem gW.mono {n m:Nat} {s:GStep} (h:gW n s) (hm:m<=n):gW m s:=by
 cases s <;> first | exact trivial | exact Nat.le_trans hm h
theorem xay {n:Nat} {c:Prop} [Decidable c] {a b:GStep} (ha:gW n a) (hb:gW n b):gW n (if c then a else b):=by
 split
 · exact ha
 · exact hb
theorem ub7 {n:Nat} {α:Type} {o:Option α} {b:GStep} {f:α->GStep} (hb:gW n b) (hf:∀ a,gW n (f a)):gW n (o.elim b f):=by
 cases o with
 | none=>exact hb
 | some a=>exact hf a
theorem jw {α:Type} {p:Program} {s:Sem α} {w w':World} {a:α} (h:s.run p w=.ok a w'):w.drawn<=w'.drawn:=by
 have:=gau p s w; rw [h] at this; exact this
theorem qcc {α:Type} {p:Program} {s:Sem α} {w w':World} {a:Halt} (h:s.run p w=.halt a w'):w.drawn<=w'.drawn:=by
 have:=gau p s w; rw [h] at this; exact this
theorem xb4 (fr:Frame) (l:List ByteArray) (m:String) (b:Bool) (w:World):gW w.drawn (dieOf fr l m b w):=Nat.le_refl _
theorem wai (fr:Frame) (m:String) (w:World):gW w.drawn (endThrow fr m w):=Nat.le_refl _
theorem ubo (w:World) (fd:Nat) (t:ByteArray) (o:Outcome):gW w.drawn (endWith w fd t o):=by
 unfold endWith;dsimp only
 split
 · split
   · exact trivial
   · exact trivial
 · exact trivial
 · exact trivial
theorem jaq (p:Program) (fr:Frame) (v:Value) (w:World):gW w.drawn (endPrinting p fr v w):=by
 unfold endPrinting;simp only []
 split
 · exact wai _ _ _
 · exact trivial
theorem jay (p:Program) (fr:Frame) (callers:List Frame) (dying:Option Dying) (m:String) (w:World):gW w.drawn (endFatal p fr callers dying m w):=by
 unfold endFatal;simp only []
 split
 · rename_i e; exact (xb4 _ _ _ _ _).mono (jw e)
 · exact trivial
 · exact trivial
theorem ybo (p:Program) (fr:Frame) (d:Dying) (f:Fatal) (w:World):gW w.drawn (writeOn p fr d f w):=by
 unfold writeOn;simp only []
 split
 · exact trivial
 · split
   · rename_i e;exact yc0 e
   · rename_i e;exact qci e
   · exact trivial
   · exact trivial
theorem jah {α:Type} {p:Program} {s:Sem α} {w:World} {r:Result α} {es es':Array Event} (h:s.runT p w es=(r,es')):w.drawn<=(vbs r).drawn:=by
 have:=uaq p s w es; rw [h] at this; exact this
theorem wcl (p:Program) (fr:Frame) (d:Dying) (w:World):gW w.drawn (die p fr d w):=by
 unfold die
 split
 · exact ybo _ _ _ _ _
 · split
   · split
     · exact Nat.le_refl _
     · exact ubo _ _ _ _
   · dsimp only
     split
     · exact Nat.le_refl _
     · split
       · rename_i e; exact jw e
       · exact trivial
     · generalize hr:Sem.runT p (invoke _ _) w #[]=x;obtain ⟨r,es⟩:=x;have hd:=jah hr;dsimp only;refine uah ?_;clear hr
       revert hd
       split <;> intro hd
       · exact hd
       · exact hd
       · exact trivial
       · exact (jaq _ _ _ _).mono hd
       · exact trivial
     · exact trivial
theorem zaj (p:Program) (main:Bool) (fr:Frame) (callers:List Frame) (dying:Option Dying) (v:Value) (w:World):gW w.drawn (doReturn p main fr callers dying v w):=by
 unfold doReturn
 split
 · split <;> exact Nat.le_refl _
 · split
   · exact Nat.le_refl _
   · exact trivial
   · split
     · exact Nat.le_refl _
     · split
       · exact Nat.le_refl _
       · exact trivial
theorem za6 (p:Program) (fr:Frame) (callers:List Frame) (dying:Option Dying) (d:Deferred) (w:World):gW w.drawn (callDeferred p fr callers dying d w):=by
 unfold callDeferred;refine xay trivial ?_
 · generalize hr:Sem.runT p (invoke _ _) w #[]=x;obtain ⟨r,es⟩:=x;have hd:=jah hr;dsimp only;refine uah ?_;clear hr
   revert hd
   split <;> intro hd
   all_goals first
     | exact trivial
     | exact hd
     | exact (jay _ _ _ _ _ _).mono hd
     | exact (wai _ _ _).mono hd
     | (split <;> exact hd)
theorem kbp (p:Program) (main:Bool) (fr:Frame) (callers:List Frame) (dying:Option Dying) (w:World):gW w.drawn (unwind p main fr callers dying w):=by
 unfold unwind
 split
 · generalize hr:Sem.runT p (Instr.takeDeferred _) w #[]=x;obtain ⟨r,es⟩:=x;have hd:=jah hr;dsimp only;refine uah ?_;clear hr
   revert hd
   split <;> intro hd
   · exact hd
   · exact trivial
 · exact za6 _ _ _ _ _ _
 · split
   · exact trivial
   · split
     · exact trivial
     · split
       · exact Nat.le_refl _
       · split
         · split
           · exact Nat.le_refl _
           · split
             · rename_i e; exact jw e
             · exact trivial
             · exact trivial
         · split
           · exact jaq _ _ _ _
           · exact trivial
   · split
     · exact zaj _ _ _ _ _ _ _
     · generalize hr:Sem.runT p (results _ _) w #[]=x;obtain ⟨r,es⟩:=x;have hd:=jah hr;dsimp only;refine uah ?_;clear hr
       revert hd
       split <;> intro hd
       · exact (zaj _ _ _ _ _ _ _).mono hd
       · exact trivial
       · exact trivial
theorem wb3 (p:Program) (fr:Frame) (callers:List Frame) (dying:Option Dying) (g:Nat) (w:World):gW w.drawn (early p fr callers dying g w):=by
 have notYet:∀ (w0 w:World),w0.drawn<=w.drawn->gW w0.drawn (match w.heap[g]? with
  | some (.pending c elem) =>
    GStep.go { frame:=fr,callers,status:=.running,dying } { w with heap:=w.heap.setIfInBounds g (.cells c elem) }
  | _ => .ended (.stuck "early: the variable does not wait" (fr.pos p)) w) := by
  intro w0 w h
  split
  · exact h
  · exact trivial
 unfold early;dsimp only
 split
 · exact notYet w w (Nat.le_refl _)
 · split
   · exact trivial
   · split
     · exact notYet w w (Nat.le_refl _)
     · split
       · exact notYet w w (Nat.le_refl _)
       · split
         · exact trivial
         · exact Nat.le_refl _
         · exact trivial
         · exact notYet w w (Nat.le_refl _)
         · split
           · exact Nat.le_refl _
           · split
             · exact notYet w w (Nat.le_refl _)
             · split
               · rename_i e; exact notYet w _ (jw e)
               · rename_i e; exact jw e
               · exact trivial
theorem gaj (p:Program) (listen:Bool) (fr:Frame) (callers:List Frame) (dying:Option Dying) (s:Sem Next) (w:World):gW w.drawn (stepG.apply p listen fr callers dying s w):=by
 unfold stepG.apply;dsimp only;generalize hr:(if listen=true then s.runT p w #[] else (s.run p w,#[]))=x;have hd:w.drawn<=(vbs x.1).drawn:=by
  rw [<- hr]
  split
  · exact uaq p s w #[]
  · exact gau p s w
 obtain ⟨r,es⟩:=x;dsimp only at hd ⊢;refine uah ?_;clear hr
 revert hd
 split <;> intro hd
 all_goals first
   | exact trivial
   | exact hd
   | exact (jay _ _ _ _ _ _).mono hd
   | exact (wai _ _ _).mono hd
   | exact (wb3 _ _ _ _ _ _).mono hd
   | (refine xay ((wai _ _ _).mono hd) hd)
   | (split <;> exact hd)
theorem vcb (p:Program) (listen:Bool) (fr:Frame) (callers:List Frame) (dying:Option Dying) (w:World):gW w.drawn (stepG.oper p listen fr callers dying w):=by
 unfold stepG.oper
 split
 · exact trivial
 · split
   · exact gaj _ _ _ _ _ _ _
   · exact gaj _ _ _ _ _ _ _
theorem ycd (p:Program) (main listen:Bool) (fr:Frame) (callers:List Frame) (dying:Option Dying) (w:World):gW w.drawn (stepG.exec p main listen fr callers dying w):=by
 have leave:∀ jump:Option Code,gW w.drawn (match fr.roundOf with
  | none => if jump matches none | some .ret then .go { frame := { fr with mode := .returning }, callers, status := .running, dying } w else .ended (.stuck "exit, goto: no such block or label" (fr.pos p)) w
  | some l =>
    let (r,es):=(Instr.endRound l jump).runT p w #[]
    GStep.after (seen p fr.fn es) <| match r with
    | .ok v w=>doReturn p main fr callers dying v w
    | .halt _ w => .ended (.stuck "range over a function: no such loop" (fr.pos p)) w) := by
  intro jump
  split
  · exact xay (Nat.le_refl _) trivial
  · generalize hr:Sem.runT p (Instr.endRound _ jump) w #[]=x;obtain ⟨r,es⟩:=x;have hd:=jah hr;dsimp only;refine uah ?_;clear hr
    revert hd
    split <;> intro hd
    · exact (zaj _ _ _ _ _ _ _).mono hd
    · exact trivial
 unfold stepG.exec;dsimp only
 split
 all_goals first
   | exact Nat.le_refl _
   | exact trivial
   | exact leave none
   | exact leave (some .ret)
   | exact gaj _ _ _ _ _ _ _
   | (refine ub7 ?_ (fun _=>Nat.le_refl _)
      split
      · exact xay (Nat.le_refl _) trivial
      · refine uah ?_;generalize hr:Sem.runT p (Instr.endRound _ _) w #[]=x;have hd:=jah (r:=x.1) (es':=x.2) hr;clear hr;obtain ⟨r,es⟩:=x;dsimp only at hd ⊢
        revert hd
        split <;> intro hd
        · exact (zaj _ _ _ _ _ _ _).mono hd
        · exact trivial)
   | exact ub7 trivial (fun _=>gaj _ _ _ _ _ _ _)
   | exact xay (vcb _ _ _ _ _ _) (Nat.le_refl _)
   | (split <;> first | exact Nat.le_refl _ | exact trivial)
   | (refine xay (Nat.le_refl _) ?_
      split
      · rename_i e; exact jw e
      · exact trivial)
   | skip
 all_goals refine uah ?_
 · generalize hr:Sem.runT p (Instr.enterLoop _ _ _ _ _ _) w #[]=x;have hd:=jah (r:=x.1) (es':=x.2) hr;clear hr;obtain ⟨r,es⟩:=x;dsimp only at hd ⊢
   revert hd
   split <;> intro hd
   · exact (gaj _ _ _ _ _ _ _).mono hd
   · exact trivial
 · generalize hr:Sem.runT p (Instr.endLoop _) w #[]=x;have hd:=jah (r:=x.1) (es':=x.2) hr;clear hr;obtain ⟨r,es⟩:=x;dsimp only at hd ⊢
   revert hd
   split <;> intro hd
   · exact hd
   · exact hd
   · exact trivial
theorem zb0 (p:Program) (main:Bool) (g:Goroutine) (w:World) (listen:Bool):gW w.drawn (stepG p main g w listen):=by
 unfold stepG;dsimp only
 split
 · exact wcl _ _ _ _
 · exact ycd _ _ _ _ _ _ _
 · exact kbp _ _ _ _ _ _
def sW (n : Nat) : Stepped -> Prop
 | .next m=>n<=m.world.drawn
 | .ended ..=>True
theorem sW.mono {n m:Nat} {s:Stepped} (h:sW n s) (hm:m<=n):sW m s:=by
 cases s <;> first | exact trivial | exact Nat.le_trans hm h
theorem jbe {rest:Rest} {cases:Array CommCase} {w w':World} (h:waitingAt rest cases w=some w'):w'.drawn=w.drawn:=by
 unfold waitingAt at h
 split at h
 · split at h
   · injection h with h; rw [<- h]
   · cases h
 · injection h with h; rw [h]
theorem vcd (p:Program) (rest:Rest) (gs:Array Goroutine) (i:Nat) (g:Goroutine) (cases:Array CommCase) (blocking:Bool) (shape:CommShape) (w:World):sW w.drawn (communicate p rest gs i g cases blocking shape w).1:=by
 unfold communicate;dsimp only
 split
 · exact trivial
 · split
   · split
     · split
       · rename_i e; exact Nat.le_of_eq (jbe e).symm
       · exact trivial
     · exact Nat.le_refl _
   · split
     · exact trivial
     · rename_i e;have hd:=jw e;clear e
       split
       · split
         · rename_i e;have h2:=qcc e;exact Nat.le_trans hd h2
         · exact trivial
       · exact hd
       · exact hd
       · split
         · exact hd
         · split
           · rename_i e;have h2:=jw e;exact Nat.le_trans hd h2
           · exact trivial
       · exact hd
       · exact hd
       · exact trivial
theorem zb4 (w:World) (c:Nat):(drain w c).2.drawn=w.drawn:=by
 unfold drain
 split <;> rfl
theorem ja4 (m:Machine) (k:Nat) (t:Timer) (a b:Nat):(retime m k t a b).2.world.drawn=m.world.drawn:=by
 have h:(match t.chan with | some c=>drain m.world c | none=>(false,m.world)).2.drawn=m.world.drawn:=by
  split
  · exact zb4 _ _
  · rfl
 exact h
theorem xbo {m m':Machine} {op:TimerOp} {v:Value} (h:timerOp m op=.ok (v,m')):m'.world.drawn=m.world.drawn:=by
 have hn:∀ (m m2:Machine) (var:Addr) (f:Nat->Timer->Value × Machine),(∀ k t,(f k t).2.world.drawn=m2.world.drawn)->timerOp.named m var f=.ok (v,m')->m'.world.drawn=m2.world.drawn:=by
  intro m m2 var f hf h;unfold timerOp.named at h
  split at h
  · injection h with h
    have hs:_=m':=congrArg Prod.snd h;rw [<- hs];exact hf _ _
  · cases h
 unfold timerOp at h
 split at h
 · split at h
   · injection h with h; injection h with _ h; rw [<- h]; rfl
   · split at h
     · split at h
       · cases h
       · injection h with h; injection h with _ h; rw [<- h]
     · cases h
 · exact hn _ m _ _ (fun k t=>ja4 _ _ _ _ _) h
 · split at h
   · rename_i m2 e;have:=hn _ m2 _ _ (fun k t=>ja4 _ _ _ _ _) h;rw [this];unfold timerOp.opened at e
     split at e
     · split at e
       · injection e with e; rw [<- e]
       · cases e
     · injection e with e; rw [e]
   · cases h
 · injection h with h; injection h with _ h; rw [<- h]; rfl
theorem ub0 (p:Program) (m:Machine) (k:Nat):sW m.world.drawn (serve p m k):=by
 unfold serve
 split
 · exact trivial
 · exact Nat.le_refl _
 · dsimp only
   split
   · exact trivial
   · exact Nat.le_refl _
theorem ybg (p:Program) (gs:Array Goroutine) (rest:Rest) (w:World):sW w.drawn (look p gs rest w):=by
 unfold look
 split
 · dsimp only
   split
   · exact trivial
   · split
     · exact trivial
     · split
       · rename_i e;have hd:=jw e;exact hd
       · exact trivial
       · exact trivial
 · exact trivial
theorem gbj (p:Program) (m:Machine) (i:Nat) (listen:Bool):sW m.world.drawn (Go.runT p m i listen).1:=by
 unfold Go.runT;dsimp only;have hg:=zb0 p (i == 0) (m.gs.swapAt! i { (default:Goroutine) with status:=.finished }).1 m.world listen;generalize stepG p (i == 0) (m.gs.swapAt! i { (default:Goroutine) with status:=.finished }).1 m.world listen=s at hg ⊢;cases s with
 | ended o w es=>exact trivial
 | comm g cases blocking shape w es=>exact (vcd _ _ _ _ _ _ _ _ _).mono hg
 | go g w es=>exact hg
 | spawn g child w es=>exact hg
 | count g w es =>
   dsimp only
   split
   · exact trivial
   · exact hg
 | alone g on w es=>exact hg
 | collect g w es=>exact (ybg _ _ _ _).mono hg
 | watch g w es=>exact hg
 | newcoro g c d w es=>exact hg
 | coroswitch g c exit w es =>
   dsimp only
   split
   · exact hg
   · exact hg
   · exact trivial
 | timer g op w es =>
   dsimp only
   split
   · rename_i v m' e;have:=xbo e;exact Nat.le_trans hg (Nat.le_of_eq this.symm)
   · exact hg
   · exact trivial
   · exact trivial
def mW (n : Nat) : Move -> Prop
 | .goroutine m _=>n<=m.world.drawn
 | .machine s _=>sW n s
theorem mW.mono {n m:Nat} {s:Move} (h:mW n s) (hm:m<=n):mW m s:=by
 cases s with
 | goroutine m i=>exact Nat.le_trans hm h
 | machine s ops=>exact sW.mono h hm
theorem xax (p:Program) (m:Machine):mW m.world.drawn (askOn p m):=by
 have pick:∀ (n:Nat) (rs:List Nat) (m:Machine),n<=m.world.drawn->mW n (match (choose (.sched rs.length)).run p m.world with
  | .halt _ w => Move.machine (.ended (.stuck "sched" "") w)
  | .ok k world =>
    if rs.length<=1 then .goroutine { m with world } (rs.getD k 0) else
    match (choose (.extern "sched.slice" 65536)).run p world with
    | .halt _ w => .machine (.ended (.stuck "sched.slice" "") w)
    | .ok n world=>.goroutine { m with world,rest:={ m.rest with slice:=if n=0 then none else some (rs.getD k 0,n) } } (rs.getD k 0)):=by
  intro n rs m hm
  split
  · exact trivial
  · rename_i e;have h1:=jw e
    split
    · exact Nat.le_trans hm h1
    · split
      · exact trivial
      · rename_i e;have h2:=jw e;exact Nat.le_trans hm (Nat.le_trans h1 h2)
 unfold askOn;dsimp only
 split
 · exact trivial
 · rename_i e;have h1:=jw e;clear e
   split
   · exact sW.mono (ub0 p _ _) h1
   · split
     · split
       · exact h1
       · split
         · exact h1
         · split <;> exact trivial
     · split
       · refine pick _ _ { m with world:=_ } ?_;exact h1
       · split
         · exact trivial
         · rename_i e;have h2:=jw e;refine pick _ _ { m with world:=_ } ?_;exact Nat.le_trans h1 h2
         · rename_i e;have h2:=jw e;exact Nat.le_trans h1 h2
         · rename_i e;have h2:=jw e;refine pick _ _ (Machine.advanceTo { m with world:=_ } _) ?_;exact Nat.le_trans h1 h2
theorem ubh (p:Program) (m:Machine):mW m.world.drawn (ask p m):=by
 unfold ask
 split
 · split
   · exact trivial
   · rename_i e;have h1:=jw e;have h2:=ybg p m.gs m.rest
     split
     · rename_i w1 _ m' e2;have h3:=h2 w1;rw [e2] at h3;exact (xax p m').mono (Nat.le_trans h1 h3)
     · rename_i w1 _ e2;exact (h2 w1).mono h1
   · rename_i e;have h1:=jw e;exact (xax p _).mono h1
 · exact xax p m
theorem wcb (p:Program) (m:Machine):mW m.world.drawn (move p m):=by
 unfold move
 split
 · split
   · exact Nat.le_refl _
   · exact trivial
 · split
   · split
     · exact Nat.le_refl _
     · exact ubh p _
   · exact ubh p m
theorem vb9 (p:Program) (m:Machine):sW m.world.drawn (step p m):=by
 unfold step stepT;have h:=wcb p m
 split
 · rename_i m' i e;rw [e] at h;exact (gbj p m' i _).mono h
 · rename_i s ops e;rw [e] at h;exact h
theorem wbz {p:Program} {m m':Machine} (h:Steps p m m'):m.world.drawn<=m'.world.drawn:=by
 obtain ⟨n,hn⟩:=h
 induction n generalizing m with
 | zero=>injection hn with hn; rw [hn]; exact Nat.le_refl _
 | succ n ih =>
   unfold runN at hn;have h1:=vb9 p m
   split at hn
   · rename_i m1 e;rw [e] at h1;exact Nat.le_trans h1 (ih hn)
   · rename_i e;exact absurd hn (by intro h; exact e _ h)
theorem wb4 {P:Program} {f:FuncId} {args:Array Value} {w:World} {R:Ending->World->Prop} (h:Calls P f args w R):Calls P f args w fun e w'=>R e w'/\(∀ v,e=.returned v->w.drawn<=w'.drawn):=fun cs=>by
 obtain ⟨e,w',fr,hr,hc,h1,h2⟩:=h cs;refine ⟨e,w',fr,⟨hr,fun v ev=>?_⟩,hc,h1,h2⟩;subst ev;exact wbz hc
theorem Ext.grow_ {w w':World} (hx:Ext w w') (hd:w.drawn<=w'.drawn):∃ q os',w'=Go.Sort.grow (w.drewN q) os':=by
 refine ⟨w'.drawn - w.drawn,w'.heap.extract w.heap.size w'.heap.size,?_⟩;have hs:=hx.size;have hh:w'.heap=w.heap ++ w'.heap.extract w.heap.size w'.heap.size:=by
  refine Array.ext (by simp; omega) fun i h1 h2=>?_
  by_cases hi:i < w.heap.size
  · rw [Array.getElem_append_left hi];have:=hx.below.block i hi;rw [Array.getElem?_eq_getElem h1,Array.getElem?_eq_getElem hi] at this;exact Option.some.inj this
  · rw [Array.getElem_append_right (by omega),Array.getElem_extract]
    congr 1
    omega
 have DK:w'.drawn=w.drawn+(w'.drawn - w.drawn):=by omega
 have e1:=hx.below.os;have e2:=hx.below.tape;have e3:=hx.below.output;obtain ⟨h',t',d',o',p'⟩:=w';obtain ⟨h0,t0,d0,o0,p0⟩:=w;simp only at *;subst e1 e2 e3;unfold Go.Sort.grow World.drewN;simp only [World.mk.injEq,true_and,and_true];exact ⟨hh,DK⟩
theorem kce {P:Program} {f:FuncId} {args:Array Value} {w:World} {v:Value} (h:Calls P f args w fun e w'=>e=.returned v/\Ext w w'):Calls P f args w fun e w'=>e=.returned v/\∃ q os',w'=Go.Sort.grow (w.drewN q) os':=
 (wb4 h).mono fun _ _ ⟨⟨he,hx⟩,hd⟩=>⟨he,hx.grow_ (hd v he)⟩
open Go.RowKit Go.Sort Go.Shelf
theorem vc2 (m n:Mo) (w:World):(Op.equalIn 10000 61 (.agg #[.int .i64 m.a,.int .i64 m.b,.int .i64 m.c,.int .i64 m.d]) (.agg #[.int .i64 n.a,.int .i64 n.b,.int .i64 n.c,.int .i64 n.d])).run Tryz.prog w=.ok (decide (m=n)) w:=qbl m n w
attribute [local go_sem] vc2
theorem kcm {W:World} {b b':Bool} {B B':Option Addr} {n c n' c':Nat} {m m':Mo} {z z':Int} (h:vk W (.agg #[.bool b,.slice B n c]) z) (h':vk W (.agg #[.bool b',.slice B' n' c']) z') :
 Calls Tryz.prog 76 #[.agg (tmC b (.slice B n c) m).toArray,.agg (tmC b' (.slice B' n' c') m').toArray] W fun e w'=>e=.returned (.int .i64 (gaa (z,m) (z',m')))/\Ext W w':=by
 have HM:=hid (fun W'=>qaw m m' W');have HC:=hid (fun (W':World) (hx:Ext W W')=>gb7 _ _ z z' _ _ W' (h.ext hx).raw (h'.ext hx).raw);have HG:Hid (∀ (W':World) q os,Ext W' (Go.Sort.grow (W'.drewN q) os)):=hid (fun W' q os=>by
  refine ⟨rfl,rfl,rfl,by simp [Go.Sort.grow],fun k hk=>?_⟩;simp only [Go.Sort.grow]
  exact Array.getElem?_append_left (xs:=W'.heap) hk)
 have HX:Hid (∀ o o',Ext W ((W.alloc o).alloc o')):=hid (fun o o'=>((Ext.refl W).alloc _).alloc _);unfold tmC moV at *;clear h h'
 by_cases hm:m=m'
 · have hv:gaa (z,m) (z',m')=xh z z':=by unfold gaa; exact if_pos hm
   rw [hv];subst hm;clear hv;go_enter Tryz.func76,Tryz.ntmps76;go_wp2_with fail;refine (HC.out _ (HX.out _ _)).mono ?_;rintro e w1 ⟨rfl,x1⟩;have HF:=hid ((HX.out _ _).trans x1);clear x1;go_wp2_with fail;go_ret;exact ⟨rfl,HF.out⟩
 · have hv:gaa (z,m) (z',m')=jae m m':=by unfold gaa; exact if_neg hm
   rw [hv];have au:decide (m=m')=false:=by simpa using hm
   clear hv;go_enter Tryz.func76,Tryz.ntmps76;go_wp2_with fail;refine (HM.out _).mono ?_;rintro e w1 ⟨rfl,q,os,rfl⟩;go_wp2_with fail;go_ret;exact ⟨rfl,(HX.out _ _).trans (HG.out _ q os)⟩
theorem gb4 {w:World} {l m:Sp} {A B:Option Addr} {c c':Nat} (hl:vao w none A l) (hm:vao w none B m) (hn:l.length<=9223372036854775807) (Ub:m.length<=9223372036854775807) :
 Calls Tryz.prog 75 #[.slice A l.length c,.slice B m.length c',.func (.func 76) #[] #[]] w (xa6 (qi l m) w):=by
 have HL:=hid hl;have HM:=hid hm;clear hl hm;go_enter Tryz.func75,Tryz.ntmps75;go_wp2_with fail
 go_loopw [13] (fun iv wr=>∃ k:Nat,k<=l.length/\k<=m.length/\iv=.int .i64 k/\Hid (qi (l.drop k) (m.drop k)=qi l m/\Ext w wr)) (fun iv _=>l.length - (intOf iv).toNat)
 case atStart=>exact ⟨0,Nat.zero_le _,Nat.zero_le _,rfl,hid ⟨rfl,Ext.refl w⟩⟩
 case round =>
  obtain ⟨k,hk,lN,rfl,HR⟩:=hrel;have HX:=hid HR.out.2;have HE:=hid HR.out.1;clear HR
  by_cases af:k < l.length
  · obtain ⟨ad,b,C,n,cc,rfl,hb,jA,dE⟩:=HL.out.ext HX.out k af
    by_cases wX:k < m.length
    · obtain ⟨ad',b',C',n',cc',rfl,dX,NP,Ql⟩:=HM.out.ext HX.out k wX;have hdr:=zce k af wX;have hbd:=xcw l[k] m[k];have BM:=hid (fun (W':World) (hx:Ext wr W')=>kcm (m:=l[k].2) (m':=m[k].2) (dE.ext hx) (Ql.ext hx));have U4:=hid (fun (W':World) (hx:Ext wr W')=>NP.ext hx (by rw [ja]; exact dX));obtain ⟨v,hv⟩:=n_m (gaa l[k] m[k]);have e1:gaa (l[k].1,l[k].2) (m[k].1,m[k].2)=v:=hv;rw [e1] at BM;rw [hv] at hdr hbd;have S9:=hid hdr;obtain ⟨a0,a1,a2,a3,a4,a5⟩:=jA;unfold tmC at BM;clear hdr dE Ql NP hv e1;generalize l[k].2=mk at *;generalize m[k].2=mk' at *;have OT:¬ m.length<=k:=by omega
      obtain ⟨V1,jI⟩:=n_m (wr.alloc (.cells #[.bool b,.slice C n cc,.int .i64 mk.a,.int .i64 mk.b,.int .i64 mk.c,.int .i64 mk.d] 76));have x1:Ext wr V1:=by rw [<- jI]; exact (Ext.refl wr).alloc _
      obtain ⟨V2,uV⟩:=n_m (V1.alloc (.cells #[.bool b',.slice C' n' cc',.int .i64 mk'.a,.int .i64 mk'.b,.int .i64 mk'.c,.int .i64 mk'.d] 76));have x2:Ext wr V2:=by rw [<- uV]; exact x1.alloc _
      obtain ⟨g1,iH⟩:=n_m (wr.heap.size);obtain ⟨g2,dL⟩:=n_m (V1.heap.size);obtain ⟨p0,p1,p2,p3,p4,p5⟩:vak V2 ⟨g1,0,none⟩ b (.slice C n cc) mk:=by
       have h1:vak V1 ⟨g1,0,none⟩ b (.slice C n cc) mk:=by
        rw [<- jI,<- iH];refine ⟨?_,?_,?_,?_,?_,?_⟩ <;> simp [go_sem]
       have h2:Ext V1 V2:=by rw [<- uV]; exact (Ext.refl V1).alloc _
       exact h1.ext h2 (by show g1 < _; rw [<- jI,<- iH]; simp)
      obtain ⟨q0,q1,q2,q3,q4,q5⟩:vak V2 ⟨g2,0,none⟩ b' (.slice C' n' cc') mk':=by
       rw [<- uV,<- dL];refine ⟨?_,?_,?_,?_,?_,?_⟩ <;> simp [go_sem]
      obtain ⟨d0,d1,d2,d3,d4,d5⟩:=U4.out _ x1;have aJ:=BM.out _ x2;have CB:=hid x2;have aY:=hid aJ;clear x1 x2 aJ U4 BM;go_wp2_with fail;refine aY.out.mono ?_;clear jI uV iH dL p0 p1 p2 p3 p4 p5 q0 q1 q2 q3 q4 q5 d0 d1 d2 d3 d4 d5 a0 a1 a2 a3 a4 a5;rintro e w3 ⟨rfl,x3⟩;have Gi:=hid (HX.out.trans (CB.out.trans x3));clear x3
      by_cases zG:v=0
      · have HN:Hid (qi (l.drop (k+1)) (m.drop (k+1))=qi l m):=hid (by
         have h1:=S9.out;rw [if_pos zG] at h1
         exact h1.symm.trans HE.out)
        subst zG;go_wp2_with fail
        go_roundw
        case rel=>exact ⟨k+1,by omega,by omega,by go_num,hid ⟨HN.out,Gi.out⟩⟩
        case measure=>simp [intOf]; omega
      · have HN:Hid (qi l m=v):=hid (by
         have h1:=S9.out;rw [if_neg zG] at h1
         exact HE.out.symm.trans h1)
        have hvb:(v != 0)=true:=by simpa using zG
        clear S9 zG;go_wp2_with fail;go_ret;exact ⟨by rw [HN.out]; rfl,Gi.out⟩
    · obtain ⟨a0,a1,a2,a3,a4,a5⟩:=jA;have HN:Hid (qi l m=1):=hid (by
       have e:m.drop k=[]:=List.drop_eq_nil_of_le (by omega);rw [<- HE.out,List.drop_eq_getElem_cons af,e]
       simp [qi])
      have OT:m.length<=k:=by omega
      have HA:Hid (∀ o,Ext wr (wr.alloc o)):=hid (fun o=>(Ext.refl wr).alloc o);clear dE;generalize l[k].2=mk at *;go_wp2_with fail;go_ret;exact ⟨by rw [HN.out]; rfl,HX.out.trans (HA.out _)⟩
  · obtain rfl:k=l.length:=by omega
    by_cases Ue:l.length < m.length
    · have HN:Hid (qi l m=-1):=hid (by
       have e:l.drop l.length=[]:=List.drop_eq_nil_of_le (Nat.le_refl _);rw [<- HE.out,e,List.drop_eq_getElem_cons Ue]
       simp [qi])
      go_wp2_with fail;go_ret;exact ⟨by rw [HN.out]; rfl,HX.out⟩
    · have HN:Hid (qi l m=0):=hid (by
       have e:l.drop l.length=[]:=List.drop_eq_nil_of_le (Nat.le_refl _);have e2:m.drop l.length=[]:=List.drop_eq_nil_of_le (by omega);rw [<- HE.out,e,e2]
       simp [qi])
      go_wp2_with fail;go_ret;exact ⟨by rw [HN.out]; rfl,HX.out⟩
theorem kbn {w:World} {l m:Sp} (v u:Value) (L:Nat) (hl:SpV w none v l) (hm:SpV w none u m) (dl:∀ x ∈ l,(dg x.1.natAbs).length<=L) (dm:∀ x ∈ m,(dg x.1.natAbs).length<=L) (hL:L<=1099511627776) (nl:(dg (yg l)).length<=1099511627776) (nm:(dg (yg m)).length<=1099511627776) (ll:l.length<=1099511627776) (lm:m.length<=1099511627776) :
 Calls Tryz.prog 47 #[v,u] w (xa6 (qi (jf l) (jf m)) w):=by
 have MH:=hid (xab (ko:=none) L hl (fun z ⟨x,hx,e⟩=>by rw [<- e]; exact dl x hx) (by omega) ll);have GG:=hid (fun (W':World) (hx:Ext w W')=>xab (ko:=none) L (hm.ext hx) (fun z ⟨x,hx,e⟩=>by rw [<- e]; exact dm x hx) (by omega) lm);obtain ⟨A0,c0,rfl,-⟩:=hl;obtain ⟨A1,c1,rfl,-⟩:=hm;clear dl dm nl nm ll lm hL;generalize jf l=l' at *;generalize jf m=m' at *;generalize l.length=n0 at *;generalize m.length=n1 at *;go_enter Tryz.func47,Tryz.ntmps47;go_wp2_with fail;refine MH.out.mono ?_;rintro e w1 ⟨v1,rfl,h1,x1⟩;have H1:=hid h1;have GZ:=hid (GG.out _ x1);have X1:=hid x1;obtain ⟨A2,c2,rfl,-⟩:=h1;clear x1;go_wp2_with fail;refine GZ.out.mono ?_;rintro e w2 ⟨v2,rfl,h2,x2⟩;have h1:=H1.out.ext x2;obtain ⟨A3,c3,rfl,k1,k2,iR⟩:=h2;obtain ⟨A2',c2',e9,k3,k4,qN⟩:=h1;injection e9 with e1 e2 e3
 subst e1 e3;have lI:=hid (gb4 (c:=c2) (c':=c3) qN iR (by omega) (by omega));have X2:=hid (X1.out.trans x2);clear e2 x2 qN iR GZ;go_wp2_with fail;refine lI.out.mono ?_;rintro e w3 ⟨rfl,x3⟩;have X3:=hid (X2.out.trans x3);clear x3;go_wp2_with fail;go_ret;exact ⟨rfl,X3.out⟩
theorem zci {w:World} {l m:Sp} (v u:Value) (L:Nat) (hl:SpV w none v l) (hm:SpV w none u m) (dl:∀ x ∈ l,(dg x.1.natAbs).length<=L) (dm:∀ x ∈ m,(dg x.1.natAbs).length<=L) (hL:L<=1099511627776) (nl:(dg (yg l)).length<=1099511627776) (nm:(dg (yg m)).length<=1099511627776) (ll:l.length<=1099511627776) (lm:m.length<=1099511627776) :
 Calls Tryz.prog 48 #[v,u] w (wam (decide (jf l=jf m)) w):=by
 have HC:=hid (kbn v u L hl hm dl dm hL nl nm ll lm);have hz:(qi (jf l) (jf m) == 0)=decide (jf l=jf m):=by
  have:=ka2 (jf l) (jf m)
  by_cases h:jf l=jf m
  · rw [decide_eq_true h,this.2 h]; rfl
  · rw [decide_eq_false h,beq_eq_false_iff_ne]; exact fun e=>h (this.1 e)
 rw [<- hz];clear hz dl dm nl nm ll lm hL hl hm;generalize qi (jf l) (jf m)=r at *;go_enter Tryz.func48,Tryz.ntmps48;go_wp2_with fail;refine HC.out.mono ?_;rintro e w1 ⟨rfl,x1⟩;have X1:=hid x1;clear x1;go_wp2_with fail;go_ret;exact ⟨rfl,X1.out⟩
end Go.Proofs.YtcepajijiabkmaaGreat

namespace Go.Proofs.YtcepajijiabkmaaGreat
open Lib (hid)
open Go.RowKit Go.Sort Go.Shelf
def jax (P:Value->Prop) (W:World) (v:Value):Prop:=∀ R cur T fr,v.ownBlock=some R->W.heap[R]?=some (.cells cur T fr)->∀ u ∈ cur.toList,P u
theorem jax.ext {P:Value->Prop} {W W':World} {v:Value} (h:jax P W v) (hx:∀ R,v.ownBlock=some R->W'.heap[R]?=W.heap[R]?):jax P W' v:=fun R cur T fr e hb=>h R cur T fr e ((hx R e).symm.trans hb)
theorem xcf {P:Value->Prop} {S T:TypeId} {k bytes:Nat} {Z:Value} (R:xap S T k bytes Z) (hZ:∀ u ∈ Z.cells.toList,P u) (n:Nat):∀ u ∈ (Builtin.zeroCells Z.cells n).toList,P u:=by
 intro u hu;unfold Builtin.zeroCells at hu;simp only [Array.toList_map,List.mem_map] at hu;obtain ⟨i,-,rfl⟩:=hu;have hp:=R.pos;have af:i % Z.cells.size < Z.cells.size:=Nat.mod_lt _ (by rw [R.cells]; exact hp);rw [getElem!_pos Z.cells (i % Z.cells.size) af];exact hZ _ (by simp)
theorem all_append {P : Value -> Prop} {S T : TypeId} {k bytes : Nat} {Z : Value} (R : xap S T k bytes Z) (hZ : ∀ u ∈ Z.cells.toList, P u) {base : Nat} {W : World} {ov : Value} {n : Nat} {xs : List Value} (h : jm T k base W ov n xs) (hP : jax P W ov) (dU : base <= W.heap.size) (a : Addr) (m c : Nat) (news : List Value)
 (lM:news.length=m * k) (EY:∀ j u,news[j]?=some u->W.cell? (a.add j)=some u) (h1:∀ u ∈ news,u.oneCell'=true/\qo u=false/\P u) (hm:0 < m) (hlen:(n+m) * bytes<=140737488355328) (hlen2:n+m<=140737488355328) (ty:TypeId) {v4:Value} {w4:World}
 (ax:(Builtin.append_ #[S,S] ty #[ov,.slice (some a) m c]).run Tryz.prog W=.ok v4 w4):jax P w4 v4:=by
 obtain ⟨o1,bF⟩:=h;obtain ⟨i0,hi,lh,gK,iU⟩:=info_parts R.info;have hk:=R.pos;have fin:∀ (xs:List Value) (q:Nat) (w5:World) (l cap:Nat),(∀ u ∈ xs,P u)->w5.heap.size=W.heap.size->jax P (w5.alloc (.cells (xs.toArray ++ news.toArray ++ Builtin.zeroCells Z.cells q) T)) (.slice (some ⟨W.heap.size,0,none⟩) l cap):=by
  intro xs q w5 l cap zF h5 R' cur T' fr hR hb u hu;have Jp:W.heap.size=R':=by simpa [Value.ownBlock] using hR
  rw [<- Jp,<- h5,heap_alloc_new] at hb;injection hb with hb
  injection hb with hb
  rw [<- hb] at hu;simp only [Array.toList_append,List.mem_append] at hu;rcases hu with (hu | hu) | hu
  · exact zF u hu
  · exact (h1 u hu).2.2
  · exact xcf R hZ q u hu
 have hold:∀ g cur,ov.ownBlock=some g->W.heap[g]?=some (.cells cur T (0,0))->∀ u ∈ cur.toList,P u:=fun g cur e hb=>hP g cur _ _ e hb
 have pV:m<=m * bytes\/bytes=0:=by
  rcases Nat.eq_zero_or_pos bytes with h | h
  · exact .inr h
  · exact .inl (Nat.le_mul_of_pos_right _ h)
 rcases o1.2 with ⟨rfl,gV⟩ | ⟨g,cap,cur,rfl,FI,hg,OI,fC,eH,zI⟩
 · subst gV;have hr:=run_append_nil (P:=Tryz.prog) W S ty T i0 _ R.und hi lh a m c news (by rw [gK]; exact lM) EY hm (by omega) (by rw [iU]; rw [Nat.zero_add] at hlen; omega);rw [ax] at hr;injection hr with e1 e2
   subst e1 e2;have:=fin [] (grownCap W m 0 T - m) W.drew m (grownCap W m 0 T) (by simp) rfl;simpa using this
 · by_cases pM:n+m<=cap
   · have aI:n * k+news.length<=cur.size:=by
      rw [eH,lM,<- Nat.add_mul];exact Nat.mul_le_mul_right _ pM
     have hr:=run_append_room (P:=Tryz.prog) W S ty T i0 R.und hi g n cap cur hg a m c news (by rw [gK]; exact lM) EY (fun u hu=>(h1 u hu).1) pM (by rw [gK]; exact aI);rw [ax] at hr;injection hr with e1 e2
     subst e1 e2;intro R' cur' T' fr hR hb u hu;have Jp:g=R':=by simpa [Value.ownBlock] using hR
     rw [<- Jp,setRow_heap W g cur _ _ _ hg] at hb;injection hb with hb
     injection hb with hb
     rw [<- hb] at hu;simp only [List.mem_append] at hu;rcases hu with (hu | hu) | hu
     · exact hold g cur rfl hg u (List.mem_of_mem_take hu)
     · exact (h1 u hu).2.2
     · exact hold g cur rfl hg u (List.mem_of_mem_drop hu)
   · have hr:=run_append_grow (P:=Tryz.prog) W S ty T i0 _ R.und hi lh ⟨g,0,none⟩ n cap xs (by rw [gK]; exact o1.1) (o1.cells (g:=g) rfl) a m c news (by rw [gK]; exact lM) EY (by omega) (by omega) (growslice_fits (by omega) (by rw [iU]; exact hlen));rw [ax] at hr;injection hr with e1 e2
     subst e1 e2;exact fin xs _ W.drew _ _ (fun u hu=>hold g cur rfl hg u (List.mem_of_mem_take (by rw [zI]; exact hu))) rfl
theorem wcw {P : Value -> Prop} {S T : TypeId} {k bytes : Nat} {Z : Value} (R : xap S T k bytes Z) (hZ : ∀ u ∈ Z.cells.toList, P u) {base : Nat} {W : World} {ov : Value} {n : Nat} {xs : List Value} (h : jm T k base W ov n xs) (hP : jax P W ov) (dU : base <= W.heap.size) (news : List Value)
 (lM:news.length=k) (h1:∀ u ∈ news,u.oneCell'=true/\qo u=false/\P u) (hlen:(n+1) * bytes<=140737488355328) (hlen2:n+1<=140737488355328) (ty:TypeId) {v4:Value} {w4:World}
 (ax:(Builtin.append_ #[S,S] ty #[ov,.slice (some ⟨W.heap.size,0,none⟩) 1 1]).run Tryz.prog (W.alloc (.cells news.toArray T))=.ok v4 w4):jax P w4 v4:=by
 have hx:Ext W (W.alloc (.cells news.toArray T)):=(Ext.refl W).alloc _;exact all_append R hZ (h.ext hx) (hP.ext fun R hR=>hx.below.block R (h.own hR).2) (by have:=hx.size; omega) ⟨W.heap.size,0,none⟩ 1 1 news (by omega) (fun j u hu=>by
  rw [uq,Nat.zero_add,cell_of_row _ _ j _ _ (0,0) (heap_alloc_new W _)]; simpa using hu) h1 (by omega) hlen hlen2 ty ax
def jbz (u:Value):Prop:=∃ A n c,u=.slice A n c
theorem vb5 : xap 48 23 1 24 (.slice none 0 0) where
 und:=Tryz.underlying48
 info:=by kernel_rfl
 cells:=rfl
 pos:=by omega
 nodig:=by intro u hu; simp [Value.cells] at hu; subst hu; rfl
structure yai (base : Nat) (w : World) (v : Value) (l : List Sp) : Prop where
 row:∃ xs:List Value,xs.length=l.length/\jm 23 1 base w v l.length xs/\∀ i (hi:i < xs.length) (hl:i < l.length),SpV w none xs[i] l[i]
 all:jax jbz w v
theorem SpV.turn {W W':World} {v s:Value} {l:Sp} (h:SpV W none s l) (ha:jax jbz W v) (ho:∀ R,v.ownBlock=some R->∃ cur T fr,W.heap[R]?=some (.cells cur T fr)) (hg:W.grownBy W' v.ownBlock) (hn:∀ v ds,jb W v ds->jb W' v ds):SpV W' none s l:=by
 obtain ⟨A,c,rfl,h1,h2,aK⟩:=h;refine ⟨A,c,rfl,h1,h2,fun i hi=>?_⟩;obtain ⟨ad,b,B,n,cc,rfl,hb,ht,hc⟩:=aK i hi;have au:v.ownBlock ≠ some ad.block:=fun e=>by
  obtain ⟨cur,T,fr,hh⟩:=ho _ e;have h0:=ht.1;rw [World.cell?,ja,hh] at h0;have bP:∃ k:Nat,cur[k]?=some (.bool b):=by
   revert h0
   simp only
   split <;> intro h0
   · cases h0
   · exact ⟨_,h0⟩
  obtain ⟨k,hk⟩:=bP;obtain ⟨A',n',c',e'⟩:=ha _ _ _ _ e hh (.bool b) (by
   obtain ⟨xA,hk2⟩:=Array.getElem?_eq_some_iff.1 hk
   rw [<- hk2]; simp)
  cases e'
 have iD:∀ (a:Addr) (u:Value),a.block=ad.block->W.cell? a=some u->W'.cell? a=some u:=fun a u e hu=>(World.cell?_of_block (by rw [e]; exact World.grownBy.block hg _ hb (fun e2=>au e2.symm))).trans hu
 obtain ⟨t0,t1,t2,t3,t4,t5⟩:=ht;exact ⟨ad,b,B,n,cc,rfl,Nat.lt_of_lt_of_le hb hg.size,⟨iD _ _ (ja _ _) t0,iD _ _ (ja _ _) t1,iD _ _ (ja _ _) t2,iD _ _ (ja _ _) t3,iD _ _ (ja _ _) t4,iD _ _ (ja _ _) t5⟩,hc.turn hn⟩
theorem yai.ext {base:Nat} {w w':World} {v:Value} {l:List Sp} (h:yai base w v l) (hx:Ext w w'):yai base w' v l:=by
 obtain ⟨⟨xs,e,g,hs⟩,ha⟩:=h;exact ⟨⟨xs,e,g.ext hx,fun i hi hl=>(hs i hi hl).ext hx⟩,ha.ext fun R hR=>hx.below.block R (g.own hR).2⟩
theorem yai.nil (base:Nat) (w:World):yai base w (.slice none 0 0) []:=⟨⟨[],rfl,jm.nil _ _ _ _,fun i hi=>absurd hi (by simp)⟩,fun R _ _ _ e=>by cases e⟩
theorem yai.len {base:Nat} {w:World} {v:Value} {l:List Sp} (h:yai base w v l):∃ A c,v=.slice A l.length c/\l.length<=c/\c<=9223372036854775807:=by
 obtain ⟨⟨xs,e,g,-⟩,-⟩:=h;exact g.len
theorem yai.push {base:Nat} {W:World} {v u:Value} {l:List Sp} {s:Sp} (h:yai base W v l) (hs:SpV W none u s) (dU:base<=W.heap.size) (hlen:l.length < 1099511627776) (ty:TypeId) :
 ∃ v4 w4,(Builtin.append_ #[48,48] ty #[v,.slice (some ⟨W.heap.size,0,none⟩) 1 1]).run Tryz.prog (W.alloc (.cells #[u] 23))=.ok v4 w4/\yai base w4 v4 (l ++ [s])/\W.grownBy w4 v.ownBlock:=by
 obtain ⟨⟨xs,e,g,zF⟩,ha⟩:=h;have hu:jbz u:=by obtain ⟨A,c,rfl,-⟩:=hs; exact ⟨_,_,_,rfl⟩
 have h1:∀ x ∈ [u],x.oneCell'=true/\qo x=false/\jbz x:=fun x hx=>by
  rw [List.mem_singleton] at hx;subst hx;obtain ⟨A,n,c,rfl⟩:=hu;exact ⟨rfl,rfl,_,_,_,rfl⟩
 obtain ⟨v4,w4,hr,g4,hg,hn,-⟩:=g.push vb5 dU [u] rfl (fun x hx=>⟨(h1 x hx).1,(h1 x hx).2.1⟩) (by omega) (by omega) ty;have h4:=wcw vb5 (P:=jbz) (fun x hx=>by simp [Value.cells] at hx; subst hx; exact ⟨_,_,_,rfl⟩) g ha dU [u] rfl h1 (by omega) (by omega) ty hr;have ht:∀ (y:Value) (m:Sp),SpV W none y m->SpV w4 none y m:=fun y m hy=>hy.turn ha (yae g.1) hg hn
 refine ⟨v4,w4,hr,⟨⟨xs ++ [u],by simp [e],by simpa using g4,fun i hi hl=>?_⟩,h4⟩,hg⟩
 by_cases Cb:i < l.length
 · rw [List.getElem_append_left (by omega),List.getElem_append_left (by omega)];exact ht _ _ (zF i (by omega) Cb)
 · have:i=l.length:=by simp at hl; omega
   subst this;rw [List.getElem_append_right (by omega),List.getElem_append_right (by omega)];simp only [e,Nat.sub_self,List.getElem_singleton];exact ht _ _ hs
structure SmS (s : Sp) : Prop where
 nf:jf s=s
 dig:∀ x ∈ s,(dg x.1.natAbs).length<=1099511627776
 nrm:(dg (yg s)).length<=1099511627776
 len:s.length<=1099511627776
theorem SmS.nil:SmS []:=⟨by decide,fun x hx=>absurd hx (by simp),Nat.le_trans (ve (k:=1) (by simp [yg,B32])) (by omega),by decide⟩
theorem SpV.nil (w:World):SpV w none (.slice none 0 0) []:=⟨none,0,rfl,by simp,by omega,fun i hi=>absurd hi (by simp)⟩
theorem zcd {w:World} {l m:Sp} {v u:Value} (hl:SpV w none v l) (hm:SpV w none u m) (sl:SmS l) (sm:SmS m):Calls Tryz.prog 46 #[v,u] w fun e w'=>e=.returned (.int .i64 (qi l m))/\Ext w w':=by
 have HC:=hid (kbn v u 1099511627776 hl hm sl.dig sm.dig (by omega) sl.nrm sm.nrm sl.len sm.len);rw [sl.nf,sm.nf] at HC;obtain ⟨A,c,rfl,-⟩:=hl;obtain ⟨B,d,rfl,-⟩:=hm;clear sl sm;go_enter Tryz.func46,Tryz.ntmps46;go_wp2_with fail;refine HC.out.mono ?_;rintro e w1 ⟨rfl,x1⟩;have X1:=hid x1;clear x1;go_wp2_with fail;go_ret;exact ⟨rfl,X1.out⟩
abbrev uac (w:World):={ x:Value × Sp // SpV w none x.1 x.2/\SmS x.2 }
instance (w:World):Inhabited (uac w):=⟨⟨(.slice none 0 0,[]),SpV.nil w,SmS.nil⟩⟩
def uac.enc {w:World} (x:uac w):Value:=x.1.1
def uac.ord {w:World} (x y:uac w):Int:=qi x.1.2 y.1.2
theorem uac.swo (w : World) : SWO (ltOf (uac.ord (w := w))) where
 irrefl x:=vz.swo.irrefl x.1.2
 trans x y z:=vz.swo.trans x.1.2 y.1.2 z.1.2
 ntrans x y z:=vz.swo.ntrans x.1.2 y.1.2 z.1.2
theorem uac.one (w:World):OneCell (uac.enc (w:=w)):=fun x=>by
 obtain ⟨⟨v,s⟩,⟨A,c,e,-⟩,-⟩:=x;simp only at e;subst e
 rfl
theorem jar {α:Type} [Inhabited α] (enc:α->Value) (W:World) (g n:Nat) (d:Array α) (os:Array Obj):W.grownBy (sortWorld enc W g 0 n d os) (some g):=by
 refine ⟨rfl,rfl,rfl,?_,fun b hb au=>?_⟩
 · simp [sortWorld,grow,putRow,mapBlock,Go.Sort.ahead]
 · have Io:¬ g=b:=fun e=>au (by rw [e])
   simp [sortWorld,grow,putRow,mapBlock,Go.Sort.ahead,Array.getElem?_append,hb,Array.getElem_modify,Io]
theorem kbv (v:Value) (w:World):Calls Tryz.prog 94 #[v,.int .i64 0,.int .i64 0,.func (.func 46) #[] #[]] w fun e w'=>e=.returned (.tuple #[])/\w'=w:=by
 go_enter Tryz.func94,Tryz.ntmps94;go_wp2_with fail;refine wp_loop_rounds 1 ?_;rw [rounds_succ];go_wp2_with fail
 go_end0
 exact ⟨rfl,rfl⟩
theorem wbt (v:Value) (limit:Int) (w:World):Calls Tryz.prog 73 #[v,.int .i64 0,.int .i64 0,.int .i64 limit,.func (.func 46) #[] #[]] w fun e w'=>e=.returned (.tuple #[])/\w'=w:=by
 go_enter Tryz.func73,Tryz.ntmps73;go_wp2_with fail;refine wp_loop_rounds 1 ?_;rw [rounds_succ];go_wp2_with fail;refine (kbv _ _).mono ?_;rintro e w1 ⟨rfl,rfl⟩;go_wp2_with fail;exact bodyPost_ret (results_none rfl _ _ _) rfl ⟨rfl,rfl⟩
theorem qbo (A:Option Addr) (c:Nat) (w:World):Calls Tryz.prog 45 #[.slice A 0 c,.func (.func 46) #[] #[]] w fun e w'=>e=.returned (.tuple #[])/\w'=w:=by
 have wr:IntKind.u64.wrap (0:Int)=0:=by decide
 have hb:=yax 0 w (by omega);have HB:=hid hb;clear hb;go_enter Tryz.func45,Tryz.ntmps45;go_wp2_with fail;refine HB.out.mono ?_;rintro e w1 ⟨rfl,rfl⟩;go_wp2_with fail;refine (wbt _ _ _).mono ?_;rintro e w1 ⟨rfl,rfl⟩;go_wp2_with fail
 go_end0
 exact ⟨rfl,rfl⟩
def gce (w:World) (v:Value) (L:List Sp):Prop:=∃ A c,v=.slice A L.length c/\L.length<=c/\c<=9223372036854775807/\∀ i (hi:i < L.length),∃ ad u,A=some ad/\ad.block < w.heap.size/\w.cell? (ad.add i)=some u/\SpV w none u L[i]
theorem gce.ext {w w':World} {v:Value} {L:List Sp} (h:gce w v L) (hx:Ext w w'):gce w' v L:=by
 obtain ⟨A,c,rfl,h1,h2,h3⟩:=h;refine ⟨A,c,rfl,h1,h2,fun i hi=>?_⟩;obtain ⟨ad,u,rfl,hb,hc,hs⟩:=h3 i hi;exact ⟨ad,u,rfl,Nat.lt_of_lt_of_le hb hx.size,(World.cell?_of_block (by rw [ja]; exact hx.below.block _ hb)).trans hc,hs.ext hx⟩
theorem ub9 {base:Nat} {W:World} {v:Value} {l:List Sp} (h:yai base W v l) (hs:∀ s ∈ l,SmS s) (hlen:l.length<=1099511627776):Calls Tryz.prog 45 #[v,.func (.func 46) #[] #[]] W fun e w'=>e=.returned (.tuple #[])/\∃ l':List Sp,l'.Perm l/\(∀ i j (hi:i < l'.length) (hj:j < l'.length),i < j->¬ qi l'[j] l'[i] < 0)/\gce w' v l'/\W.grownBy w' v.ownBlock:=by
 by_cases h0:l=[]
 · subst h0;obtain ⟨A,c,rfl,h1,h2⟩:=h.len;refine (qbo _ _ _).mono ?_;rintro e w' ⟨he,rfl⟩;exact ⟨he,[],List.Perm.refl _,fun i j hi=>absurd hi (by simp),⟨A,c,rfl,h1,h2,fun i hi=>absurd hi (by simp)⟩,⟨rfl,rfl,rfl,Nat.le_refl _,fun _ _ _=>rfl⟩⟩
 have dh:0 < l.length:=List.length_pos_iff.2 h0;obtain ⟨⟨xs,hxl,hg,zF⟩,iC⟩:=h;obtain ⟨g,c,rfl,bZ,dw,FI,qH,bu⟩:=hg.pos dh;have ai:∀ i (hi:i < l.length),W.cell? ⟨g,i,none⟩=some (xs[i]'(by omega)):=fun i hi=>by
  rw [jm.cell hg i (by omega),List.getElem?_eq_getElem (by omega)]
 obtain ⟨d,hd⟩:∃ d:Array (uac W),d=Array.ofFn (n:=l.length) fun i=>⟨(xs[i.1]'(by have:=i.2; omega),l[i.1]),zF i.1 (by have:=i.2; omega) i.2,hs _ (List.getElem_mem _)⟩:=⟨_,rfl⟩
 have xC:d.size=l.length:=by rw [hd]; simp
 have eG:∀ i (hi:i < l.length),(d[i]!).1=(xs[i]'(by omega),l[i]):=fun i hi=>by
  rw [getElem!_pos d i (by omega)];subst hd;simp
 have nP:d.toList.map (fun x=>x.1.2)=l:=by
  apply List.ext_getElem
  · simp [xC]
  · intro i h1 h2;have:=eG i h2;rw [getElem!_pos d i (by omega)] at this;simp [this]
 clear hd;have hH:Holds uac.enc W g 0 d:=fun j hj=>by
  rw [Nat.zero_add];refine ⟨?_,bu _⟩;rw [ai j (by omega)];have:=eG j (by omega);unfold uac.enc;rw [this]
 have eg:∀ args w,(callFunc 46 args).run Tryz.prog w=.ok (.enter 46 args) w:=enters_of Tryz.func46 (by kernel_rfl) rfl
 have zH:∀ (n:Nat) (dk:Array (uac W)) (os:Array Obj) (y:Value) (m:Sp),SpV W none y m->SpV (sortWorld uac.enc W g 0 n dk os) none y m:=fun n dk os y m hy =>
  hy.turn (v:=.slice (some ⟨g,0,none⟩) l.length c) iC (yae hg.1) (jar _ W g n dk os) fun y ds hy=>xar hy (v:=.slice (some ⟨g,0,none⟩) l.length c) (jar _ W g n dk os) hg.2 (yae hg.1)
 have Qg:CmpLays1 Tryz.prog 46 #[] uac.enc uac.ord g 0 d.size W:=fun m os dk _ x y=>kce (zcd (zH m dk os _ _ x.2.1) (zH m dk os _ _ y.2.1) x.2.2 y.2.2)
 have aJ:=Go.Proofs.Any.slices_SortFunc (P:=Tryz.prog) (ρ:=zbf) wcg uac.enc (uac.one W) uac.ord (uac.swo W) 46 #[] g 0 c d W eg Qg hH qH (by omega);rw [xC] at aJ;refine aJ.mono ?_;rintro e w' ⟨he,d',n,os,⟨hsz,-,fU⟩,jB,rfl⟩;rw [xC] at hsz;have oG:d'.toList.Perm d.toList:=by
  rw [Array.extract_eq_self_of_le (by omega),Array.extract_eq_self_of_le (by omega)] at fU;exact fU
 have UG:=holds_sortWorld uac.enc W g 0 n d d' os qH hH (by omega);have kL:(d'.toList.map (fun x=>x.1.2)).length=l.length:=by simp [hsz]
 have XC:∀ i (hi:i < (d'.toList.map (fun x=>x.1.2)).length),(d'.toList.map (fun x=>x.1.2))[i]=(d'[i]!).1.2:=fun i hi=>by
  rw [getElem!_pos d' i (by simpa using hi)];simp
 refine ⟨he,d'.toList.map (fun x=>x.1.2),by rw [<- nP]; exact oG.map _,fun i j hi hj oL=>?_,⟨some ⟨g,0,none⟩,c,by rw [kL],by omega,dw,fun i hi=>?_⟩,jar _ W g n d' os⟩
 · have:=jB i j (Nat.zero_le _) oL (by omega);rw [XC i hi,XC j hj];intro h;unfold ltOf uac.ord at this;rw [decide_eq_false_iff_not] at this;exact this h
 · have h1:=(UG i (by omega)).1;rw [Nat.zero_add] at h1;refine ⟨⟨g,0,none⟩,_,rfl,Nat.lt_of_lt_of_le qH (jar uac.enc W g n d' os).size,by rw [uq,Nat.zero_add]; exact h1,?_⟩;rw [XC i hi];exact zH n d' os _ _ (d'[i]!).2.1
theorem jct {m:Mo} (h:∀ i:Nat,0 < i->i<=4->m.get i=0):m.lvl=0:=by
 have h1:=h 1 (by omega) (by omega);have h2:=h 2 (by omega) (by omega);have h3:=h 3 (by omega) (by omega);have h4:=h 4 (by omega) (by omega);simp [Mo.get] at h1 h2 h3 h4;simp [Mo.lvl,h1,h2,h3,h4]
theorem vcn {m:Mo} (hn:m.nonneg) (h:¬ 0 < m.lvl):∀ i:Nat,0 < i->i<=4->m.get i=0:=by
 intro i h0 h4;obtain ⟨n1,n2,n3,n4⟩:=hn;unfold Mo.lvl at h;have:m.d=0/\m.c=0/\m.b=0/\m.a=0:=by
  revert h
  repeat' split
  all_goals omega
 unfold Mo.get
 split
 · omega
 · split
   · omega
   · split <;> omega
theorem kc5 {p:Pl} (h:p.Can):0 < yaa p.sp ↔ 0 < p.lv:=by
 have h0:=h.lv_nonneg.1;rw [kct]
 constructor
 · rintro ⟨x,hx,hl⟩;refine Classical.byContradiction fun hn=>?_
   obtain ⟨-,y,hy,e⟩:=yt hx;have:x.2.lvl=0:=jct fun i h1 h4=>by
    rw [<- e,Pl.terms_above p Mo.one 0 h (by omega) y hy i h1 h4];unfold Mo.get Mo.one
    split <;> (try split) <;> (try split) <;> rfl
   omega
 · intro hp;refine Classical.byContradiction fun hn=>?_
   have:=Pl.ofS_lv (l:=p.sp) (n:=0) (by omega) p.sp_nn fun x hx=>vcn (p.sp_nn x hx) fun hl=>hn ⟨x,hx,hl⟩
   rw [Pl.sp_ofS h] at this;omega
theorem SmS.of {p:Pl} {E D:Nat} (h:Fit p E D) (hE:E<=900) (hD:D<=1099511627776):SmS p.sp:=
 ⟨p.sp_self,fun x hx=>Nat.le_trans (h.sp_dg x hx) hD,Nat.le_trans (ve h.sp_nrm) hD,Nat.le_trans h.sp_len (Nat.le_trans (xbj hE) (by decide))⟩
def gy (l : List Sp) : Nat -> List Sp
 | 0=>[]
 | k+1=>if 0 < k/\l[k - 1]?=l[k]? then gy l k else gy l k ++ (l[k]?).toList
theorem qbn {l:List Sp} {k:Nat} (h0:0 < k) (h:l[k - 1]?=l[k]?):gy l (k+1)=gy l k:=if_pos ⟨h0,h⟩
theorem zby {l:List Sp} {k:Nat} (hk:k < l.length) (h:¬ (0 < k/\l[k - 1]?=l[k]?)):gy l (k+1)=gy l k ++ [l[k]]:=by
 have:gy l (k+1)=gy l k ++ (l[k]?).toList:=if_neg h;rw [this,List.getElem?_eq_getElem hk]; rfl
theorem yby (l : List Sp) : ∀ k, (gy l k).length <= k
 | 0=>by simp [gy]
 | k+1=>by
   have ih:=yby l k;unfold gy
   split
   · omega
   · rw [List.length_append];have:(l[k]?).toList.length<=1:=by cases l[k]? <;> simp
     omega
theorem xbn {l : List Sp} (hs : ∀ i j (hi : i < l.length) (hj : j < l.length), i < j -> ¬ qi l[j] l[i] < 0) : ∀ k, k <= l.length -> AscS (gy l k) /\ ∀ x, x ∈ gy l k ↔ x ∈ l.take k
 | 0,_=>⟨List.Pairwise.nil,fun x=>by simp [gy]⟩
 | k+1,hk=>by
   obtain ⟨ha,hm⟩:=xbn hs k (by omega);have dD:l.take (k+1)=l.take k ++ [l[k]]:=List.take_succ_eq_append_getElem (by omega)
   by_cases h:0 < k/\l[k - 1]?=l[k]?
   · rw [qbn h.1 h.2];refine ⟨ha,fun x=>?_⟩;rw [hm,dD,List.mem_append,List.mem_singleton]
     constructor
     · exact .inl
     · rintro (hx | rfl)
       · exact hx
       · have e:=h.2;rw [List.getElem?_eq_getElem (by omega),List.getElem?_eq_getElem (by omega)] at e;injection e with e
         rw [<- e];exact List.mem_take_iff_getElem.2 ⟨k - 1,by omega,rfl⟩
   · rw [zby (by omega) h];refine ⟨?_,fun x=>by rw [List.mem_append,hm,dD,List.mem_append]⟩;unfold AscS at ha ⊢;rw [List.pairwise_append];refine ⟨ha,List.pairwise_singleton _ _,fun x hx y hy=>?_⟩;rw [List.mem_singleton] at hy;subst hy;obtain ⟨i,hi,rfl⟩:=List.mem_take_iff_getElem.1 ((hm x).1 hx);have h1:=hs i k (by omega) (by omega) (by omega);have h2:=vz.anti l[i] l[k];have h3:qi l[i] l[k] ≠ 0:=fun e0=>h (by
      have e1:=(vz.zero _ _).1 e0;refine ⟨by omega,?_⟩;rw [List.getElem?_eq_getElem (by omega),List.getElem?_eq_getElem (by omega)]
      by_cases kW:i=k - 1
      · subst kW; rw [e1]
      · have a1:=hs i (k - 1) (by omega) (by omega) (by omega);have a2:=hs (k - 1) k (by omega) (by omega) (by omega);rw [e1] at a1;have a3:=vz.anti (l[k - 1]'(by omega)) l[k]
        rw [(vz.zero _ _).1 (show qi (l[k - 1]'(by omega)) l[k]=0 by omega)])
     omega
theorem ycw {l m:List Sp} (hp:l.Perm m) (hs:∀ i j (hi:i < l.length) (hj:j < l.length),i < j->¬ qi l[j] l[i] < 0):gy l l.length=jaj m:=by
 obtain ⟨h1,h2⟩:=xbn hs l.length (Nat.le_refl _);exact ybe h1 (ua1 m) fun x=>by rw [h2,List.take_length,wan,hp.mem_iff]
def vae (ps:List Pl) (k:Nat):List Sp:=(yao (ps.take k)).map Pl.sp
theorem ucj {ps:List Pl} {k:Nat} (hk:k < ps.length):vae ps (k+1)=vae ps k ++ if 0 < (snP ps[k]).lv then [(snP ps[k]).sp] else []:=by
 unfold vae yao;rw [List.take_succ_eq_append_getElem hk,List.map_append,List.filter_append,List.map_append]
 congr 1
 by_cases h:0 < (snP ps[k]).lv
 · simp [h]
 · simp [h]
theorem jbu (ps:List Pl) (k:Nat):(vae ps k).length<=k:=by
 unfold vae yao;rw [List.length_map];refine Nat.le_trans (List.length_filter_le _ _) ?_;rw [List.length_map,List.length_take]; omega
theorem qbu {ps:List Pl} {k:Nat} {s:Sp} (h:s ∈ vae ps k):∃ p ∈ ps,s=(snP p).sp:=by
 unfold vae at h;obtain ⟨x,hx,rfl⟩:=List.mem_map.1 h;obtain ⟨p,hp,rfl,-⟩:=zao.1 hx;exact ⟨p,List.mem_of_mem_take hp,rfl⟩
def jcn (L:List Pl) (w:World) (e:Ending) (w':World):Prop:=∃ v,e=.returned v/\xbe w' (fun b=>w.heap.size<=b) v L/\Ext w w'
theorem xbe.mono {W:World} {q q':Nat->Prop} {v:Value} {L:List Pl} (h:xbe W q v L) (hq:∀ b,q b->q' b):xbe W q' v L:=by
 obtain ⟨D,c,e,h1,h2,h3⟩:=h;exact ⟨D,c,e,h1,h2,jd.turn (Nat.le_refl _) (fun _ _ h=>h) (fun b _ hb=>⟨hq b hb,rfl⟩) _ _ _ h3⟩
theorem yai.own {base:Nat} {w:World} {v:Value} {l:List Sp} (h:yai base w v l) {R:Nat} (hR:v.ownBlock=some R):base<=R:=by
 obtain ⟨⟨xs,-,g,-⟩,-⟩:=h;exact (g.own hR).1
theorem vam {w:World} {q:Nat->Prop} {D0:Option Addr} {c0 E D:Nat} {ps:List Pl} (aK:jd w q ps D0 0) (hn:ps.length<=1000000) (aI:∀ p ∈ ps,Fit p E D) (hE:E<=170) (hD:D<=1099511627776):Calls Tryz.prog 18 #[.slice D0 ps.length c0] w (jcn (xu ps) w):=by
 have lJ:=hid aK;have HF:=hid aI;have Me:Hid (∀ k,∀ s ∈ vae ps k,SmS s):=hid (fun k s hs=>by
  obtain ⟨p,hp,rfl⟩:=qbu hs
  exact SmS.of (jai (aI p hp)) (by omega) hD)
 clear aK aI;go_enter Tryz.func18,Tryz.ntmps18;go_wp2_with fail
 go_step3
 go_wp2_with fail
 go_loopw [3,12] (fun sv iv wr=>∃ (k:Nat) (SA:Option Addr) (sc:Nat),k<=ps.length/\iv=.int .i64 k/\sv=.slice SA (vae ps k).length sc/\Hid (yai w.heap.size wr sv (vae ps k)/\Ext w wr)) (fun _ iv _=>ps.length - (intOf iv).toNat)
 case atStart=>exact ⟨0,none,0,Nat.zero_le _,rfl,rfl,hid ⟨yai.nil _ _,Ext.refl _⟩⟩
 case round =>
  obtain ⟨k,SA,sc,hk,rfl,rfl,HR⟩:=hrel;have HX:=hid HR.out.2;have aS:=hid HR.out.1;clear HR
  by_cases af:k < ps.length
  · obtain ⟨ad,C0,j0,f0,C1,j1,f1,rfl,ah,⟨a0,a1,a2,a3⟩,aV⟩:=jd.kid (lJ.out.ext HX.out) k af;have iY:=HF.out ps[k] (List.getElem_mem af);have NV:=iY.small hE;have XT:=iY.dm;have wR:=jai iY;have Wi:=ucj af;have lM:=jbu ps k;have dJ:=kc5 wR.can;have hsm:=SmS.of iY (by omega) hD;have wQ:=SmS.of wR (by omega) hD;have uM:=zas _ ps[k].sp_can;rw [qch] at Wi dJ wQ;obtain ⟨V,hV⟩:=n_m (wr.alloc (.cells #[.int .i64 ps[k].lv,.bool ps[k].neg,.slice C0 j0 f0,.slice C1 j1 f1] 33));have di:Ext wr V:=by rw [<- hV]; exact (Ext.refl wr).alloc _
    have U3:=hid (gcf ps[k] _ (aV.ext di) NV (by omega));have aN:=hid (fun (W':World) (u:Value) (hu:SpV W' none u ps[k].sp)=>kbq u hu hsm.nf hsm.dig uM hsm.nrm hsm.len (by omega));have CQ:=hid (fun (W':World) (u:Value) (hu:SpV W' none u (ssn ps[k].sp))=>xck hu wQ.nf wQ.dig wQ.nrm wQ.len);have qX:=hid Wi;have GN:=hid dJ;have vO:=hid di;have e0:jf (ps[k].terms Mo.one)=ps[k].sp:=rfl;rw [e0] at U3;have gs:V.heap.size=wr.heap.size+1:=by rw [<- hV]; simp
    obtain ⟨⟨b0,b1,b2,b3⟩,bf⟩:jc V wr.heap.size ps[k] (.slice C0 j0 f0) (.slice C1 j1 f1)/\True:=⟨by rw [<- hV]; exact jc.new wr _ _ _ _,trivial⟩;unfold plV at U3;clear aV iY NV XT wR Wi dJ hsm wQ uM di e0 bf;generalize (snP ps[k]).lv=pl at *;generalize ssn ps[k].sp=s at *;generalize ps[k].sp=sp0 at *;generalize ps[k]=pk at *;go_wp2_with fail;clear hV b0 b1 b2 b3 a0 a1 a2 a3;refine U3.out.mono ?_;rintro e w2 ⟨v2,rfl,s2,x2⟩;have aW:=hid (aN.out _ _ s2);obtain ⟨A2,c2,rfl,-⟩:=s2;have X2:=hid (vO.out.trans x2);clear x2 U3 vO aN;go_wp2_with fail;refine aW.out.mono ?_;rintro e w3 ⟨v3,rfl,s3,x3⟩;have HL3:=hid (CQ.out _ _ s3);have S3:=hid s3;obtain ⟨A3,c3,rfl,-⟩:=s3;have X3:=hid (X2.out.trans x3);clear x3 aW CQ X2;go_wp2_with fail;refine HL3.out.mono ?_;rintro e w4 ⟨rfl,x4⟩;have X4:=hid (X3.out.trans x4);have S4:=hid (S3.out.ext x4);clear x4 HL3 S3 X3;have pG:Ext w w4:=HX.out.trans X4.out
    by_cases hp:0 < yaa s
    · obtain ⟨v5,w5,ax,pK,Uk⟩:=(aS.out.ext X4.out).push S4.out pG.size (by omega) 48;have wL:Ext w w5:=Below.grown pG.below Uk pG.size (fun b e=>aS.out.own e);have HN:Hid (yai w.heap.size w5 v5 (vae ps (k+1))/\Ext w w5):=hid ⟨by rw [qX.out,if_pos (GN.out.1 hp)]; exact pK,wL⟩;obtain ⟨SA5,sc5,TK,-,-⟩:=HN.out.1.len;subst TK;have dJ:decide (0 < yaa s)=true:=by simpa using hp
      clear hp pK Uk wL pG S4 X4 qX GN aS HX;generalize yaa s=lv at *
      go_wp2_with (at_builtin
                   refine wpList_append_run rfl (.tmp 22) (.tmp 24) _ _ rfl _ _ _ _ rfl rfl ax ?_)
      clear ax
      go_roundw
      case rel=>exact ⟨k+1,SA5,sc5,by omega,by go_num,rfl,HN⟩
      case measure=>simp [intOf]; omega
    · have HN:Hid (yai w.heap.size w4 (.slice SA (vae ps k).length sc) (vae ps (k+1))/\Ext w w4):=hid ⟨by rw [qX.out,if_neg (fun h=>hp (GN.out.2 h)),List.append_nil]; exact aS.out.ext X4.out,pG⟩;have kU:(vae ps (k+1)).length=(vae ps k).length:=by rw [qX.out,if_neg (fun h=>hp (GN.out.2 h)),List.append_nil]
      have dJ:decide (0 < yaa s)=false:=by simpa using hp
      clear hp pG S4 X4 qX GN aS HX;generalize yaa s=lv at *;go_wp2_with fail
      go_roundw
      case rel=>exact ⟨k+1,SA,sc,by omega,by go_num,by rw [kU],HN⟩
      case measure=>simp [intOf]; omega
  · obtain rfl:k=ps.length:=by omega
    have lM:=jbu ps ps.length;have Gl:=hid (ub9 aS.out (Me.out _) (by omega));have kK:∀ R,(Value.slice SA (vae ps ps.length).length sc).ownBlock=some R->w.heap.size<=R:=fun R e=>aS.out.own e
    have BD:=hid kK;have SS:Hid (xu ps=(jaj (vae ps ps.length)).map Pl.ofS):=hid (by unfold xu vae; rw [List.take_length]);have fH:Hid (∀ s ∈ vae ps ps.length,∃ P,s=Pl.sp P/\Pl.ofS s=P/\Fit P E D):=hid (fun s hs=>by
     obtain ⟨p,hp,rfl⟩:=qbu hs
     exact ⟨snP p,rfl,Pl.sp_ofS (kai p),jai (HF.out p hp)⟩)
    have Bl:=hid (Me.out ps.length);clear aS kK lJ HF Me af hk;generalize vae ps ps.length=M at *;go_wp2_with fail;refine Gl.out.mono ?_;rintro e w3 ⟨rfl,L,fU,jB,mD,PN⟩;have yH:Ext w w3:=Below.grown HX.out.below PN HX.out.size (fun b e=>BD.out b e);have hLM:L.length=M.length:=fU.length_eq;have HD:Hid (xu ps=(gy L L.length).map Pl.ofS):=hid (by rw [SS.out,ycw fU fun i j hi hj oL=>Int.not_lt.2 (jB i j hi hj oL)]);have Gj:=hid mD;have Gi:=hid yH;have lF:Hid (∀ s ∈ L,s ∈ M):=hid (fun s hs=>fU.mem_iff.1 hs);clear fU jB mD PN Gl SS BD HX yH;rw [hLM] at HD;go_wp2_with fail
    go_step3
    go_wp2_with fail
    go_loopw [7,31] (fun fv iv wr=>∃ (k:Nat) (FA:Option Addr) (fc:Nat),k<=M.length/\iv=.int .i64 k/\fv=.slice FA (gy L k).length fc/\Hid (yh w3.heap.size (fun b=>w3.heap.size<=b) wr fv ((gy L k).map Pl.ofS)/\Ext w3 wr)) (fun _ iv _=>M.length - (intOf iv).toNat)
    case atStart=>exact ⟨0,none,0,Nat.zero_le _,rfl,rfl,hid ⟨yh.nil _ _ _,Ext.refl _⟩⟩
    case round =>
     obtain ⟨k,FA,fc,hk,rfl,rfl,HR⟩:=hrel;have HX:=hid HR.out.2;have aS:=hid HR.out.1;clear HR
     by_cases Xd:k < M.length
     · have af:k < L.length:=by omega
       obtain ⟨ad,u,hA,ah,hcu,KQ⟩:∃ ad u,SA=some ad/\ad.block < wr.heap.size/\wr.cell? (ad.add k)=some u/\SpV wr none u L[k]:=by
        obtain ⟨A',c',e,-,-,h⟩:=Gj.out.ext HX.out;injection e with e1 e2 e3
        subst e1;exact h k af
       subst hA;have MB:=fH.out _ (lF.out _ (List.getElem_mem af));obtain ⟨P,UA,YN,YO⟩:=MB;have wP:=Bl.out _ (lF.out _ (List.getElem_mem af));have HU:=hid KQ;have ZT:=hid (show L[k]=P.sp/\Pl.ofS L[k]=P from ⟨UA,YN⟩);have RX:=hid (fun (W':World) (hx:Ext wr W')=>gb5 u (show SpV W' none u P.sp by rw [<- UA]; exact KQ.ext hx) YO (by omega) (by omega));have nP:=yby L k
       have mZ:Hid (∀ W4,Ext wr W4->∀ (v5:Value) (w5:World),PlV w5 (fun b=>W4.heap.size<=b) P v5->Ext W4 w5->∃ A0 n0 c0 A1 n1 c1,v5=plV P (.slice A0 n0 c0) (.slice A1 n1 c1)/\n1=P.cs.length /\
        ∃ v6 w6,(Builtin.append_ #[31,31] 31 #[.slice FA (gy L k).length fc,.slice (some ⟨w5.heap.size,0,none⟩) 1 1]).run Tryz.prog (w5.alloc (.cells #[.int .i64 P.lv,.bool P.neg,.slice A0 n0 c0,.slice A1 n1 c1] 33))=.ok v6 w6/\yh w3.heap.size (fun b=>w3.heap.size<=b) w6 v6 ((gy L k).map Pl.ofS ++ [P])/\Ext w3 w6):=hid (fun W4 pG v5 w5 hp5 wL=>by
        obtain ⟨A0,n0,c0,A1,c1,rfl,-⟩:=id hp5.open_;have hw:=HX.out.size;have h4:=pG.size;have h5:=wL.size;have hro:=aS.out.ext (pG.trans wL);have bC:Ext w3 w5:=HX.out.trans (pG.trans wL);obtain ⟨v6,w6,ax,hg,-,ae,-⟩:=hro.push bC.size (x:=P) (hp5.mono fun b hb=>⟨fun e=>by have:=(aS.out.own e).2; omega,by omega⟩) (by simp; omega) 31
        exact ⟨A0,n0,c0,A1,_,c1,rfl,rfl,v6,w6,ax,ae,Below.grown bC.below hg bC.size (fun b e=>(hro.own e).1)⟩)
       obtain ⟨Au,cu,rfl,-⟩:=id KQ;have zN:Hid (0 < k->L[k - 1]?=L[k]?->gy L (k+1)=gy L k):=hid (fun h0 h=>qbn h0 h);have mJ:Hid (¬ (0 < k/\L[k - 1]?=L[k]?)->(gy L (k+1)).map Pl.ofS=(gy L k).map Pl.ofS ++ [P]):=hid (fun h=>by rw [zby af h,List.map_append,<- ZT.out.2]; rfl)
       by_cases oJ:0 < k
       · obtain ⟨m,hm⟩:∃ m,k=m+1:=⟨k - 1,by omega⟩;have wX:m < L.length:=by omega
         have hmM:m < M.length:=by omega
         obtain ⟨um,fC,hsum⟩:∃ um,wr.cell? (ad.add m)=some um/\SpV wr none um L[m]:=by
          obtain ⟨A',c',e,-,-,h⟩:=Gj.out.ext HX.out;injection e with e1 e2 e3
          obtain ⟨ad',u',e4,-,h5,h6⟩:=h m wX;rw [<- e1] at e4;injection e4 with e4
          subst e4;exact ⟨u',h5,h6⟩
         have zM:=Bl.out _ (lF.out _ (List.getElem_mem wX));have iD:=zci _ _ 1099511627776 hsum KQ zM.dig wP.dig (by omega) zM.nrm wP.nrm zM.len wP.len;rw [zM.nf,wP.nf] at iD;have hq:(L[k - 1]?=L[k]?) ↔ L[m]=L[k]:=by
          rw [show k - 1=m by omega,List.getElem?_eq_getElem wX,List.getElem?_eq_getElem af];simp
         have hsz:(M.length:Int)=M.length:=rfl;have Gn:=hid iD;obtain ⟨Am,cm,rfl,-⟩:=id hsum;have hw:IntKind.i64.wrap ((k:Int) - 1)=(m:Int):=by rw [IntKind.wrap_i64]; omega
         have hkd:decide (0 < (k:Int))=true:=by simpa using oJ
         have rZ:=zN.out oJ;rw [hq] at rZ;have zV:=mJ.out;rw [hq] at zV;have U6:=hid rZ;have CG:=hid (fun (h:¬ L[m]=L[k])=>zV (fun h'=>h h'.2));clear zN mJ rZ zV hq iD wP zM hsum KQ UA YN YO Bl lF fH ZT HU hsz hm;generalize L[k]=sk at *;generalize L[m]=sm at *;go_wp2_with fail;refine Gn.out.mono ?_;rintro e w4 ⟨rfl,x4⟩;have X4:=hid x4;clear x4 Gn hcu fC
         by_cases he:sm=sk
         · have kX:decide (sm=sk)=true:=by simpa using he
           have HN:Hid (yh w3.heap.size (fun b=>w3.heap.size<=b) w4 (.slice FA (gy L k).length fc) ((gy L (k+1)).map Pl.ofS)/\Ext w3 w4):=hid ⟨by rw [U6.out he]; exact aS.out.ext X4.out,HX.out.trans X4.out⟩;have uN:(gy L (k+1)).length=(gy L k).length:=by rw [U6.out he]
           clear he U6 CG mZ RX aS;go_wp2_with fail
           go_roundw
           case rel=>exact ⟨k+1,FA,fc,by omega,by go_num,by rw [uN],HN⟩
           case measure=>simp [intOf]; omega
         · have kX:decide (sm=sk)=false:=by simpa using he
           have Oi:=hid (CG.out he);clear he U6 CG;go_wp2_with fail;refine (RX.out _ X4.out).mono ?_;rintro e w5 ⟨v5,rfl,p5,x5⟩;obtain ⟨A0,n0,d0,A1,n1,d1,rfl,rfl,v6,w6,ax,dA,BQ⟩:=mZ.out _ X4.out v5 w5 p5 x5;have HN:Hid (yh w3.heap.size (fun b=>w3.heap.size<=b) w6 v6 ((gy L (k+1)).map Pl.ofS)/\Ext w3 w6):=hid ⟨by rw [Oi.out]; exact dA,BQ⟩;obtain ⟨FA6,Zh,Hy,-,-⟩:=HN.out.1.len;rw [List.length_map] at Hy;subst Hy;clear p5 x5 dA BQ Oi mZ RX aS;unfold plV
           go_wp2_with (at_builtin
                        refine wpList_append_run rfl (.tmp 47) (.tmp 50) _ _ rfl _ _ _ _ rfl rfl ax ?_)
           clear ax
           go_roundw
           case rel=>exact ⟨k+1,FA6,Zh,by omega,by go_num,rfl,HN⟩
           case measure=>simp [intOf]; omega
       · have hkd:decide (0 < (k:Int))=false:=by simpa using oJ
         have Oi:=hid (mJ.out (fun h=>oJ h.1));clear zN mJ wP KQ UA YN YO Bl lF fH ZT HU;generalize L[k]=sk at *;go_wp2_with fail;refine (RX.out _ (Ext.refl wr)).mono ?_;rintro e w5 ⟨v5,rfl,p5,x5⟩;obtain ⟨A0,n0,d0,A1,n1,d1,rfl,rfl,v6,w6,ax,dA,BQ⟩:=mZ.out _ (Ext.refl wr) v5 w5 p5 x5;have HN:Hid (yh w3.heap.size (fun b=>w3.heap.size<=b) w6 v6 ((gy L (k+1)).map Pl.ofS)/\Ext w3 w6):=hid ⟨by rw [Oi.out]; exact dA,BQ⟩;obtain ⟨FA6,Zh,Hy,-,-⟩:=HN.out.1.len;rw [List.length_map] at Hy;subst Hy;clear p5 x5 dA BQ Oi mZ RX aS;unfold plV
         go_wp2_with (at_builtin
                      refine wpList_append_run rfl (.tmp 47) (.tmp 50) _ _ rfl _ _ _ _ rfl rfl ax ?_)
         clear ax
         go_roundw
         case rel=>exact ⟨k+1,FA6,Zh,by omega,by go_num,rfl,HN⟩
         case measure=>simp [intOf]; omega
     · obtain rfl:k=M.length:=by omega
       have lg:Hid (jcn (xu ps) w (.returned (.slice FA (gy L M.length).length fc)) wr):=hid ⟨_,rfl,by rw [HD.out]; exact aS.out.rowP.mono fun b hb=>by have:=Gi.out.size; omega,Gi.out.trans HX.out⟩;clear aS Gj lF Bl fH HD Xd hk;go_wp2_with fail;rw [Exit.noGoto_ret];go_ret;exact lg.out
end Go.Proofs.YtcepajijiabkmaaGreat
