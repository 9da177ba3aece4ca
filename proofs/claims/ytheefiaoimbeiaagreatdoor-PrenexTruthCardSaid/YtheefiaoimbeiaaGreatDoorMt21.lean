/- Layer 34: formula.Check. -/
import Derived.Test.YtheefiaoimbeiaaGreatDoorMt20
import Derived.Test.YtheefiaoimbeiaaGreatDoorMt8
import Derived.Test.YtheefiaoimbeiaaGreatDoorMt6
import Derived.Test.YtheefiaoimbeiaaGreatDoorMt7
import Derived.Test.YtheefiaoimbeiaaGreatDoorMt4
set_option linter.unusedSimpArgs false
set_option linter.unusedVariables false

set_option maxRecDepth 100000
set_option maxHeartbeats 8000000
namespace Go.Proofs.YtheefiaoimbeiaaGreatDoor
open Go.RowKit
theorem qx.len {P:Program} {t k e:TypeId} {w:World} {b:Nat} {l:List (ByteArray × Value)} (h:qx w b l) (ht:P.underlying t=some (.map k e)) (ty:TypeId):(Builtin.len_ #[t] ty #[.map (some b)]).run P w=.ok (.int .i64 l.length) w:=by
 obtain ⟨es,clock,hb,he⟩:=h;have:es.size=l.length:=by simpa using congrArg List.length he
 rw [<- this];simp [Builtin.len_,run_underlying ht,MapKept.run_getObj_map hb,goInt,Result.andThen]
theorem xcg (l:List (ByteArray × Value)) (s:ByteArray) (u:Value):(uai l s u).length=if (zac l s).isSome then l.length else l.length+1:=by
 induction l with
 | nil=>rfl
 | cons x l ih =>
   rw [uai,zac]
   by_cases h:s=x.1
   · simp [h]
   · simp only [if_neg h,List.length_cons,ih]
     split <;> rfl
def yag (w:World) (b:Nat) (l:List ByteArray):Prop:=∃ ls,qx w b ls/\ls.length=l.length/\∀ s,zac ls s=if has l s then some (.bool true) else none
theorem yag.block {w w':World} {b:Nat} {l:List ByteArray} (h:yag w b l) (hb:w'.heap[b]?=w.heap[b]?):yag w' b l:=by
 obtain ⟨ls,h1,h2⟩:=h;exact ⟨ls,h1.block hb,h2⟩
theorem yag.lt {w:World} {b:Nat} {l:List ByteArray} (h:yag w b l):b < w.heap.size:=by
 obtain ⟨ls,h1,h2⟩:=h;exact h1.lt
theorem yag.ext {w w':World} {b:Nat} {l:List ByteArray} (h:yag w b l) (hx:Ext w w'):yag w' b l:=h.block (hx.below.block b h.lt)
def wat (l:List ByteArray) (s:ByteArray):List ByteArray:=if has l s then l else l ++ [s]
theorem wck (l:List ByteArray) (s t:ByteArray):has (wat l s) t=(has l t || decide (s=t)):=by
 unfold wat
 by_cases h:has l s=true
 · rw [if_pos h]
   by_cases e:s=t
   · subst e; simp [h]
   · simp [e]
 · rw [if_neg h,jbl]
theorem yag.put {w:World} {b:Nat} {l:List ByteArray} (h:yag w b l) (s:ByteArray):∃ w',(Instr.mapUpdate 91 (.map (some b)) (.string s) (.bool true)).run Tryz.prog w=.ok () w'/\yag w' b (wat l s)/\Only b w w':=by
 obtain ⟨ls,h1,h2,h3⟩:=h;obtain ⟨w',h4,h5,h6⟩:=h1.put (P:=Tryz.prog) Tryz.underlying91 Tryz.underlying9 s (.bool true);refine ⟨w',h4,⟨_,h5,?_,fun t=>?_⟩,h6⟩
 · rw [xcg,h3];unfold wat
   by_cases h:has l s=true
   · simp [h,h2]
   · simp [h,h2]
 · rw [ja0,wck,h3]
   by_cases e:t=s
   · simp [e]
   · have e':¬ s=t:=fun x=>e x.symm
     simp [e,e']
theorem yag.look {w:World} {b:Nat} {l:List ByteArray} (h:yag w b l) (s:ByteArray):(Instr.lookup 91 (.map (some b)) (.string s) false).run Tryz.prog w=.ok (.bool (has l s)) w:=by
 obtain ⟨ls,h1,h2,h3⟩:=h;have:=h1.look (P:=Tryz.prog) Tryz.underlying91 Tryz.underlying9 vbe s false;rw [this,if_neg (by simp),h3]
 split <;> simp_all
theorem yag.len {w:World} {b:Nat} {l:List ByteArray} (h:yag w b l):(Builtin.len_ #[91] 3 #[.map (some b)]).run Tryz.prog w=.ok (.int .i64 l.length) w:=by
 obtain ⟨ls,h1,h2,h3⟩:=h;rw [<- h2];exact h1.len (P:=Tryz.prog) Tryz.underlying91 _
def yaf (_:ByteArray->Int) (s:ByteArray) (x:List ByteArray × Bool):List ByteArray × Bool:=(wat x.1 s,x.2 && qal s)
def xak (bn Mn bv:Nat) (_:Nat) (W:World) (own:Nat->Prop) (x:List ByteArray × Bool):Prop:=
 W.cell? ⟨bn,0,none⟩=some (.map (some Mn))/\W.heap[bv]?=some (.cells #[.bool x.2] 4 (0,0))/\yag W Mn x.1/\own=fun i=>i=bv\/i=Mn
theorem xak.turn {bn Mn bv b b':Nat} {W W':World} {own:Nat->Prop} {x:List ByteArray × Bool} (h:xak bn Mn bv b W own x) (h1:W'.heap[bn]?=W.heap[bn]?) (h2:W'.heap[bv]?=W.heap[bv]?) (h3:W'.heap[Mn]?=W.heap[Mn]?):xak bn Mn bv b' W' own x:=
 ⟨(World.cell?_of_block h1).trans h.1,h2.trans h.2.1,h.2.2.1.block h3,h.2.2.2⟩
theorem xak.lts {bn Mn bv b:Nat} {W:World} {own:Nat->Prop} {x:List ByteArray × Bool} (h:xak bn Mn bv b W own x):bn < W.heap.size/\bv < W.heap.size/\Mn < W.heap.size:=by
 refine ⟨?_,lt_of_block h.2.1,h.2.2.1.lt⟩;rcases Nat.lt_or_ge bn W.heap.size with hlt | hge
 · exact hlt
 · have:=h.1; simp [World.cell?,Array.getElem?_eq_none hge] at this
section
variable {bn Mn bv:Nat}
theorem qbf (h1:bn ≠ Mn) (h2:bn ≠ bv) (h3:bv ≠ Mn) {b:Nat} {W W1:World} {own:Nat->Prop} {x:List ByteArray × Bool} {s:ByteArray} (hJ:xak bn Mn bv (b+1) W own x) (hM:yag W1 Mn (wat x.1 s)) (ho:Only Mn W W1) (v:Bool) :
 (∃ own',xak bn Mn bv b (W1.setCell ⟨bv,0,none⟩ (.bool v)) own' (wat x.1 s,v)/\yf own W own' (W1.setCell ⟨bv,0,none⟩ (.bool v)))/\W1.cell? ⟨bv,0,none⟩=some (.bool x.2)/\W1.frozen? ⟨bv,0,none⟩=false:=by
 obtain ⟨l1,l2,l3⟩:=hJ.lts;obtain ⟨c1,c2,c3,rfl⟩:=hJ;have c4:W1.heap[bv]?=some (.cells #[.bool x.2] 4 (0,0)):=by rw [ho.block l2 h3]; exact c2
 have hs:=ho.size;have q1:W1.os=W.os:=World.grownBy.os ho;have q2:W1.tape=W.tape:=World.grownBy.tape ho;have q3:W1.output=W.output:=World.grownBy.output ho;refine ⟨⟨fun i=>i=bv\/i=Mn,⟨?_,one_setCell c4,hM.block (Below.heap_setCell _ _ _ Mn (fun e=>h3 e.symm)),rfl⟩,⟨q1,q2,q3,by simp; omega,fun i hi hn=>?_,fun i _ h=>h⟩⟩,cell_of_one c4,free_of_one c4⟩
 · rw [World.cell?_of_block ((Below.heap_setCell W1 ⟨bv,0,none⟩ _ bn h2).trans (ho.block l1 h1))]; exact c1
 · rw [Below.heap_setCell W1 ⟨bv,0,none⟩ _ i (fun e=>hn (.inl e))];exact ho.block hi (fun e=>hn (.inr e))
theorem gbm (h1:bn ≠ Mn) (h2:bn ≠ bv) (h3:bv ≠ Mn) (b:Nat) (a:ByteArray->Int) (W:World) (own:Nat->Prop) (x:List ByteArray × Bool) (s:ByteArray) (hJ:xak bn Mn bv (b+1) W own x) :
 Calls Tryz.prog 29 #[.string s,.pointer (some ⟨bn,0,none⟩),.pointer (some ⟨bv,0,none⟩)] W fun e W'=>(∃ v,e=.returned v)/\∃ own',xak bn Mn bv b W' own' (yaf a s x)/\yf own W own' W':=by
 obtain ⟨l1,l2,l3⟩:=hJ.lts;have c1:=hJ.1;obtain ⟨W1,hput,hM1,ho1⟩:=hJ.2.2.1.put s;have HF:=Lib.hid (fun v=>(qbf h1 h2 h3 hJ hM1 ho1 v).1);obtain ⟨-,k1,k2⟩:=qbf h1 h2 h3 hJ hM1 ho1 true;have k3:W1.cell? ⟨bn,0,none⟩=some (.map (some Mn)):=by rw [ho1.cell (p:=⟨bn,0,none⟩) l1 h1]; exact c1
 clear hJ hM1 ho1 h1 h2 h3;unfold yaf;obtain ⟨ns,v⟩:=x;have HV:=Lib.hid (xb1 s W1);generalize qal s=vb at *;cases v
 · go_enter Tryz.func29,Tryz.ntmps29;go_wp2_with fail
   go_end0
   exact ⟨⟨_,rfl⟩,HF.out _⟩
 · go_enter Tryz.func29,Tryz.ntmps29;go_wp2_with fail;refine HV.out.mono ?_;rintro e w2 ⟨rfl,rfl⟩;go_wp2_with fail
   go_end0
   exact ⟨⟨_,rfl⟩,HF.out _⟩
theorem yb8 {Ma : Nat} (h1 : bn ≠ Mn) (h2 : bn ≠ bv) (h3 : bv ≠ Mn) (m1 : Ma ≠ bn) (m2 : Ma ≠ Mn) (m3 : Ma ≠ bv) : wau 29 #[.pointer (some ⟨bn, 0, none⟩), .pointer (some ⟨bv, 0, none⟩)] Ma (xak bn Mn bv) yaf where
 enter:=fun args W=>by simp [go_sem]
 ext:=fun b W W' own acc h hx=>by
  obtain ⟨l1,l2,l3⟩:=h.lts;exact h.turn (hx.below.block _ l1) (hx.below.block _ l2) (hx.below.block _ l3)
 less:=fun b b' W own acc h hb=>h.turn rfl rfl rfl
 map:=fun b W W' own acc h ho=>by
  obtain ⟨l1,l2,l3⟩:=h.lts;exact h.turn (ho.block l1 m1.symm) (ho.block l2 m3.symm) (ho.block l3 m2.symm)
 lt:=fun b W own acc h i hi=>by
  obtain ⟨l1,l2,l3⟩:=h.lts;obtain ⟨-,-,-,rfl⟩:=h;rcases hi with rfl | rfl
  · exact l2
  · exact l3
 ne:=fun b W own acc h hi=>by
  obtain ⟨-,-,-,rfl⟩:=h;rcases hi with e | e
  · exact m3 e
  · exact m2 e
 call:=fun b a W own acc s h _=>gbm h1 h2 h3 b a W own acc s h
end
def Fm.note (f:Fm):List ByteArray × Bool:=f.fold yaf (fun _=>0) ([],true)
def vak (x:(List ByteArray × Bool) × List ByteArray) (s:ByteArray):(List ByteArray × Bool) × List ByteArray:=((wat x.1.1 s,x.1.2 && qal s && !has x.2 s),wat x.2 s)
def zaj (qs:List ByteArray) (v:Bool) (s:ByteArray):Bool:=v && !has qs s
def Fm.chk (f:Fm):Int:=
 if f.free.foldl (zaj (f.bound.foldl vak (f.note,[])).2) (f.bound.foldl vak (f.note,[])).1.2=false then 7
 else if 4000 < f.sz\/16 < f.atoms\/4 < (f.bound.foldl vak (f.note,[])).1.1.length\/f.lim=false then 8 else 0
theorem yf.up {o1 o2 p:Nat->Prop} {a b:World} (h:yf o1 a o2 b) (hp:∀ i,o1 i->p i):yf p a p b:=
 ⟨h.os,h.tape,h.output,h.size,fun i hi hn=>h.block i hi (fun ho=>hn (hp i ho)),fun _ _ h=>h⟩
theorem yf.only {p:Nat->Prop} {a b:World} {m:Nat} (h:Only m a b) (hp:p m):yf p a p b:=
 ⟨World.grownBy.os h,World.grownBy.tape h,World.grownBy.output h,h.size,fun i hi hn=>h.block hi (fun e=>hn (by rw [e]; exact hp)),fun _ _ h=>h⟩
theorem xak.off {bn Mn bv b:Nat} {W:World} {own:Nat->Prop} {x:List ByteArray × Bool} (hJ:xak bn Mn bv b W own x) (h2:bn ≠ bv) (h3:bv ≠ Mn) :
 xak bn Mn bv b (W.setCell ⟨bv,0,none⟩ (.bool false)) own (x.1,false)/\W.cell? ⟨bv,0,none⟩=some (.bool x.2)/\W.frozen? ⟨bv,0,none⟩=false/\Only bv W (W.setCell ⟨bv,0,none⟩ (.bool false)):=by
 obtain ⟨c1,c2,c3,c4⟩:=hJ;exact ⟨⟨by rw [World.cell?_of_block (Below.heap_setCell W ⟨bv,0,none⟩ _ bn h2)]; exact c1,one_setCell c2,c3.block (Below.heap_setCell _ _ _ Mn (fun e=>h3 e.symm)),c4⟩,cell_of_one c2,free_of_one c2,⟨rfl,rfl,rfl,by simp,fun i hi hne=>Below.heap_setCell W ⟨bv,0,none⟩ _ i (fun e=>hne (by rw [e]))⟩⟩
def ga1 (bn Mn bv Mq:Nat) (w2:World) (y:(List ByteArray × Bool) × List ByteArray) (wr:World):Prop:=
 xak bn Mn bv 0 wr (fun i=>i=bv\/i=Mn) y.1/\yag wr Mq y.2/\yf (fun i=>i=bv\/i=Mn\/i=Mq) w2 (fun i=>i=bv\/i=Mn\/i=Mq) wr
theorem ube {α β:Type} (f:β->α->β) (x:β) (l:List α) (k:Nat) (h:k < l.length):(l.take (k+1)).foldl f x=f ((l.take k).foldl f x) l[k]:=by
 rw [List.take_succ_eq_append_getElem h,List.foldl_append]; rfl
theorem check_any {w0 w:World} {L:Nat} (hs:L<=1000000000000) (f:Fm) {v:Value} (hx0:Ext w0 w) (h:FmV w0 L f v) (hl:f.sz<=1099511627776) (hok:f.terms (ua6 w0 L)):Calls Tryz.prog 10 #[v] w (qp f.chk w):=by
 have hmm:=@run_makeMap Tryz.prog;have HX0:=Lib.hid hx0;have H:=Lib.hid h;obtain ⟨T,x,rfl⟩:=h.iface;clear h hx0;go_enter Tryz.func10,Tryz.ntmps10;go_wp2_with fail;obtain ⟨W,hW⟩:=n_m (((((w.alloc (Obj.map #[] 0)).alloc (Obj.cells #[Value.map (some w.heap.size)] 91)).alloc (Obj.cells #[Value.bool true] 4)).alloc (Obj.map #[] 0)));rw [hW];have hsz:W.heap.size=w.heap.size+4:=by rw [<- hW]; simp
 have hx:Ext w W:=by rw [<- hW]; exact ((((Ext.refl w).alloc _).alloc _).alloc _).alloc _
 have m1:qx W w.heap.size []:=by
  rw [<- hW];exact (((qx.made w).alloc _).alloc _).alloc _
 have m2:qx W (w.heap.size+1+1+1) []:=by
  rw [<- hW];have:=qx.made (((w.alloc (Obj.map #[] 0)).alloc (Obj.cells #[Value.map (some w.heap.size)] 91)).alloc (Obj.cells #[Value.bool true] 4));simpa using this
 have hJ:xak (w.heap.size+1) w.heap.size (w.heap.size+1+1) (0+f.sz) W (fun i=>i=w.heap.size+1+1\/i=w.heap.size) ([],true):=by
  refine ⟨by rw [<- hW]; simp [go_sem],?_,⟨[],m1,rfl,fun s=>rfl⟩,rfl⟩;rw [<- hW,Below.heap_alloc _ _ _ (by simp)];have:=heap_alloc_new ((w.alloc (Obj.map #[] 0)).alloc (Obj.cells #[Value.map (some w.heap.size)] 91)) (Obj.cells #[Value.bool true] 4);simpa using this
 have hwk:=yb8 (bn:=w.heap.size+1) (Mn:=w.heap.size) (bv:=w.heap.size+1+1) (Ma:=w.heap.size+1+1+1) (by omega) (by omega) (by omega) (by omega) (by omega) (by omega);refine (wbq hwk (f.sz+1) f _ (Nat.lt_succ_self _) H.out 0 W _ (fun _=>0) ([],true) hJ ⟨[],m2,fun s=>by simp [zac]⟩ (fun s=>by omega)).mono ?_;rintro e w1 ⟨⟨v1,rfl⟩,own',hJ',hA',hk'⟩;have hx1:Ext w w1:=hk'.ext hx (fun i hi=>by
  rcases hi with (hi | hi) | hi <;> omega)
 have hs1:=hk'.size;have hJ1:xak (w.heap.size+1) w.heap.size (w.heap.size+1+1) 0 w1 (fun i=>i=w.heap.size+1+1\/i=w.heap.size) f.note:=by
  obtain ⟨c1,c2,c3,c4⟩:=hJ';exact ⟨c1,c2,c3,rfl⟩
 have HX1:=Lib.hid hx1;have HJ1:=Lib.hid hJ1;clear hW hx m1 m2 hJ hA' hk' hwk hJ' hx1 hJ1;go_wp2_with fail;refine (jbf f H.out hl).mono ?_;rintro e w2 ⟨v2,rfl,hrow,hx2⟩;have hxa:Ext w1 w2:=Ext.trans ((Ext.refl w1).alloc _) hx2;have hs2:=hx2.size;have HR:=Lib.hid hrow.slr;have HFR:Hid (∀ ad n c,v2=.slice (some ad) n c->w1.heap.size+1<=ad.block/\ad.block < w2.heap.size):=by
  intro ad n c e;have h1:=hrow.lt ad.block (by rw [e]; rfl);simpa using h1
 obtain ⟨bd,hbd⟩:=n_m (f.bound);have HBD:=Lib.hid hbd;have hbl:bd.length<=1099511627776:=by rw [<- hbd]; exact Nat.le_trans f.bound_len hl
 rw [hbd] at HR hrow;clear hbd;obtain ⟨A,c,rfl⟩:=HR.out.len
 have HQ0:Hid (ga1 (w.heap.size+1) w.heap.size (w.heap.size+1+1) w1.heap.size w2 (f.note,[]) w2):=Lib.hid ⟨by
  obtain ⟨l1,l2,l3⟩:=HJ1.out.lts
  exact HJ1.out.turn (hxa.below.block _ l1) (hxa.below.block _ l2) (hxa.below.block _ l3),⟨[],(qx.made w1).ext hx2,rfl,fun s=>rfl⟩,yf.refl _ _⟩
 have HXA:=Lib.hid (HX1.out.trans hxa);simp only [World.size_alloc] at hs2;clear hrow hx2 hxa HJ1;go_wp2_with fail
 go_loopw [21] (fun iv wr=>∃ k:Nat,k<=bd.length/\iv=.int .i64 k/\Hid (ga1 (w.heap.size+1) w.heap.size (w.heap.size+1+1) w1.heap.size w2 ((bd.take k).foldl vak (f.note,[])) wr)) (fun iv _=>bd.length - (intOf iv).toNat)
 case atStart=>exact ⟨0,Nat.zero_le _,rfl,HQ0⟩
 case round =>
  obtain ⟨k,hk,rfl,hq0⟩:=hrel;have HQ:=Lib.hid hq0.out;clear hq0;have hwr:=HQ.out.2.2.size
  by_cases hlt:k < bd.length
  · obtain ⟨ad,y,rfl,hc,rfl⟩:=SlR.get_ (SlR.keeps HR.out HQ.out.2.2 (fun ad n c e=>by
     have h1:=HFR.out ad n c e
     omega)) k hlt
    have HFO:=Lib.hid (ube vak (f.note,[]) bd k hlt);generalize bd[k]=s at *;obtain ⟨y,hy⟩:=n_m ((bd.take k).foldl vak (f.note,[]));rw [hy] at HQ HFO;clear hy;have HC1:=Lib.hid (gbm (by omega) (by omega) (by omega) 0 (fun _=>0) wr _ y.1 s (show xak (w.heap.size+1) w.heap.size (w.heap.size+1+1) (0+1) wr _ y.1 from HQ.out.1));go_wp2_with fail;refine HC1.out.mono ?_;rintro e w3 ⟨⟨v3,rfl⟩,own3,hj3,hk3⟩;obtain rfl:own3=fun i=>i=w.heap.size+1+1\/i=w.heap.size:=hj3.2.2.2
    have hs3:=hk3.size;have hq3:yag w3 w1.heap.size y.2:=HQ.out.2.1.block (hk3.block _ (by have:=HQ.out.2.1.lt; omega) (by omega));have HK3:Hid (yf (fun i=>i=w.heap.size+1+1\/i=w.heap.size\/i=w1.heap.size) w2 (fun i=>i=w.heap.size+1+1\/i=w.heap.size\/i=w1.heap.size) w3):=Lib.hid (HQ.out.2.2.trans (hk3.up fun i hi=>by omega));have HJ3:=Lib.hid hj3;have hlk:=hq3.look s;have HSQ:=Lib.hid hq3;clear hj3 hk3 hq3 HC1 hc;cases hh:has y.2 s
    · rw [hh] at hlk;obtain ⟨W4,hput,hM4,ho4⟩:=HSQ.out.put s;have HFIN:Hid (ga1 (w.heap.size+1) w.heap.size (w.heap.size+1+1) w1.heap.size w2 ((bd.take (k+1)).foldl vak (f.note,[])) W4):=Lib.hid (by
       rw [HFO.out];obtain ⟨l1,l2,l3⟩:=HJ3.out.lts;refine ⟨?_,hM4,HK3.out.trans (yf.only ho4 (by simp))⟩;have e1:(vak y s).1=yaf (fun _=>0) s y.1:=by unfold vak yaf; rw [hh]; simp
       rw [e1]
       exact HJ3.out.turn (ho4.block l1 (by omega)) (ho4.block l2 (by omega)) (ho4.block l3 (by omega)))
      clear hM4 ho4 hh;go_wp2_with fail
      go_roundw
      case rel=>exact ⟨k+1,by omega,by go_num,HFIN⟩
      case measure=>simp [intOf]; omega
    · rw [hh] at hlk;obtain ⟨hj4,r1,r2,ho4⟩:=HJ3.out.off (by omega) (by omega);obtain ⟨W4,hW4⟩:=n_m (w3.setCell ⟨w.heap.size+1+1,0,none⟩ (.bool false));rw [hW4] at hj4 ho4;have hq4:yag W4 w1.heap.size y.2:=HSQ.out.block (ho4.block HSQ.out.lt (by omega));obtain ⟨W5,hput,hM5,ho5⟩:=hq4.put s;have HFIN:Hid (ga1 (w.heap.size+1) w.heap.size (w.heap.size+1+1) w1.heap.size w2 ((bd.take (k+1)).foldl vak (f.note,[])) W5):=Lib.hid (by
       rw [HFO.out];obtain ⟨l1,l2,l3⟩:=hj4.lts;refine ⟨?_,hM5,(HK3.out.trans (yf.only ho4 (by simp))).trans (yf.only ho5 (by simp))⟩;have e1:(vak y s).1=((yaf (fun _=>0) s y.1).1,false):=by unfold vak yaf; rw [hh]; simp
       rw [e1]
       exact hj4.turn (ho5.block l1 (by omega)) (ho5.block l2 (by omega)) (ho5.block l3 (by omega)))
      clear hj4 ho4 hq4 hM5 ho5 hh;go_wp2_with fail
      go_roundw
      case rel=>exact ⟨k+1,by omega,by go_num,HFIN⟩
      case measure=>simp [intOf]; omega
  · have hke:k=bd.length:=by omega
    subst hke;rw [List.take_length] at HQ;have HXR:Hid (Ext w wr):=Lib.hid (HQ.out.2.2.ext HXA.out (fun i hi=>by omega));clear HR HFR HQ0 HXA HX1;go_wp2_with fail;refine (kbl f H.out hl).mono ?_;rintro e w3 ⟨v3,rfl,hrow,hx3⟩;have HR:=Lib.hid hrow.slr;have HFR:Hid (∀ ad n c,v3=.slice (some ad) n c->wr.heap.size<=ad.block):=by
     intro ad n c e;exact (hrow.lt ad.block (by rw [e]; rfl)).1
    obtain ⟨fr,hfr⟩:=n_m (f.free);obtain ⟨y,hy⟩:=n_m (bd.foldl vak (f.note,[]));have HCK:Hid (f.chk=if fr.foldl (zaj y.2) y.1.2=false then 7 else if 4000 < f.sz\/16 < f.atoms\/4 < y.1.1.length\/f.lim=false then 8 else 0):=Lib.hid (by unfold Fm.chk; rw [HBD.out,hfr,hy]);rw [hfr] at HR;rw [hy] at HQ;clear hfr hy hrow HBD;have hfl:fr.length<=9223372036854775807:=by
     obtain ⟨_,_,-,h1,h2,-⟩:=HR.out;omega
    obtain ⟨A3,c3,rfl⟩:=HR.out.len
    have HQ3:Hid (ga1 (w.heap.size+1) w.heap.size (w.heap.size+1+1) w1.heap.size w3 y w3):=Lib.hid ⟨by
     obtain ⟨l1,l2,l3⟩:=HQ.out.1.lts
     exact HQ.out.1.turn (hx3.below.block _ l1) (hx3.below.block _ l2) (hx3.below.block _ l3),HQ.out.2.1.ext hx3,yf.refl _ _⟩
    have HX3:=Lib.hid (HXR.out.trans hx3);have hs3:=hx3.size;clear hx3 HQ HXR;obtain ⟨⟨ns,vb⟩,qs⟩:=y;simp only at HCK;go_wp2_with fail
    go_loopw [37] (fun iv wx=>∃ k:Nat,k<=fr.length/\iv=.int .i64 k/\Hid (ga1 (w.heap.size+1) w.heap.size (w.heap.size+1+1) w1.heap.size w3 ((ns,(fr.take k).foldl (zaj qs) vb),qs) wx)) (fun iv _=>fr.length - (intOf iv).toNat)
    case atStart=>exact ⟨0,Nat.zero_le _,rfl,HQ3⟩
    case round =>
     obtain ⟨k,hk,rfl,hq0⟩:=hrel;have HQ:=Lib.hid hq0.out;clear hq0;have hwr2:=HQ.out.2.2.size
     by_cases hlt:k < fr.length
     · obtain ⟨ad,y,rfl,hc,rfl⟩:=SlR.get_ (SlR.keeps HR.out HQ.out.2.2 (fun ad n c e=>by
        have h1:=HFR.out ad n c e
        omega)) k hlt
       have HFO:=Lib.hid (ube (zaj qs) vb fr k hlt);generalize fr[k]=s at *;obtain ⟨vk,hvk⟩:=n_m ((fr.take k).foldl (zaj qs) vb);rw [hvk] at HQ HFO;clear hvk;have hlk:=HQ.out.2.1.look s;cases hh:has qs s
       · rw [hh] at hlk;have HFIN:Hid (ga1 (w.heap.size+1) w.heap.size (w.heap.size+1+1) w1.heap.size w3 ((ns,(fr.take (k+1)).foldl (zaj qs) vb),qs) wr):=Lib.hid (by
          rw [HFO.out,show zaj qs vk s=vk by unfold zaj; rw [hh]; simp]
          exact HQ.out)
         clear hh;go_wp2_with fail
         go_roundw
         case rel=>exact ⟨k+1,by omega,by go_num,HFIN⟩
         case measure=>simp [intOf]; omega
       · rw [hh] at hlk;obtain ⟨hj4,r1,r2,ho4⟩:=HQ.out.1.off (by omega) (by omega);obtain ⟨W4,hW4⟩:=n_m (wr.setCell ⟨w.heap.size+1+1,0,none⟩ (.bool false));rw [hW4] at hj4 ho4;have HFIN:Hid (ga1 (w.heap.size+1) w.heap.size (w.heap.size+1+1) w1.heap.size w3 ((ns,(fr.take (k+1)).foldl (zaj qs) vb),qs) W4):=Lib.hid (by
          rw [HFO.out,show zaj qs vk s=false by unfold zaj; rw [hh]; simp]
          exact ⟨hj4,HQ.out.2.1.block (ho4.block HQ.out.2.1.lt (by omega)),HQ.out.2.2.trans (yf.only ho4 (by simp))⟩)
         clear hj4 ho4 hh;go_wp2_with fail
         go_roundw
         case rel=>exact ⟨k+1,by omega,by go_num,HFIN⟩
         case measure=>simp [intOf]; omega
     · have hke:k=fr.length:=by omega
       subst hke;rw [List.take_length] at HQ;have HXR:Hid (Ext w wr):=Lib.hid (HQ.out.2.2.ext HX3.out (fun i hi=>by omega));have c1:=cell_of_one HQ.out.1.2.1;have c2:=HQ.out.1.1;have c3':=HQ.out.1.2.2.1;have hll:=c3'.len;simp only at c1 hll;have HSS:=Lib.hid c3';have l1:=HQ.out.1.lts.1;generalize fr.foldl (zaj qs) vb=vf at *;clear HR HFR HQ HX3 c3' HQ3;cases vf
       · have HF:Hid (f.chk=7):=Lib.hid (by rw [HCK.out,if_pos rfl]);go_wp2_with fail;go_ret;exact ⟨by rw [HF.out]; rfl,HXR.out⟩
       · have HCK2:Hid (f.chk=if 4000 < f.sz\/16 < f.atoms\/4 < ns.length\/f.lim=false then 8 else 0):=Lib.hid (by rw [HCK.out,if_neg (by simp)]);have HN:=Lib.hid (fun W'=>kb5 (W:=W') f hl H.out);have HA:=Lib.hid (fun W'=>vb8 (W:=W') f hl H.out);have HLM:=Lib.hid (fun W' (hx:Ext wr W')=>wbp (W:=W') hs f ((HX0.out.trans HXR.out).trans hx) H.out hok);clear HCK;generalize f.sz=z at *;generalize f.atoms=at_ at *;generalize f.lim=lm at *;generalize f.chk=res at *
         by_cases hz:4000 < z
         · have HF:Hid (res=8):=Lib.hid (by rw [HCK2.out,if_pos (.inl hz)]);have hz':(4000:Int) < z:=by omega
           go_wp2_with fail;refine (HN.out _).mono ?_;rintro e w4 ⟨rfl,x4⟩;have X4:=Lib.hid (HXR.out.trans x4);clear x4;go_wp2_with fail;go_ret;exact ⟨by rw [HF.out]; rfl,X4.out⟩
         · have hz':¬ (4000:Int) < z:=by omega
           go_wp2_with fail;refine (HN.out _).mono ?_;rintro e w4 ⟨rfl,x4⟩;have X4:=Lib.hid x4;clear x4
           by_cases ha:16 < at_
           · have HF:Hid (res=8):=Lib.hid (by rw [HCK2.out,if_pos (.inr (.inl ha))]);have ha':(16:Int) < at_:=by omega
             go_wp2_with fail;refine (HA.out _).mono ?_;rintro e w5 ⟨rfl,x5⟩;have X5:=Lib.hid (HXR.out.trans (X4.out.trans x5));clear x5;go_wp2_with fail;go_ret;exact ⟨by rw [HF.out]; rfl,X5.out⟩
           · have ha':¬ (16:Int) < at_:=by omega
             go_wp2_with fail;refine (HA.out _).mono ?_;rintro e w5 ⟨rfl,x5⟩;have X5:=Lib.hid (X4.out.trans x5);have hll5:=(HSS.out.ext X5.out).len;have c25:=(X5.out.cell (p:=⟨w.heap.size+1,0,none⟩) l1).trans c2;clear x5 c1 c2 hll
             by_cases hn:4 < ns.length
             · have HF:Hid (res=8):=Lib.hid (by rw [HCK2.out,if_pos (.inr (.inr (.inl hn)))]);have hn':(4:Int) < ns.length:=by omega
               go_wp2_with fail;go_ret;exact ⟨by rw [HF.out]; rfl,HXR.out.trans X5.out⟩
             · have hn':¬ (4:Int) < ns.length:=by omega
               cases lm
               · have HF:Hid (res=8):=Lib.hid (by rw [HCK2.out,if_pos (.inr (.inr (.inr rfl)))]);go_wp2_with fail;refine (HLM.out _ X5.out).mono ?_;rintro e w6 ⟨rfl,x6⟩;have X6:=Lib.hid (HXR.out.trans (X5.out.trans x6));clear x6;go_wp2_with fail;go_ret;exact ⟨by rw [HF.out]; rfl,X6.out⟩
               · have HF:Hid (res=0):=Lib.hid (by rw [HCK2.out,if_neg (by simp; omega)]);go_wp2_with fail;refine (HLM.out _ X5.out).mono ?_;rintro e w6 ⟨rfl,x6⟩;have X6:=Lib.hid (HXR.out.trans (X5.out.trans x6));clear x6;go_wp2_with fail;go_ret;exact ⟨by rw [HF.out]; rfl,X6.out⟩
end Go.Proofs.YtheefiaoimbeiaaGreatDoor

/- Layer 38: the state of a prenex.builder in memory, and what changes it. -/
namespace Go.Proofs.YtheefiaoimbeiaaGreatDoor
open Go.RowKit
theorem kak : yas 34 9 1 16 (.string ByteArray.empty) where
 und:=Tryz.underlying34
 info:=yay
 cells:=rfl
 pos:=by omega
 nodig:=by
  intro u hu;simp only [Value.cells,List.mem_singleton] at hu;rw [hu]
  rfl
theorem qby:(Tryz.prog.info? 4).map (fun i=>(i.zero,i.size,i.bytes))=some (some (.bool false),1,1):=by kernel_rfl
theorem xck : yas 41 4 1 1 (.bool false) where
 und:=Tryz.underlying41
 info:=qby
 cells:=rfl
 pos:=by omega
 nodig:=by
  intro u hu;simp only [Value.cells,List.mem_singleton] at hu;rw [hu]
  rfl
def bools (l:List Bool):List Value:=l.map Value.bool
theorem gbz (l:List Bool) (s:Bool):bools (l ++ [s])=bools l ++ [.bool s]:=by simp [bools]
def SNm (base:Nat) (W:World) (v:Value) (l:List ByteArray) (o:Option Nat):Prop:=(yj 9 1 base W v l.length (strs l)/\o=v.ownBlock)\/(l=[]/\o=none/\∃ A,v=.slice A 0 0)
theorem SNm.len {base:Nat} {W:World} {v:Value} {l:List ByteArray} {o:Option Nat} (h:SNm base W v l o):∃ A c,v=.slice A l.length c/\l.length<=c/\c<=9223372036854775807:=by
 rcases h with ⟨h,-⟩ | ⟨rfl,-,A,rfl⟩
 · exact h.len
 · exact ⟨A,0,rfl,by simp,by omega⟩
theorem SNm.own {base:Nat} {W:World} {v:Value} {l:List ByteArray} {o:Option Nat} (h:SNm base W v l o) {R:Nat} (hR:o=some R):base<=R/\R < W.heap.size:=by
 rcases h with ⟨h,rfl⟩ | ⟨-,rfl,-⟩
 · exact h.own hR
 · cases hR
theorem SNm.turn {base:Nat} {W W':World} {v:Value} {l:List ByteArray} {o:Option Nat} (h:SNm base W v l o) (hb:∀ R,o=some R->W'.heap[R]?=W.heap[R]?):SNm base W' v l o:=by
 rcases h with ⟨h,rfl⟩ | h
 · exact .inl ⟨h.turn hb,rfl⟩
 · exact .inr h
theorem SNm.ext {base:Nat} {W W':World} {v:Value} {l:List ByteArray} {o:Option Nat} (h:SNm base W v l o) (hx:Ext W W'):SNm base W' v l o:=h.turn fun R hR=>hx.below.block R (h.own hR).2
theorem SNm.push {base:Nat} {W:World} {v:Value} {l:List ByteArray} {o:Option Nat} (h:SNm base W v l o) (hbase:base<=W.heap.size) (s:ByteArray) (hlen:l.length+1<=1000000000) (ty:TypeId) :
 ∃ v4 w4,(Builtin.append_ #[34,34] ty #[v,.slice (some ⟨W.heap.size,0,none⟩) 1 1]).run Tryz.prog (W.alloc (.cells #[.string s] 9))=.ok v4 w4/\SNm base w4 v4 (l ++ [s]) v4.ownBlock/\W.grownBy w4 o/\(∀ v ds,ja W v ds->ja w4 v ds)/\(v4.ownBlock=o\/∃ g,v4.ownBlock=some g/\W.heap.size<=g):=by
 have key:∀ v,yj 9 1 base W v l.length (strs l)->∃ v4 w4,(Builtin.append_ #[34,34] ty #[v,.slice (some ⟨W.heap.size,0,none⟩) 1 1]).run Tryz.prog (W.alloc (.cells #[.string s] 9))=.ok v4 w4/\SNm base w4 v4 (l ++ [s]) v4.ownBlock/\W.grownBy w4 v.ownBlock/\(∀ v ds,ja W v ds->ja w4 v ds)/\(v4.ownBlock=v.ownBlock\/∃ g,v4.ownBlock=some g/\W.heap.size<=g):=by
  intro v h;obtain ⟨v4,w4,h1,h2,h3,h4,h5⟩:=yj.push kak h hbase [.string s] rfl (by
   intro u hu;rw [List.mem_singleton.1 hu]
   exact ⟨rfl,rfl⟩) (by omega) (by omega) ty
  refine ⟨v4,w4,h1,.inl ⟨?_,rfl⟩,h3,h4,h5.imp id fun e=>⟨_,e,by omega⟩⟩;rw [uau,List.length_append];exact h2
 rcases h with ⟨h,rfl⟩ | ⟨rfl,rfl,A,rfl⟩
 · exact key v h
 · obtain ⟨v4,w4,h1,h2,h3,h4,h5⟩:=key (.slice none 0 0) (yj.nil _ _ _ _);refine ⟨v4,w4,?_,h2,h3,h4,h5⟩;cases A with
   | none=>exact h1
   | some ad =>
     obtain ⟨i0,hi,hz0,hz1,hz2⟩:=info_parts kak.info;have hc:∀ j u,[Value.string s][j]?=some u->(W.alloc (.cells #[.string s] 9)).cell? ((⟨W.heap.size,0,none⟩:Addr).add j)=some u:=fun j u hu=>by
      rw [yx,Nat.zero_add,cell_of_row _ _ j _ _ (0,0) (heap_alloc_new W _)];simpa using hu
     have e1:=run_append_nil (P:=Tryz.prog) (W.alloc (.cells #[.string s] 9)) 34 ty 9 i0 _ kak.und hi hz0 ⟨W.heap.size,0,none⟩ 1 1 [.string s] (by rw [hz1]; rfl) hc (by omega) (by omega) (by rw [hz2]; omega);have e2:=run_append_grow (P:=Tryz.prog) (W.alloc (.cells #[.string s] 9)) 34 ty 9 i0 _ kak.und hi hz0 ad 0 0 [] (by simp) (by intro j v hv; simp at hv) ⟨W.heap.size,0,none⟩ 1 1 [.string s] (by rw [hz1]; rfl) hc (by omega) (by omega) (by rw [nextslicecap_zero (by omega),hz2]; omega);rw [e2,<- h1,e1];simp
theorem jb8 {base:Nat} {W:World} {v:Value} {l:List Bool} (h:yj 4 1 base W v l.length (bools l)) (hbase:base<=W.heap.size) (s:Bool) (hlen:l.length+1<=1000000000) (ty:TypeId) :
 ∃ v4 w4,(Builtin.append_ #[41,41] ty #[v,.slice (some ⟨W.heap.size,0,none⟩) 1 1]).run Tryz.prog (W.alloc (.cells #[.bool s] 4))=.ok v4 w4/\yj 4 1 base w4 v4 (l ++ [s]).length (bools (l ++ [s]))/\W.grownBy w4 v.ownBlock/\(∀ v ds,ja W v ds->ja w4 v ds)/\(v4.ownBlock=v.ownBlock\/∃ g,v4.ownBlock=some g/\W.heap.size<=g):=by
 obtain ⟨v4,w4,h1,h2,h3,h4,h5⟩:=yj.push xck h hbase [.bool s] rfl (by
  intro u hu;rw [List.mem_singleton.1 hu]
  exact ⟨rfl,rfl⟩) (by omega) (by omega) ty
 refine ⟨v4,w4,h1,?_,h3,h4,h5.imp id fun e=>⟨_,e,by omega⟩⟩;rw [gbz,List.length_append];exact h2
structure yu (own : Nat -> Prop) (W : World) (own' : Nat -> Prop) (W' : World) : Prop where
 keeps:yf own W own' W'
 nat:∀ v ds,ja W v ds->ja W' v ds
theorem yu.refl (own:Nat->Prop) (W:World):yu own W own W:=⟨yf.refl _ _,fun _ _ h=>h⟩
theorem yu.trans {o1 o2 o3:Nat->Prop} {a b c:World} (h:yu o1 a o2 b) (k:yu o2 b o3 c):yu o1 a o3 c:=⟨h.keeps.trans k.keeps,fun v ds hv=>k.nat v ds (h.nat v ds hv)⟩
theorem yu.of_ext {o:Nat->Prop} {a b:World} (h:Ext a b):yu o a o b:=⟨yf.of_ext h,fun _ _ hv=>hv.ext h⟩
theorem yu.size {o1 o2:Nat->Prop} {a b:World} (h:yu o1 a o2 b):a.heap.size<=b.heap.size:=h.keeps.size
theorem yu.ext {w0 a b:World} {o1 o2:Nat->Prop} (h:yu o1 a o2 b) (hx:Ext w0 a) (ho:∀ i,o1 i->w0.heap.size<=i):Ext w0 b:=h.keeps.ext hx ho
theorem yu.mx {o1 o2:Nat->Prop} {a b:World} (h:yu o1 a o2 b) {base:Nat} {m:Mx} {v:Value} (hm:MxV a (fun i=>base<=i/\¬ o1 i) m v):MxV b (fun i=>base<=i/\¬ o2 i) m v:=
 hm.turn_ h.size h.nat fun i hi hp=>⟨⟨hp.1,fun ho=>hp.2 (h.keeps.own i hi ho)⟩,h.keeps.block i hi hp.2⟩
theorem ybe {w w':World} {b:Nat} {es:Array MapEntry} {clock:Nat} (hb:w.heap[b]?=some (.map es clock)) (ho:Only b w w') {v:Value} {ds:List Nat} (h:ja w v ds):ja w' v ds:=by
 obtain ⟨A,c,e,h1,h2,h3,h4⟩:=h;refine ⟨A,c,e,h1,h2,h3,fun hd=>?_⟩;obtain ⟨ad,e4,hlt,hc⟩:=h4 hd;refine ⟨ad,e4,Nat.lt_of_lt_of_le hlt ho.size,fun j hj=>(ho.cell (p:=ad.add j) (by rw [jb]; exact hlt) ?_).trans (hc j hj)⟩;rw [jb];intro hbe;have h0:=hc 0 hd;rw [World.cell?,jb,hbe,hb] at h0;cases h0
structure zt (base gb bl bt : Nat) (W : World) (own : Nat -> Prop) (s : PSt) (tk : List ByteArray) : Prop where
 ex:∃ nv av on,W.cell? ⟨gb,0,none⟩=some nv/\W.cell? ⟨gb,1,none⟩=some av/\SNm base W nv s.names on/\yj 4 1 base W av s.all.length (bools s.all)/\(∀ i,own i ↔ i=gb\/i=bl\/i=bt\/on=some i\/av.ownBlock=some i)/\(∀ i,on=some i->av.ownBlock ≠ some i)/\∀ i,on=some i\/av.ownBlock=some i->i ≠ gb/\i ≠ bl/\i ≠ bt
 c2:W.cell? ⟨gb,2,none⟩=some (.map (some bl))
 c3:W.cell? ⟨gb,3,none⟩=some (.map (some bt))
 fr:∀ i,W.frozen? ⟨gb,i,none⟩=false
 lev:gac W bl s.lev
 tak:yag W bt tk
 lt:gb < W.heap.size/\bl < W.heap.size/\bt < W.heap.size/\base<=W.heap.size
 ne:gb ≠ bl/\gb ≠ bt/\bl ≠ bt
section
variable {base gb bl bt:Nat} {W W':World} {own own':Nat->Prop} {s:PSt} {tk:List ByteArray}
theorem zt.own_ (h:zt base gb bl bt W own s tk) {i:Nat} (hi:own i):i < W.heap.size/\(i=gb\/i=bl\/i=bt\/base<=i):=by
 obtain ⟨nv,av,on,-,-,h3,h4,h5,-,-⟩:=h.ex;have:=h.lt;rcases (h5 i).1 hi with e | e | e | e | e
 · omega
 · omega
 · omega
 · have:=h3.own e; omega
 · have:=h4.own e; omega
theorem zt.ext (h:zt base gb bl bt W own s tk) (hx:Ext W W'):zt base gb bl bt W' own s tk:=by
 obtain ⟨nv,av,on,h1,h2,h3,h4,h5,h6,hap⟩:=h.ex;have hl:=h.lt;have hc:∀ i,W'.cell? ⟨gb,i,none⟩=W.cell? ⟨gb,i,none⟩:=fun i=>hx.cell (p:=⟨gb,i,none⟩) (by show gb < _; omega)
 exact ⟨⟨nv,av,on,(hc 0).trans h1,(hc 1).trans h2,h3.ext hx,h4.ext hx,h5,h6,hap⟩,(hc 2).trans h.c2,(hc 3).trans h.c3,fun i=>(hx.frozen (p:=⟨gb,i,none⟩) (by show gb < _; omega)).trans (h.fr i),h.lev.ext hx,h.tak.ext hx,by have:=hx.size; omega,h.ne⟩
theorem zt.turn (h:zt base gb bl bt W own s tk) (hs:W.heap.size<=W'.heap.size) (hb:∀ i,own i->W'.heap[i]?=W.heap[i]?) (hf:∀ a,W'.frozen? a=W.frozen? a):zt base gb bl bt W' own s tk:=by
 obtain ⟨nv,av,on,h1,h2,h3,h4,h5,h6,hap⟩:=id h.ex;have hl:=h.lt;have hgb:=hb gb ((h5 gb).2 (.inl rfl));have hc:∀ i,W'.cell? ⟨gb,i,none⟩=W.cell? ⟨gb,i,none⟩:=fun i=>World.cell?_of_block (a:=⟨gb,i,none⟩) hgb
 exact ⟨⟨nv,av,on,(hc 0).trans h1,(hc 1).trans h2,h3.turn fun R e=>hb R ((h5 R).2 (.inr (.inr (.inr (.inl e))))),h4.turn fun R e=>hb R ((h5 R).2 (.inr (.inr (.inr (.inr e))))),h5,h6,hap⟩,(hc 2).trans h.c2,(hc 3).trans h.c3,fun i=>(hf _).trans (h.fr i),h.lev.block (hb bl ((h5 bl).2 (.inr (.inl rfl)))),h.tak.block (hb bt ((h5 bt).2 (.inr (.inr (.inl rfl))))),by omega,h.ne⟩
theorem zt.addName (h:zt base gb bl bt W own s tk) (hlen:s.names.length<=1000):∃ nA nc,W.cell? ⟨gb,0,none⟩=some (.slice nA s.names.length nc)/\∀ nm:ByteArray,∃ nB nd w4 own',(Builtin.append_ #[34,34] 34 #[.slice nA s.names.length nc,.slice (some ⟨W.heap.size,0,none⟩) 1 1]).run Tryz.prog (W.alloc (.cells #[.string nm] 9))=.ok (.slice nB (s.names.length+1) nd) w4 /\
 w4.cell? ⟨gb,0,none⟩=some (.slice nA s.names.length nc)/\w4.frozen? ⟨gb,0,none⟩=false/\zt base gb bl bt (w4.setCell ⟨gb,0,none⟩ (.slice nB (s.names.length+1) nd)) own' ⟨s.names ++ [nm],s.all,s.lev⟩ tk/\yu own W own' (w4.setCell ⟨gb,0,none⟩ (.slice nB (s.names.length+1) nd)):=by
 obtain ⟨nv,av,on,h1,h2,h3,h4,h5,h6,hap⟩:=id h.ex;obtain ⟨nA,nc,rfl,-⟩:=h3.len;refine ⟨nA,nc,h1,fun nm=>?_⟩;have hl:=h.lt;have hne:=h.ne;obtain ⟨v4,w4,hrun,g1,g2,g3,g4⟩:=h3.push hl.2.2.2 nm (by omega) 34;obtain ⟨nB,nd,e4,-⟩:=g1.len;rw [List.length_append] at e4;have e4':v4=.slice nB (s.names.length+1) nd:=e4;subst e4';have hon:∀ i,on=some i->base<=i/\i < W.heap.size:=fun i e=>h3.own e
 have hav:∀ i,av.ownBlock=some i->base<=i/\i < W.heap.size:=fun i e=>h4.own e
 have hblk:∀ i,i < W.heap.size->on ≠ some i->w4.heap[i]?=W.heap[i]?:=fun i hi hn=>World.grownBy.block g2 i hi (fun e=>hn e.symm)
 have hsz:=World.grownBy.size g2;have hgb:w4.heap[gb]?=W.heap[gb]?:=hblk gb (by omega) (fun e=>(hap gb (.inl e)).1 rfl);have hc4:∀ i,w4.cell? ⟨gb,i,none⟩=W.cell? ⟨gb,i,none⟩:=fun i=>World.cell?_of_block (a:=⟨gb,i,none⟩) hgb
 have hf4:∀ i,w4.frozen? ⟨gb,i,none⟩=false:=fun i=>(World.frozen?_of_block (a:=⟨gb,i,none⟩) hgb).trans (h.fr i)
 have hb5:∀ i,i ≠ gb->(w4.setCell ⟨gb,0,none⟩ (.slice nB (s.names.length+1) nd)).heap[i]?=w4.heap[i]?:=fun i hi=>Below.heap_setCell _ _ _ i hi
 have hc5:∀ i,i ≠ 0->(w4.setCell ⟨gb,0,none⟩ (.slice nB (s.names.length+1) nd)).cell? ⟨gb,i,none⟩=W.cell? ⟨gb,i,none⟩:=fun i hi=>(World.cell?_setCell_other _ _ _ _ (by intro e; injection e; omega)).trans (hc4 i)
 have hs5:(w4.setCell ⟨gb,0,none⟩ (.slice nB (s.names.length+1) nd)).heap.size=w4.heap.size:=by simp [World.setCell]
 have hnew:∀ i,(Value.slice nB (s.names.length+1) nd).ownBlock=some i->i < W.heap.size->on=some i:=fun i e hi=>by
  rcases g4 with g4 | ⟨g,g4,hg⟩
  · rw [<- g4]; exact e
  · have:=Option.some.inj (g4.symm.trans e); omega
 have hnb:∀ i,(Value.slice nB (s.names.length+1) nd).ownBlock=some i->i ≠ gb/\i ≠ bl/\i ≠ bt:=fun i e=>by
  by_cases hi:i < W.heap.size
  · exact hap i (.inl (hnew i e hi))
  · omega
 refine ⟨nB,nd,w4,fun i=>i=gb\/i=bl\/i=bt\/(Value.slice nB (s.names.length+1) nd).ownBlock=some i\/av.ownBlock=some i,hrun,(hc4 0).trans h1,hf4 0,⟨⟨_,av,_,World.cell?_setCell_same _ _ _ ((hc4 0).trans h1),(hc5 1 (by omega)).trans h2,g1.turn fun R e=>hb5 R (hnb R e).1,h4.turn fun R e=>(hb5 R (hap R (.inr e)).1).trans (hblk R (hav R e).2 fun e2=>h6 R e2 e),fun i=>Iff.rfl,fun i e e2=>?_,fun i e=>e.elim (hnb i) fun e=>hap i (.inr e)⟩,(hc5 2 (by omega)).trans h.c2,(hc5 3 (by omega)).trans h.c3,fun i=>by rw [World.frozen?_setCell]; exact hf4 i,h.lev.block ((hb5 bl (Ne.symm hne.1)).trans (hblk bl (by omega) fun e=>(hap bl (.inl e)).2.1 rfl)),h.tak.block ((hb5 bt (Ne.symm hne.2.1)).trans (hblk bt (by omega) fun e=>(hap bt (.inl e)).2.2 rfl)),by rw [hs5]; omega,h.ne⟩,⟨⟨(show _=_ from World.grownBy.os (w':=w4) g2),(show _=_ from World.grownBy.tape (w':=w4) g2),(show _=_ from World.grownBy.output (w':=w4) g2),by rw [hs5]; exact hsz,fun i hi hn=>?_,fun i hi ho=>?_⟩,fun v ds hv=>(g3 v ds hv).box ((hc4 0).trans h1) rfl _⟩⟩
 · exact h6 i (hnew i e (hav i e2).2) e2
 · have hn':=fun x=>hn ((h5 i).2 x)
   rw [hb5 i (fun e=>hn' (.inl e))];exact hblk i hi fun e=>hn' (.inr (.inr (.inr (.inl e))))
 · refine (h5 i).2 ?_;rcases ho with e | e | e | e | e
   · exact .inl e
   · exact .inr (.inl e)
   · exact .inr (.inr (.inl e))
   · exact .inr (.inr (.inr (.inl (hnew i e hi))))
   · exact .inr (.inr (.inr (.inr e)))
theorem zt.addAll (h:zt base gb bl bt W own s tk) (hlen:s.all.length<=1000):∃ nA nc,W.cell? ⟨gb,1,none⟩=some (.slice nA s.all.length nc)/\∀ b:Bool,∃ nB nd w4 own',(Builtin.append_ #[41,41] 41 #[.slice nA s.all.length nc,.slice (some ⟨W.heap.size,0,none⟩) 1 1]).run Tryz.prog (W.alloc (.cells #[.bool b] 4))=.ok (.slice nB (s.all.length+1) nd) w4 /\
 w4.cell? ⟨gb,1,none⟩=some (.slice nA s.all.length nc)/\w4.frozen? ⟨gb,1,none⟩=false/\zt base gb bl bt (w4.setCell ⟨gb,1,none⟩ (.slice nB (s.all.length+1) nd)) own' ⟨s.names,s.all ++ [b],s.lev⟩ tk/\yu own W own' (w4.setCell ⟨gb,1,none⟩ (.slice nB (s.all.length+1) nd)):=by
 obtain ⟨nv,av,on,h1,h2,h3,h4,h5,h6,hap⟩:=id h.ex;obtain ⟨nA,nc,rfl,-⟩:=h4.len;refine ⟨nA,nc,h2,fun b=>?_⟩;have hl:=h.lt;have hne:=h.ne;obtain ⟨v4,w4,hrun,g1,g2,g3,g4⟩:=jb8 h4 hl.2.2.2 b (by omega) 41;obtain ⟨nB,nd,e4,-⟩:=g1.len;rw [List.length_append] at e4;have e4':v4=.slice nB (s.all.length+1) nd:=e4;subst e4';have hon:∀ i,on=some i->base<=i/\i < W.heap.size:=fun i e=>h3.own e
 have hav:∀ i,(Value.slice nA s.all.length nc).ownBlock=some i->base<=i/\i < W.heap.size:=fun i e=>h4.own e
 have hblk:∀ i,i < W.heap.size->(Value.slice nA s.all.length nc).ownBlock ≠ some i->w4.heap[i]?=W.heap[i]?:=fun i hi hn=>World.grownBy.block g2 i hi (fun e=>hn e.symm)
 have hsz:=World.grownBy.size g2;have hgb:w4.heap[gb]?=W.heap[gb]?:=hblk gb (by omega) (fun e=>(hap gb (.inr e)).1 rfl);have hc4:∀ i,w4.cell? ⟨gb,i,none⟩=W.cell? ⟨gb,i,none⟩:=fun i=>World.cell?_of_block (a:=⟨gb,i,none⟩) hgb
 have hf4:∀ i,w4.frozen? ⟨gb,i,none⟩=false:=fun i=>(World.frozen?_of_block (a:=⟨gb,i,none⟩) hgb).trans (h.fr i)
 have hb5:∀ i,i ≠ gb->(w4.setCell ⟨gb,1,none⟩ (.slice nB (s.all.length+1) nd)).heap[i]?=w4.heap[i]?:=fun i hi=>Below.heap_setCell _ _ _ i hi
 have hc5:∀ i,i ≠ 1->(w4.setCell ⟨gb,1,none⟩ (.slice nB (s.all.length+1) nd)).cell? ⟨gb,i,none⟩=W.cell? ⟨gb,i,none⟩:=fun i hi=>(World.cell?_setCell_other _ _ _ _ (by intro e; injection e; omega)).trans (hc4 i)
 have hs5:(w4.setCell ⟨gb,1,none⟩ (.slice nB (s.all.length+1) nd)).heap.size=w4.heap.size:=by simp [World.setCell]
 have hnew:∀ i,(Value.slice nB (s.all.length+1) nd).ownBlock=some i->i < W.heap.size->(Value.slice nA s.all.length nc).ownBlock=some i:=fun i e hi=>by
  rcases g4 with g4 | ⟨g,g4,hg⟩
  · rw [<- g4]; exact e
  · have:=Option.some.inj (g4.symm.trans e); omega
 have hnb:∀ i,(Value.slice nB (s.all.length+1) nd).ownBlock=some i->i ≠ gb/\i ≠ bl/\i ≠ bt:=fun i e=>by
  by_cases hi:i < W.heap.size
  · exact hap i (.inr (hnew i e hi))
  · omega
 refine ⟨nB,nd,w4,fun i=>i=gb\/i=bl\/i=bt\/on=some i\/(Value.slice nB (s.all.length+1) nd).ownBlock=some i,hrun,(hc4 1).trans h2,hf4 1,⟨⟨nv,_,on,(hc5 0 (by omega)).trans h1,World.cell?_setCell_same _ _ _ ((hc4 1).trans h2),h3.turn fun R e=>(hb5 R (hap R (.inl e)).1).trans (hblk R (hon R e).2 fun e2=>h6 R e e2),g1.turn fun R e=>hb5 R (hnb R e).1,fun i=>Iff.rfl,fun i e e2=>?_,fun i e=>e.elim (fun e=>hap i (.inl e)) (hnb i)⟩,(hc5 2 (by omega)).trans h.c2,(hc5 3 (by omega)).trans h.c3,fun i=>by rw [World.frozen?_setCell]; exact hf4 i,h.lev.block ((hb5 bl (Ne.symm hne.1)).trans (hblk bl (by omega) fun e=>(hap bl (.inr e)).2.1 rfl)),h.tak.block ((hb5 bt (Ne.symm hne.2.1)).trans (hblk bt (by omega) fun e=>(hap bt (.inr e)).2.2 rfl)),by rw [hs5]; omega,h.ne⟩,⟨⟨(show _=_ from World.grownBy.os (w':=w4) g2),(show _=_ from World.grownBy.tape (w':=w4) g2),(show _=_ from World.grownBy.output (w':=w4) g2),by rw [hs5]; exact hsz,fun i hi hn=>?_,fun i hi ho=>?_⟩,fun v ds hv=>(g3 v ds hv).box ((hc4 1).trans h2) rfl _⟩⟩
 · exact h6 i e (hnew i e2 (hon i e).2)
 · have hn':=fun x=>hn ((h5 i).2 x)
   rw [hb5 i (fun e=>hn' (.inl e))];exact hblk i hi fun e=>hn' (.inr (.inr (.inr (.inr e))))
 · refine (h5 i).2 ?_;rcases ho with e | e | e | e | e
   · exact .inl e
   · exact .inr (.inl e)
   · exact .inr (.inr (.inl e))
   · exact .inr (.inr (.inr (.inl e)))
   · exact .inr (.inr (.inr (.inr (hnew i e hi))))
theorem zt.addLevel (h:zt base gb bl bt W own s tk) (nm:ByteArray) (n:Int):∃ w4,(Instr.mapUpdate 90 (.map (some bl)) (.string nm) (.int .i64 n)).run Tryz.prog W=.ok () w4/\zt base gb bl bt w4 own ⟨s.names,s.all,fun t=>if t=nm then n else s.lev t⟩ tk/\yu own W own w4/\Only bl W w4:=by
 obtain ⟨nv,av,on,h1,h2,h3,h4,h5,h6,hap⟩:=id h.ex;have hl:=h.lt;have hne:=h.ne;obtain ⟨w4,hrun,g1,g2⟩:=h.lev.put nm n;have hon:∀ i,on=some i->base<=i/\i < W.heap.size:=fun i e=>h3.own e
 have hav:∀ i,av.ownBlock=some i->base<=i/\i < W.heap.size:=fun i e=>h4.own e
 have hblk:∀ i,i < W.heap.size->i ≠ bl->w4.heap[i]?=W.heap[i]?:=fun i hi hn=>g2.block hi hn
 have hc4:∀ i,w4.cell? ⟨gb,i,none⟩=W.cell? ⟨gb,i,none⟩:=fun i=>World.cell?_of_block (a:=⟨gb,i,none⟩) (hblk gb (by omega) hne.1)
 have hs:=g2.size;obtain ⟨ls,⟨es,clock,hmap,-⟩,-⟩:=id h.lev;refine ⟨w4,hrun,⟨⟨nv,av,on,(hc4 0).trans h1,(hc4 1).trans h2,h3.turn fun R e=>hblk R (hon R e).2 (hap R (.inl e)).2.1,h4.turn fun R e=>hblk R (hav R e).2 (hap R (.inr e)).2.1,h5,h6,hap⟩,(hc4 2).trans h.c2,(hc4 3).trans h.c3,fun i=>(World.frozen?_of_block (a:=⟨gb,i,none⟩) (hblk gb (by omega) hne.1)).trans (h.fr i),g1,h.tak.block (hblk bt (by omega) (Ne.symm hne.2.2)),by omega,h.ne⟩,⟨⟨World.grownBy.os g2.g,World.grownBy.tape g2.g,World.grownBy.output g2.g,hs,fun i hi hn=>hblk i hi fun e=>hn ((h5 i).2 (.inr (.inl e))),fun i _ ho=>ho⟩,fun v ds hv=>ybe hmap g2 hv⟩,g2⟩
theorem zt.addTaken (h:zt base gb bl bt W own s tk) (nm:ByteArray):∃ w4,(Instr.mapUpdate 91 (.map (some bt)) (.string nm) (.bool true)).run Tryz.prog W=.ok () w4/\zt base gb bl bt w4 own s (wat tk nm)/\yu own W own w4:=by
 obtain ⟨nv,av,on,h1,h2,h3,h4,h5,h6,hap⟩:=id h.ex;have hl:=h.lt;have hne:=h.ne;obtain ⟨w4,hrun,g1,g2⟩:=h.tak.put nm;have hon:∀ i,on=some i->base<=i/\i < W.heap.size:=fun i e=>h3.own e
 have hav:∀ i,av.ownBlock=some i->base<=i/\i < W.heap.size:=fun i e=>h4.own e
 have hblk:∀ i,i < W.heap.size->i ≠ bt->w4.heap[i]?=W.heap[i]?:=fun i hi hn=>g2.block hi hn
 have hc4:∀ i,w4.cell? ⟨gb,i,none⟩=W.cell? ⟨gb,i,none⟩:=fun i=>World.cell?_of_block (a:=⟨gb,i,none⟩) (hblk gb (by omega) hne.2.1)
 have hs:=g2.size;obtain ⟨ls,⟨es,clock,hmap,-⟩,-⟩:=id h.tak;refine ⟨w4,hrun,⟨⟨nv,av,on,(hc4 0).trans h1,(hc4 1).trans h2,h3.turn fun R e=>hblk R (hon R e).2 (hap R (.inl e)).2.2,h4.turn fun R e=>hblk R (hav R e).2 (hap R (.inr e)).2.2,h5,h6,hap⟩,(hc4 2).trans h.c2,(hc4 3).trans h.c3,fun i=>(World.frozen?_of_block (a:=⟨gb,i,none⟩) (hblk gb (by omega) hne.2.1)).trans (h.fr i),h.lev.block (hblk bl (by omega) hne.2.2),g1,by omega,h.ne⟩,⟨⟨World.grownBy.os g2.g,World.grownBy.tape g2.g,World.grownBy.output g2.g,hs,fun i hi hn=>hblk i hi fun e=>hn ((h5 i).2 (.inr (.inr (.inl e)))),fun i _ ho=>ho⟩,fun v ds hv=>ybe hmap g2 hv⟩⟩
end
def yar (base gb bl bt:Nat) (own:Nat->Prop) (W:World) (tk:List ByteArray) (r:Mx × PSt) (e:Ending) (W':World):Prop:=
 ∃ v own',e=.returned v/\MxV W' (fun i=>W.heap.size<=i/\¬ own' i) r.1 v/\zt base gb bl bt W' own' r.2 tk/\yu own W own' W'
theorem kcn {base gb bl bt : Nat} {W Wf W' : World} {g : Nat} {m : Mx} {v : Value} {own own2 q : Nat -> Prop} {s : PSt} {tk : List ByteArray} (hn : ∀ v ds, ja Wf v ds -> ja W' v ds) (hh : ∀ b, b ≠ g -> W'.heap[b]? = Wf.heap[b]?) (hsz : W'.heap.size = Wf.heap.size) (hfr : ∀ a, W'.frozen? a = Wf.frozen? a) (ho1 : W'.os = Wf.os) (ho2 : W'.tape = Wf.tape) (ho3 : W'.output = Wf.output)
 (hm:yu own W own2 Wf) (hg:W.heap.size<=g) (hgo:¬ own2 g) (hb:zt base gb bl bt Wf own2 s tk) (hp:MxV Wf q m v) (hq:∀ b,b < Wf.heap.size->q b->b ≠ g/\W.heap.size<=b/\¬ own2 b):yar base gb bl bt own W tk (m,s) (.returned v) W':=by
 have h1:MxV W' (fun i=>W.heap.size<=i/\¬ own2 i) m v:=MxV.turn_ (by omega) hn (fun b hlt hqb=>⟨(hq b hlt hqb).2,hh b (hq b hlt hqb).1⟩) hp;have h2:zt base gb bl bt W' own2 s tk:=hb.turn (by omega) (fun i hi=>hh i fun e=>hgo (e ▸ hi)) hfr;have h3:yf own W own2 W':=⟨ho1.trans hm.keeps.os,ho2.trans hm.keeps.tape,ho3.trans hm.keeps.output,by have:=hm.size; omega,fun i hi hno=>(hh i (by omega)).trans (hm.keeps.block i hi hno),fun i hi ho=>hm.keeps.own i hi ho⟩;exact ⟨v,own2,rfl,h1,h2,⟨h3,fun v ds hv=>hn v ds (hm.nat v ds hv)⟩⟩
theorem gaq {base gb bl bt : Nat} {W Wf : World} {g : Nat} {m : Mx} {own own2 q : Nat -> Prop} {s : PSt} {tk : List ByteArray} {A0 A1 K : Option Addr} {n0 c0 n1 c1 n2 c2 : Nat} (hm : yu own W own2 Wf) (hg : W.heap.size <= g) (hgo : ¬ own2 g) (hz : zn Wf g) (hb : zt base gb bl bt Wf own2 s tk)
 (hp:MxV Wf q m (mxV m (.slice A0 n0 c0) (.slice A1 n1 c1) (.slice K n2 c2))) (hq:∀ b,b < Wf.heap.size->q b->b ≠ g/\W.heap.size<=b/\¬ own2 b) :
 yar base gb bl bt own W tk (m,s) (.returned (mxV m (.slice A0 n0 c0) (.slice A1 n1 c1) (.slice K n2 c2))) (((((((Wf.setCell ⟨g,0,none⟩ (.int .i64 m.kind)).setCell ⟨g,1,none⟩ (.int .i64 m.rel)).setCell ⟨g,2,none⟩ (.int .i64 m.p.lv)).setCell ⟨g,3,none⟩ (.bool m.p.neg)).setCell ⟨g,4,none⟩ (.slice A0 n0 c0)).setCell ⟨g,5,none⟩ (.slice A1 n1 c1)).setCell ⟨g,6,none⟩ (.slice K n2 c2)):=
 have hbx:=qa9 (m':=m) (B0:=A0) (m0:=n0) (d0:=c0) (B1:=A1) (m1:=n1) (d1:=c1) (K1:=K) (m2:=n2) (d2:=c2) hz.1
 kcn hbx.1 hbx.2 (by simp [World.setCell]) (fun a=>by simp only [World.frozen?_setCell]) (by simp only [World.setCell]) (by simp only [World.setCell]) (by simp only [World.setCell]) hm hg hgo hb hp hq
end Go.Proofs.YtheefiaoimbeiaaGreatDoor

/- Layer 38: prenex.relation, complement; what builder.poly is to do. -/
namespace Go.Proofs.YtheefiaoimbeiaaGreatDoor
open Go.RowKit
attribute [local go_sem] xaa xy gaa zaa kaa jaa yaa yt qy qaa uaa yad qm vaa ut
theorem xcd (r:Int) (w:World):Calls Tryz.prog 63 #[.int .i64 r] w fun e w'=>e=.returned (.int .i64 (yal r))/\w'=w:=by
 unfold yal
 by_cases h1:r < 1
 · rw [if_pos (.inl h1)];go_enter Tryz.func63,Tryz.ntmps63;go_wp2_with fail;go_ret;exact ⟨rfl,rfl⟩
 · by_cases h2:6 < r
   · rw [if_pos (.inr h2)];go_enter Tryz.func63,Tryz.ntmps63;go_wp2_with fail;go_ret;exact ⟨rfl,rfl⟩
   · rw [if_neg (by omega)];go_enter Tryz.func63,Tryz.ntmps63;go_wp2_with fail;go_ret;exact ⟨rfl,rfl⟩
theorem wb7 (r:Int) (w:World):Calls Tryz.prog 64 #[.int .i64 r] w fun e w'=>e=.returned (.int .i64 (za1 r))/\w'=w:=by
 unfold za1;rcases (show r=1\/r=2\/r=4\/r=5\/r=6\/(r ≠ 1/\r ≠ 2/\r ≠ 4/\r ≠ 5/\r ≠ 6) by omega) with rfl | rfl | rfl | rfl | rfl | ⟨h1,h2,h3,h4,h5⟩
 all_goals
  first | rw [if_neg h1,if_neg h2,if_neg h3,if_neg h4,if_neg h5] | skip
  first | (have k1 : (r == 1) = false := by simp [h1]
           have k2:(r == 2)=false:=by simp [h2]
           have k3:(r == 4)=false:=by simp [h3]
           have k4:(r == 5)=false:=by simp [h4]
           have k5:(r == 6)=false:=by simp [h5]
           clear h1 h2 h3 h4 h5) | skip
  go_enter Tryz.func64,Tryz.ntmps64;go_wp2_with fail;go_ret;exact ⟨rfl,rfl⟩
def vbn (W:World) (gb bl:Nat) (g:ByteArray->Int):Prop:=W.cell? ⟨gb,2,none⟩=some (.map (some bl))/\gb < W.heap.size/\gac W bl g
theorem vbn.ext {W W':World} {gb bl:Nat} {g:ByteArray->Int} (h:vbn W gb bl g) (hx:Ext W W'):vbn W' gb bl g:=⟨(hx.cell (p:=⟨gb,2,none⟩) h.2.1).trans h.1,Nat.lt_of_lt_of_le h.2.1 hx.size,h.2.2.ext hx⟩
section
variable {w0:World} {L gb bl:Nat} {g:ByteArray->Int}
def jab (w0:World) (L gb bl:Nat) (g:ByteArray->Int) (t:Tm):Prop:=∀ (v:Value) (W:World),Ext w0 W->TmV w0 L t v->vbn W gb bl g->t.wt<=400 ->
 Calls Tryz.prog 66 #[.pointer (some ⟨gb,0,none⟩),v] W (ji (fun b=>W.heap.size<=b) (yl g t) W)
theorem Bd.fit400 {p:Pl} {W:Nat} (h:Bd p W) (hw:W<=400):Fit p 400 401:=(h.mono hw).fit
theorem zb1 {a b:Tm} (h:ui (jc a.wt b.wt+1)<=400):a.wt<=400/\b.wt<=400:=by
 have h1:=wak h;have hm:a.wt<=jc a.wt b.wt/\b.wt<=jc a.wt b.wt:=by unfold jc; split <;> omega
 omega
theorem gbt {a b:Tm} (h:ui (a.wt+b.wt)<=400):a.wt<=400/\b.wt<=400:=by
 have h1:=wak h;have:=a.wt_bd; have:=b.wt_bd;omega
end
end Go.Proofs.YtheefiaoimbeiaaGreatDoor
