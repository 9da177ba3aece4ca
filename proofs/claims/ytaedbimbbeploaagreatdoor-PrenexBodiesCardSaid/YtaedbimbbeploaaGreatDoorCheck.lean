/- Layer 34: formula.Check. -/
import Derived.Test.YtaedbimbbeploaaGreatDoorMb24
import Derived.Test.YtaedbimbbeploaaGreatDoorMb25
import Derived.Test.YtaedbimbbeploaaGreatDoorValid
set_option linter.unusedSimpArgs false
set_option linter.unusedVariables false

set_option maxRecDepth 100000
set_option maxHeartbeats 8000000
namespace Go.Proofs.YtaedbimbbeploaaGreatDoor
open Go.RowKit
theorem zq.len {P:Program} {t k e:TypeId} {w:World} {b:Nat} {l:List (ByteArray × Value)} (h:zq w b l) (ht:P.underlying t=some (.map k e)) (ty:TypeId):(Builtin.len_ #[t] ty #[.map (some b)]).run P w=.ok (.int .i64 l.length) w:=by
 obtain ⟨es,clock,hb,he⟩:=h;have:es.size=l.length:=by simpa using congrArg List.length he
 rw [<- this];simp [Builtin.len_,run_underlying ht,MapKept.run_getObj_map hb,goInt,Result.andThen]
theorem wci (l:List (ByteArray × Value)) (s:ByteArray) (u:Value):(qai l s u).length=if (qaa l s).isSome then l.length else l.length+1:=by
 induction l with
 | nil=>rfl
 | cons x l ih =>
   rw [qai,qaa]
   by_cases h:s=x.1
   · simp [h]
   · simp only [if_neg h,List.length_cons,ih]
     split <;> rfl
def xag (w:World) (b:Nat) (l:List ByteArray):Prop:=∃ ls,zq w b ls/\ls.length=l.length/\∀ s,qaa ls s=if has l s then some (.bool true) else none
theorem xag.block {w w':World} {b:Nat} {l:List ByteArray} (h:xag w b l) (hb:w'.heap[b]?=w.heap[b]?):xag w' b l:=by
 obtain ⟨ls,h1,h2⟩:=h;exact ⟨ls,h1.block hb,h2⟩
theorem xag.lt {w:World} {b:Nat} {l:List ByteArray} (h:xag w b l):b < w.heap.size:=by
 obtain ⟨ls,h1,h2⟩:=h;exact h1.lt
theorem xag.ext {w w':World} {b:Nat} {l:List ByteArray} (h:xag w b l) (hx:Ext w w'):xag w' b l:=h.block (hx.below.block b h.lt)
def zaw (l:List ByteArray) (s:ByteArray):List ByteArray:=if has l s then l else l ++ [s]
theorem xco (l:List ByteArray) (s t:ByteArray):has (zaw l s) t=(has l t || decide (s=t)):=by
 unfold zaw
 by_cases h:has l s=true
 · rw [if_pos h]
   by_cases e:s=t
   · subst e; simp [h]
   · simp [e]
 · rw [if_neg h,gbp]
theorem xag.put {w:World} {b:Nat} {l:List ByteArray} (h:xag w b l) (s:ByteArray):∃ w',(Instr.mapUpdate 106 (.map (some b)) (.string s) (.bool true)).run Tryz.prog w=.ok () w'/\xag w' b (zaw l s)/\Only b w w':=by
 obtain ⟨ls,h1,h2,h3⟩:=h;obtain ⟨w',h4,h5,h6⟩:=h1.put (P:=Tryz.prog) Tryz.underlying106 Tryz.underlying9 s (.bool true);refine ⟨w',h4,⟨_,h5,?_,fun t=>?_⟩,h6⟩
 · rw [wci,h3];unfold zaw
   by_cases h:has l s=true
   · simp [h,h2]
   · simp [h,h2]
 · rw [ga0,xco,h3]
   by_cases e:t=s
   · simp [e]
   · have e':¬ s=t:=fun x=>e x.symm
     simp [e,e']
theorem xag.look {w:World} {b:Nat} {l:List ByteArray} (h:xag w b l) (s:ByteArray):(Instr.lookup 106 (.map (some b)) (.string s) false).run Tryz.prog w=.ok (.bool (has l s)) w:=by
 obtain ⟨ls,h1,h2,h3⟩:=h;have:=h1.look (P:=Tryz.prog) Tryz.underlying106 Tryz.underlying9 zbh s false;rw [this,if_neg (by simp),h3]
 split <;> simp_all
theorem xag.len {w:World} {b:Nat} {l:List ByteArray} (h:xag w b l):(Builtin.len_ #[106] 3 #[.map (some b)]).run Tryz.prog w=.ok (.int .i64 l.length) w:=by
 obtain ⟨ls,h1,h2,h3⟩:=h;rw [<- h2];exact h1.len (P:=Tryz.prog) Tryz.underlying106 _
def jam (_:ByteArray->Int) (s:ByteArray) (x:List ByteArray × Bool):List ByteArray × Bool:=(zaw x.1 s,x.2 && yt s)
def jaj (bn Mn bv:Nat) (_:Nat) (W:World) (own:Nat->Prop) (x:List ByteArray × Bool):Prop:=
 W.cell? ⟨bn,0,none⟩=some (.map (some Mn))/\W.heap[bv]?=some (.cells #[.bool x.2] 4 (0,0))/\xag W Mn x.1/\own=fun i=>i=bv\/i=Mn
theorem jaj.turn {bn Mn bv b b':Nat} {W W':World} {own:Nat->Prop} {x:List ByteArray × Bool} (h:jaj bn Mn bv b W own x) (h1:W'.heap[bn]?=W.heap[bn]?) (h2:W'.heap[bv]?=W.heap[bv]?) (h3:W'.heap[Mn]?=W.heap[Mn]?):jaj bn Mn bv b' W' own x:=
 ⟨(World.cell?_of_block h1).trans h.1,h2.trans h.2.1,h.2.2.1.block h3,h.2.2.2⟩
theorem jaj.lts {bn Mn bv b:Nat} {W:World} {own:Nat->Prop} {x:List ByteArray × Bool} (h:jaj bn Mn bv b W own x):bn < W.heap.size/\bv < W.heap.size/\Mn < W.heap.size:=by
 refine ⟨?_,lt_of_block h.2.1,h.2.2.1.lt⟩;rcases Nat.lt_or_ge bn W.heap.size with hlt | hge
 · exact hlt
 · have:=h.1; simp [World.cell?,Array.getElem?_eq_none hge] at this
section
variable {bn Mn bv:Nat}
theorem ubh (h1:bn ≠ Mn) (h2:bn ≠ bv) (h3:bv ≠ Mn) {b:Nat} {W W1:World} {own:Nat->Prop} {x:List ByteArray × Bool} {s:ByteArray} (hJ:jaj bn Mn bv (b+1) W own x) (hM:xag W1 Mn (zaw x.1 s)) (ho:Only Mn W W1) (v:Bool) :
 (∃ own',jaj bn Mn bv b (W1.setCell ⟨bv,0,none⟩ (.bool v)) own' (zaw x.1 s,v)/\xe own W own' (W1.setCell ⟨bv,0,none⟩ (.bool v)))/\W1.cell? ⟨bv,0,none⟩=some (.bool x.2)/\W1.frozen? ⟨bv,0,none⟩=false:=by
 obtain ⟨l1,l2,l3⟩:=hJ.lts;obtain ⟨c1,c2,c3,rfl⟩:=hJ;have c4:W1.heap[bv]?=some (.cells #[.bool x.2] 4 (0,0)):=by rw [ho.block l2 h3]; exact c2
 have hs:=ho.size;have q1:W1.os=W.os:=World.grownBy.os ho;have q2:W1.tape=W.tape:=World.grownBy.tape ho;have q3:W1.output=W.output:=World.grownBy.output ho;refine ⟨⟨fun i=>i=bv\/i=Mn,⟨?_,one_setCell c4,hM.block (Below.heap_setCell _ _ _ Mn (fun e=>h3 e.symm)),rfl⟩,⟨q1,q2,q3,by simp; omega,fun i hi hn=>?_,fun i _ h=>h⟩⟩,cell_of_one c4,free_of_one c4⟩
 · rw [World.cell?_of_block ((Below.heap_setCell W1 ⟨bv,0,none⟩ _ bn h2).trans (ho.block l1 h1))]; exact c1
 · rw [Below.heap_setCell W1 ⟨bv,0,none⟩ _ i (fun e=>hn (.inl e))];exact ho.block hi (fun e=>hn (.inr e))
theorem qbr (h1:bn ≠ Mn) (h2:bn ≠ bv) (h3:bv ≠ Mn) (b:Nat) (a:ByteArray->Int) (W:World) (own:Nat->Prop) (x:List ByteArray × Bool) (s:ByteArray) (hJ:jaj bn Mn bv (b+1) W own x) :
 Calls Tryz.prog 91 #[.string s,.pointer (some ⟨bn,0,none⟩),.pointer (some ⟨bv,0,none⟩)] W fun e W'=>(∃ v,e=.returned v)/\∃ own',jaj bn Mn bv b W' own' (jam a s x)/\xe own W own' W':=by
 obtain ⟨l1,l2,l3⟩:=hJ.lts;have c1:=hJ.1;obtain ⟨W1,hput,hM1,ho1⟩:=hJ.2.2.1.put s;have HF:=Lib.hid (fun v=>(ubh h1 h2 h3 hJ hM1 ho1 v).1);obtain ⟨-,k1,k2⟩:=ubh h1 h2 h3 hJ hM1 ho1 true;have k3:W1.cell? ⟨bn,0,none⟩=some (.map (some Mn)):=by rw [ho1.cell (p:=⟨bn,0,none⟩) l1 h1]; exact c1
 clear hJ hM1 ho1 h1 h2 h3;unfold jam;obtain ⟨ns,v⟩:=x;have HV:=Lib.hid (ybe s W1);generalize yt s=vb at *;cases v
 · go_enter Tryz.func91,Tryz.ntmps91;go_wp2_with fail
   go_end0
   exact ⟨⟨_,rfl⟩,HF.out _⟩
 · go_enter Tryz.func91,Tryz.ntmps91;go_wp2_with fail;refine HV.out.mono ?_;rintro e w2 ⟨rfl,rfl⟩;go_wp2_with fail
   go_end0
   exact ⟨⟨_,rfl⟩,HF.out _⟩
theorem jcc {Ma : Nat} (h1 : bn ≠ Mn) (h2 : bn ≠ bv) (h3 : bv ≠ Mn) (m1 : Ma ≠ bn) (m2 : Ma ≠ Mn) (m3 : Ma ≠ bv) : gar 91 #[.pointer (some ⟨bn, 0, none⟩), .pointer (some ⟨bv, 0, none⟩)] Ma (jaj bn Mn bv) jam where
 enter:=fun args W=>by simp [go_sem]
 ext:=fun b W W' own acc h hx=>by
  obtain ⟨l1,l2,l3⟩:=h.lts;exact h.turn (hx.below.block _ l1) (hx.below.block _ l2) (hx.below.block _ l3)
 less:=fun b b' W own acc h hb=>h.turn rfl rfl rfl
 map:=fun b W W' own acc h ho=>by
  obtain ⟨l1,l2,l3⟩:=h.lts;exact h.turn (ho.block l1 m1.symm) (ho.block l2 m3.symm) (ho.block l3 m2.symm)
 lt:=fun b W own acc h i hi=>by
  obtain ⟨l1,l2,l3⟩:=h.lts;obtain ⟨-,-,-,rfl⟩:=h;rcases hi with rfl | rfl
  · exact l2
  · exact l3
 ne:=fun b W own acc h hi=>by
  obtain ⟨-,-,-,rfl⟩:=h;rcases hi with e | e
  · exact m3 e
  · exact m2 e
 call:=fun b a W own acc s h _=>qbr h1 h2 h3 b a W own acc s h
end
def Fm.note (f:Fm):List ByteArray × Bool:=f.fold jam (fun _=>0) ([],true)
def gaj (x:(List ByteArray × Bool) × List ByteArray) (s:ByteArray):(List ByteArray × Bool) × List ByteArray:=((zaw x.1.1 s,x.1.2 && yt s && !has x.2 s),zaw x.2 s)
def qal (qs:List ByteArray) (v:Bool) (s:ByteArray):Bool:=v && !has qs s
def Fm.chk (f:Fm):Int:=
 if f.free.foldl (qal (f.bound.foldl gaj (f.note,[])).2) (f.bound.foldl gaj (f.note,[])).1.2=false then 7
 else if 4000 < f.sz\/16 < f.atoms\/4 < (f.bound.foldl gaj (f.note,[])).1.1.length\/f.lim=false then 8 else 0
theorem xe.up {o1 o2 p:Nat->Prop} {a b:World} (h:xe o1 a o2 b) (hp:∀ i,o1 i->p i):xe p a p b:=
 ⟨h.os,h.tape,h.output,h.size,fun i hi hn=>h.block i hi (fun ho=>hn (hp i ho)),fun _ _ h=>h⟩
theorem xe.only {p:Nat->Prop} {a b:World} {m:Nat} (h:Only m a b) (hp:p m):xe p a p b:=
 ⟨World.grownBy.os h,World.grownBy.tape h,World.grownBy.output h,h.size,fun i hi hn=>h.block hi (fun e=>hn (by rw [e]; exact hp)),fun _ _ h=>h⟩
theorem jaj.off {bn Mn bv b:Nat} {W:World} {own:Nat->Prop} {x:List ByteArray × Bool} (hJ:jaj bn Mn bv b W own x) (h2:bn ≠ bv) (h3:bv ≠ Mn) :
 jaj bn Mn bv b (W.setCell ⟨bv,0,none⟩ (.bool false)) own (x.1,false)/\W.cell? ⟨bv,0,none⟩=some (.bool x.2)/\W.frozen? ⟨bv,0,none⟩=false/\Only bv W (W.setCell ⟨bv,0,none⟩ (.bool false)):=by
 obtain ⟨c1,c2,c3,c4⟩:=hJ;exact ⟨⟨by rw [World.cell?_of_block (Below.heap_setCell W ⟨bv,0,none⟩ _ bn h2)]; exact c1,one_setCell c2,c3.block (Below.heap_setCell _ _ _ Mn (fun e=>h3 e.symm)),c4⟩,cell_of_one c2,free_of_one c2,⟨rfl,rfl,rfl,by simp,fun i hi hne=>Below.heap_setCell W ⟨bv,0,none⟩ _ i (fun e=>hne (by rw [e]))⟩⟩
def ga2 (bn Mn bv Mq:Nat) (w2:World) (y:(List ByteArray × Bool) × List ByteArray) (wr:World):Prop:=
 jaj bn Mn bv 0 wr (fun i=>i=bv\/i=Mn) y.1/\xag wr Mq y.2/\xe (fun i=>i=bv\/i=Mn\/i=Mq) w2 (fun i=>i=bv\/i=Mn\/i=Mq) wr
theorem xbh {α β:Type} (f:β->α->β) (x:β) (l:List α) (k:Nat) (h:k < l.length):(l.take (k+1)).foldl f x=f ((l.take k).foldl f x) l[k]:=by
 rw [List.take_succ_eq_append_getElem h,List.foldl_append]; rfl
theorem check_any {w0 w:World} {L:Nat} (hs:L<=1000000000000) (f:Fm) {v:Value} (hx0:Ext w0 w) (h:FmV w0 L f v) (hl:f.sz<=1099511627776) (hok:f.terms (ubd w0 L)):Calls Tryz.prog 39 #[v] w (waa f.chk w):=by
 have hmm:=@run_makeMap Tryz.prog;have HX0:=Lib.hid hx0;have H:=Lib.hid h;obtain ⟨T,x,rfl⟩:=h.iface;clear h hx0;go_enter Tryz.func39,Tryz.ntmps39;go_wp2_with fail;obtain ⟨W,hW⟩:∃ W,((((w.alloc (Obj.map #[] 0)).alloc (Obj.cells #[Value.map (some w.heap.size)] 106)).alloc (Obj.cells #[Value.bool true] 4)).alloc (Obj.map #[] 0))=W:=⟨_,rfl⟩;rw [hW];have hsz:W.heap.size=w.heap.size+4:=by rw [<- hW]; simp
 have hx:Ext w W:=by rw [<- hW]; exact ((((Ext.refl w).alloc _).alloc _).alloc _).alloc _
 have m1:zq W w.heap.size []:=by
  rw [<- hW];exact (((zq.made w).alloc _).alloc _).alloc _
 have m2:zq W (w.heap.size+1+1+1) []:=by
  rw [<- hW];have:=zq.made (((w.alloc (Obj.map #[] 0)).alloc (Obj.cells #[Value.map (some w.heap.size)] 106)).alloc (Obj.cells #[Value.bool true] 4));simpa using this
 have hJ:jaj (w.heap.size+1) w.heap.size (w.heap.size+1+1) (0+f.sz) W (fun i=>i=w.heap.size+1+1\/i=w.heap.size) ([],true):=by
  refine ⟨by rw [<- hW]; simp [go_sem],?_,⟨[],m1,rfl,fun s=>rfl⟩,rfl⟩;rw [<- hW,Below.heap_alloc _ _ _ (by simp)];have:=heap_alloc_new ((w.alloc (Obj.map #[] 0)).alloc (Obj.cells #[Value.map (some w.heap.size)] 106)) (Obj.cells #[Value.bool true] 4);simpa using this
 have hwk:=jcc (bn:=w.heap.size+1) (Mn:=w.heap.size) (bv:=w.heap.size+1+1) (Ma:=w.heap.size+1+1+1) (by omega) (by omega) (by omega) (by omega) (by omega) (by omega);refine (xbw hwk (f.sz+1) f _ (Nat.lt_succ_self _) H.out 0 W _ (fun _=>0) ([],true) hJ ⟨[],m2,fun s=>by simp [qaa]⟩ (fun s=>by omega)).mono ?_;rintro e w1 ⟨⟨v1,rfl⟩,own',hJ',hA',hk'⟩;have hx1:Ext w w1:=hk'.ext hx (fun i hi=>by
  rcases hi with (hi | hi) | hi <;> omega)
 have hs1:=hk'.size;have hJ1:jaj (w.heap.size+1) w.heap.size (w.heap.size+1+1) 0 w1 (fun i=>i=w.heap.size+1+1\/i=w.heap.size) f.note:=by
  obtain ⟨c1,c2,c3,c4⟩:=hJ';exact ⟨c1,c2,c3,rfl⟩
 have HX1:=Lib.hid hx1;have HJ1:=Lib.hid hJ1;clear hW hx m1 m2 hJ hA' hk' hwk hJ' hx1 hJ1;go_wp2_with fail;refine (gbh f H.out hl).mono ?_;rintro e w2 ⟨v2,rfl,hrow,hx2⟩;have hxa:Ext w1 w2:=Ext.trans ((Ext.refl w1).alloc _) hx2;have hs2:=hx2.size;have HR:=Lib.hid hrow.slr;have HFR:Hid (∀ ad n c,v2=.slice (some ad) n c->w1.heap.size+1<=ad.block/\ad.block < w2.heap.size):=by
  intro ad n c e;have h1:=hrow.lt ad.block (by rw [e]; rfl);simpa using h1
 obtain ⟨bd,hbd⟩:∃ bd,f.bound=bd:=⟨_,rfl⟩;have HBD:=Lib.hid hbd;have hbl:bd.length<=1099511627776:=by rw [<- hbd]; exact Nat.le_trans f.bound_len hl
 rw [hbd] at HR hrow;clear hbd;obtain ⟨A,c,rfl⟩:=HR.out.len
 have HQ0:Hid (ga2 (w.heap.size+1) w.heap.size (w.heap.size+1+1) w1.heap.size w2 (f.note,[]) w2):=Lib.hid ⟨by
  obtain ⟨l1,l2,l3⟩:=HJ1.out.lts
  exact HJ1.out.turn (hxa.below.block _ l1) (hxa.below.block _ l2) (hxa.below.block _ l3),⟨[],(zq.made w1).ext hx2,rfl,fun s=>rfl⟩,xe.refl _ _⟩
 have HXA:=Lib.hid (HX1.out.trans hxa);simp only [World.size_alloc] at hs2;clear hrow hx2 hxa HJ1;go_wp2_with fail
 go_loopw [21] (fun iv wr=>∃ k:Nat,k<=bd.length/\iv=.int .i64 k/\Hid (ga2 (w.heap.size+1) w.heap.size (w.heap.size+1+1) w1.heap.size w2 ((bd.take k).foldl gaj (f.note,[])) wr)) (fun iv _=>bd.length - (intOf iv).toNat)
 case atStart=>exact ⟨0,Nat.zero_le _,rfl,HQ0⟩
 case round =>
  obtain ⟨k,hk,rfl,hq0⟩:=hrel;have HQ:=Lib.hid hq0.out;clear hq0;have hwr:=HQ.out.2.2.size
  by_cases hlt:k < bd.length
  · obtain ⟨ad,y,rfl,hc,rfl⟩:=SlR.get_ (SlR.keeps HR.out HQ.out.2.2 (fun ad n c e=>by
     have h1:=HFR.out ad n c e
     omega)) k hlt
    have HFO:=Lib.hid (xbh gaj (f.note,[]) bd k hlt);generalize bd[k]=s at *;obtain ⟨y,hy⟩:∃ y,(bd.take k).foldl gaj (f.note,[])=y:=⟨_,rfl⟩;rw [hy] at HQ HFO;clear hy;have HC1:=Lib.hid (qbr (by omega) (by omega) (by omega) 0 (fun _=>0) wr _ y.1 s (show jaj (w.heap.size+1) w.heap.size (w.heap.size+1+1) (0+1) wr _ y.1 from HQ.out.1));go_wp2_with fail;refine HC1.out.mono ?_;rintro e w3 ⟨⟨v3,rfl⟩,own3,hj3,hk3⟩;obtain rfl:own3=fun i=>i=w.heap.size+1+1\/i=w.heap.size:=hj3.2.2.2
    have hs3:=hk3.size;have hq3:xag w3 w1.heap.size y.2:=HQ.out.2.1.block (hk3.block _ (by have:=HQ.out.2.1.lt; omega) (by omega));have HK3:Hid (xe (fun i=>i=w.heap.size+1+1\/i=w.heap.size\/i=w1.heap.size) w2 (fun i=>i=w.heap.size+1+1\/i=w.heap.size\/i=w1.heap.size) w3):=Lib.hid (HQ.out.2.2.trans (hk3.up fun i hi=>by omega));have HJ3:=Lib.hid hj3;have hlk:=hq3.look s;have HSQ:=Lib.hid hq3;clear hj3 hk3 hq3 HC1 hc;cases hh:has y.2 s
    · rw [hh] at hlk;obtain ⟨W4,hput,hM4,ho4⟩:=HSQ.out.put s;have HFIN:Hid (ga2 (w.heap.size+1) w.heap.size (w.heap.size+1+1) w1.heap.size w2 ((bd.take (k+1)).foldl gaj (f.note,[])) W4):=Lib.hid (by
       rw [HFO.out];obtain ⟨l1,l2,l3⟩:=HJ3.out.lts;refine ⟨?_,hM4,HK3.out.trans (xe.only ho4 (by simp))⟩;have e1:(gaj y s).1=jam (fun _=>0) s y.1:=by unfold gaj jam; rw [hh]; simp
       rw [e1]
       exact HJ3.out.turn (ho4.block l1 (by omega)) (ho4.block l2 (by omega)) (ho4.block l3 (by omega)))
      clear hM4 ho4 hh;go_wp2_with fail
      go_roundw
      case rel=>exact ⟨k+1,by omega,by go_num,HFIN⟩
      case measure=>simp [intOf]; omega
    · rw [hh] at hlk;obtain ⟨hj4,r1,r2,ho4⟩:=HJ3.out.off (by omega) (by omega);obtain ⟨W4,hW4⟩:∃ W4,w3.setCell ⟨w.heap.size+1+1,0,none⟩ (.bool false)=W4:=⟨_,rfl⟩;rw [hW4] at hj4 ho4;have hq4:xag W4 w1.heap.size y.2:=HSQ.out.block (ho4.block HSQ.out.lt (by omega));obtain ⟨W5,hput,hM5,ho5⟩:=hq4.put s;have HFIN:Hid (ga2 (w.heap.size+1) w.heap.size (w.heap.size+1+1) w1.heap.size w2 ((bd.take (k+1)).foldl gaj (f.note,[])) W5):=Lib.hid (by
       rw [HFO.out];obtain ⟨l1,l2,l3⟩:=hj4.lts;refine ⟨?_,hM5,(HK3.out.trans (xe.only ho4 (by simp))).trans (xe.only ho5 (by simp))⟩;have e1:(gaj y s).1=((jam (fun _=>0) s y.1).1,false):=by unfold gaj jam; rw [hh]; simp
       rw [e1]
       exact hj4.turn (ho5.block l1 (by omega)) (ho5.block l2 (by omega)) (ho5.block l3 (by omega)))
      clear hj4 ho4 hq4 hM5 ho5 hh;go_wp2_with fail
      go_roundw
      case rel=>exact ⟨k+1,by omega,by go_num,HFIN⟩
      case measure=>simp [intOf]; omega
  · have hke:k=bd.length:=by omega
    subst hke;rw [List.take_length] at HQ;have HXR:Hid (Ext w wr):=Lib.hid (HQ.out.2.2.ext HXA.out (fun i hi=>by omega));clear HR HFR HQ0 HXA HX1;go_wp2_with fail;refine (jbq f H.out hl).mono ?_;rintro e w3 ⟨v3,rfl,hrow,hx3⟩;have HR:=Lib.hid hrow.slr;have HFR:Hid (∀ ad n c,v3=.slice (some ad) n c->wr.heap.size<=ad.block):=by
     intro ad n c e;exact (hrow.lt ad.block (by rw [e]; rfl)).1
    obtain ⟨fr,hfr⟩:∃ fr,f.free=fr:=⟨_,rfl⟩;obtain ⟨y,hy⟩:∃ y,bd.foldl gaj (f.note,[])=y:=⟨_,rfl⟩;have HCK:Hid (f.chk=if fr.foldl (qal y.2) y.1.2=false then 7 else if 4000 < f.sz\/16 < f.atoms\/4 < y.1.1.length\/f.lim=false then 8 else 0):=Lib.hid (by unfold Fm.chk; rw [HBD.out,hfr,hy]);rw [hfr] at HR;rw [hy] at HQ;clear hfr hy hrow HBD;have hfl:fr.length<=9223372036854775807:=by
     obtain ⟨_,_,-,h1,h2,-⟩:=HR.out;omega
    obtain ⟨A3,c3,rfl⟩:=HR.out.len
    have HQ3:Hid (ga2 (w.heap.size+1) w.heap.size (w.heap.size+1+1) w1.heap.size w3 y w3):=Lib.hid ⟨by
     obtain ⟨l1,l2,l3⟩:=HQ.out.1.lts
     exact HQ.out.1.turn (hx3.below.block _ l1) (hx3.below.block _ l2) (hx3.below.block _ l3),HQ.out.2.1.ext hx3,xe.refl _ _⟩
    have HX3:=Lib.hid (HXR.out.trans hx3);have hs3:=hx3.size;clear hx3 HQ HXR;obtain ⟨⟨ns,vb⟩,qs⟩:=y;simp only at HCK;go_wp2_with fail
    go_loopw [37] (fun iv wx=>∃ k:Nat,k<=fr.length/\iv=.int .i64 k/\Hid (ga2 (w.heap.size+1) w.heap.size (w.heap.size+1+1) w1.heap.size w3 ((ns,(fr.take k).foldl (qal qs) vb),qs) wx)) (fun iv _=>fr.length - (intOf iv).toNat)
    case atStart=>exact ⟨0,Nat.zero_le _,rfl,HQ3⟩
    case round =>
     obtain ⟨k,hk,rfl,hq0⟩:=hrel;have HQ:=Lib.hid hq0.out;clear hq0;have hwr2:=HQ.out.2.2.size
     by_cases hlt:k < fr.length
     · obtain ⟨ad,y,rfl,hc,rfl⟩:=SlR.get_ (SlR.keeps HR.out HQ.out.2.2 (fun ad n c e=>by
        have h1:=HFR.out ad n c e
        omega)) k hlt
       have HFO:=Lib.hid (xbh (qal qs) vb fr k hlt);generalize fr[k]=s at *;obtain ⟨vk,hvk⟩:∃ vk,(fr.take k).foldl (qal qs) vb=vk:=⟨_,rfl⟩;rw [hvk] at HQ HFO;clear hvk;have hlk:=HQ.out.2.1.look s;cases hh:has qs s
       · rw [hh] at hlk;have HFIN:Hid (ga2 (w.heap.size+1) w.heap.size (w.heap.size+1+1) w1.heap.size w3 ((ns,(fr.take (k+1)).foldl (qal qs) vb),qs) wr):=Lib.hid (by
          rw [HFO.out,show qal qs vk s=vk by unfold qal; rw [hh]; simp]
          exact HQ.out)
         clear hh;go_wp2_with fail
         go_roundw
         case rel=>exact ⟨k+1,by omega,by go_num,HFIN⟩
         case measure=>simp [intOf]; omega
       · rw [hh] at hlk;obtain ⟨hj4,r1,r2,ho4⟩:=HQ.out.1.off (by omega) (by omega);obtain ⟨W4,hW4⟩:∃ W4,wr.setCell ⟨w.heap.size+1+1,0,none⟩ (.bool false)=W4:=⟨_,rfl⟩;rw [hW4] at hj4 ho4;have HFIN:Hid (ga2 (w.heap.size+1) w.heap.size (w.heap.size+1+1) w1.heap.size w3 ((ns,(fr.take (k+1)).foldl (qal qs) vb),qs) W4):=Lib.hid (by
          rw [HFO.out,show qal qs vk s=false by unfold qal; rw [hh]; simp]
          exact ⟨hj4,HQ.out.2.1.block (ho4.block HQ.out.2.1.lt (by omega)),HQ.out.2.2.trans (xe.only ho4 (by simp))⟩)
         clear hj4 ho4 hh;go_wp2_with fail
         go_roundw
         case rel=>exact ⟨k+1,by omega,by go_num,HFIN⟩
         case measure=>simp [intOf]; omega
     · have hke:k=fr.length:=by omega
       subst hke;rw [List.take_length] at HQ;have HXR:Hid (Ext w wr):=Lib.hid (HQ.out.2.2.ext HX3.out (fun i hi=>by omega));have c1:=cell_of_one HQ.out.1.2.1;have c2:=HQ.out.1.1;have c3':=HQ.out.1.2.2.1;have hll:=c3'.len;simp only at c1 hll;have HSS:=Lib.hid c3';have l1:=HQ.out.1.lts.1;generalize fr.foldl (qal qs) vb=vf at *;clear HR HFR HQ HX3 c3' HQ3;cases vf
       · have HF:Hid (f.chk=7):=Lib.hid (by rw [HCK.out,if_pos rfl]);go_wp2_with fail;go_ret;exact ⟨by rw [HF.out]; rfl,HXR.out⟩
       · have HCK2:Hid (f.chk=if 4000 < f.sz\/16 < f.atoms\/4 < ns.length\/f.lim=false then 8 else 0):=Lib.hid (by rw [HCK.out,if_neg (by simp)]);have HN:=Lib.hid (fun W'=>yca (W:=W') f hl H.out);have HA:=Lib.hid (fun W'=>ycd (W:=W') f hl H.out);have HLM:=Lib.hid (fun W' (hx:Ext wr W')=>gbu (W:=W') hs f ((HX0.out.trans HXR.out).trans hx) H.out hok);clear HCK;generalize f.sz=z at *;generalize f.atoms=at_ at *;generalize f.lim=lm at *;generalize f.chk=res at *
         by_cases hz:4000 < z
         · have HF:Hid (res=8):=Lib.hid (by rw [HCK2.out,if_pos (.inl hz)]);have hz':(4000:Int) < z:=by omega
           go_wp2_with fail;refine (HN.out _).mono ?_;rintro e w4 ⟨rfl,x4⟩;have X4:=Lib.hid (HXR.out.trans x4);clear x4;go_wp2_with fail;go_ret;exact ⟨by rw [HF.out]; rfl,X4.out⟩
         · have hz':¬ (4000:Int) < z:=by omega
           go_wp2_with fail;refine (HN.out _).mono ?_;rintro e w4 ⟨rfl,x4⟩;have X4:=Lib.hid x4;clear x4
           by_cases ha:16 < at_
           · have HF:Hid (res=8):=Lib.hid (by rw [HCK2.out,if_pos (.inr (.inl ha))]);have ha':(16:Int) < at_:=by omega
             go_wp2_with fail;refine (HA.out _).mono ?_;rintro e w5 ⟨rfl,x5⟩;have X5:=Lib.hid (HXR.out.trans (X4.out.trans x5));clear x5;go_wp2_with fail;go_ret;exact ⟨by rw [HF.out]; rfl,X5.out⟩
           · have ha':¬ (16:Int) < at_:=by omega
             go_wp2_with fail;refine (HA.out _).mono ?_;rintro e w5 ⟨rfl,x5⟩;have X5:=Lib.hid (X4.out.trans x5);have hll5:=(HSS.out.ext X5.out).len;have c25:=(X5.out.cell (p:=⟨w.heap.size+1,0,none⟩) l1).trans c2;clear x5 c1 c2 hll
             by_cases hn:4 < ns.length
             · have HF:Hid (res=8):=Lib.hid (by rw [HCK2.out,if_pos (.inr (.inr (.inl hn)))]);have hn':(4:Int) < ns.length:=by omega
               go_wp2_with fail;go_ret;exact ⟨by rw [HF.out]; rfl,HXR.out.trans X5.out⟩
             · have hn':¬ (4:Int) < ns.length:=by omega
               cases lm
               · have HF:Hid (res=8):=Lib.hid (by rw [HCK2.out,if_pos (.inr (.inr (.inr rfl)))]);go_wp2_with fail;refine (HLM.out _ X5.out).mono ?_;rintro e w6 ⟨rfl,x6⟩;have X6:=Lib.hid (HXR.out.trans (X5.out.trans x6));clear x6;go_wp2_with fail;go_ret;exact ⟨by rw [HF.out]; rfl,X6.out⟩
               · have HF:Hid (res=0):=Lib.hid (by rw [HCK2.out,if_neg (by simp; omega)]);go_wp2_with fail;refine (HLM.out _ X5.out).mono ?_;rintro e w6 ⟨rfl,x6⟩;have X6:=Lib.hid (HXR.out.trans (X5.out.trans x6));clear x6;go_wp2_with fail;go_ret;exact ⟨by rw [HF.out]; rfl,X6.out⟩
end Go.Proofs.YtaedbimbbeploaaGreatDoor
