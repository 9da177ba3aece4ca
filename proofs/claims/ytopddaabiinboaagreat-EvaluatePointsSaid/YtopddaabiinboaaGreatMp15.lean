/- Layer 34: formula.walk: the names that occur in a formula, passed to a function, with the quantifiers around them. -/
import Derived.Test.YtopddaabiinboaaGreatMp14
import Derived.Maps.AppendAt
import Derived.OneCell
import Derived.RangeFuncBox
set_option linter.unusedSimpArgs false
set_option linter.unusedVariables false

set_option maxRecDepth 100000
set_option maxHeartbeats 8000000
namespace Go.Proofs.YtopddaabiinboaaGreat
open Go.RowKit
attribute [local go_sem] gdg jde jdh vdg ydh zdh udg gdb kde wdg qdh wgt uc9 xdh wdb
def Fm.sz : Fm -> Nat
 | .truth _=>1
 | .atom a _ b=>a.sz+b.sz+1
 | .not f=>f.sz+1
 | .and f g=>f.sz+g.sz+1
 | .or f g=>f.sz+g.sz+1
 | .imp f g=>f.sz+g.sz+1
 | .iff f g=>f.sz+g.sz+1
 | .quant _ _ f=>f.sz+1
theorem Fm.kids_lt (t k:Fm) (h:k ∈ t.kids):k.sz < t.sz:=by
 cases t <;> simp [Fm.kids] at h
 · subst h; simp [Fm.sz]
 · rcases h with rfl | rfl <;> simp [Fm.sz] <;> omega
 · rcases h with rfl | rfl <;> simp [Fm.sz] <;> omega
 · rcases h with rfl | rfl <;> simp [Fm.sz] <;> omega
 · rcases h with rfl | rfl <;> simp [Fm.sz] <;> omega
 · subst h; simp [Fm.sz]
def qc9 (l:List Fm):Nat:=(l.map Fm.sz).sum
theorem ug0 (t:Fm):qc9 t.kids+1<=t.sz:=by cases t <;> simp [Fm.kids,qc9,Fm.sz] <;> omega
theorem whj (l:List Fm) (k:Nat) (h:k < l.length):qc9 (l.drop k)=l[k].sz+qc9 (l.drop (k+1)):=by
 unfold qc9;rw [List.drop_eq_getElem_cons h,List.map_cons,List.sum_cons]
theorem Fm.kids_len (t:Fm):t.kids.length<=2:=by cases t <;> simp [Fm.kids]
def bump (a:ByteArray->Int) (s:ByteArray):ByteArray->Int:=fun t=>if t=s then a t+1 else a t
def Fm.fold {α : Type} (st : (ByteArray -> Int) -> ByteArray -> α -> α) : Fm -> (ByteArray -> Int) -> α -> α
 | .truth _,_,x=>x
 | .atom l _ r,a,x=>r.fold (st a) (l.fold (st a) x)
 | .not f,a,x=>f.fold st a x
 | .and f g,a,x=>g.fold st a (f.fold st a x)
 | .or f g,a,x=>g.fold st a (f.fold st a x)
 | .imp f g,a,x=>g.fold st a (f.fold st a x)
 | .iff f g,a,x=>g.fold st a (f.fold st a x)
 | .quant _ s f,a,x=>f.fold st (bump a s) x
def vgy {α:Type} (st:(ByteArray->Int)->ByteArray->α->α) (l:List Fm) (a:ByteArray->Int) (x:α):α:=l.foldl (fun acc k=>k.fold st a acc) x
theorem vhb {α:Type} (st:(ByteArray->Int)->ByteArray->α->α) (l:List Fm) (a:ByteArray->Int) (x:α) (k:Nat) (h:k < l.length):vgy st (l.take (k+1)) a x=(l[k]).fold st a (vgy st (l.take k) a x):=by
 unfold vgy;rw [List.take_succ_eq_append_getElem h,List.foldl_append]; rfl
def Fm.cls : Fm -> Nat
 | .atom _ _ _=>1
 | .quant _ _ _=>2
 | _=>0
theorem Fm.fold_kids {α:Type} (st:(ByteArray->Int)->ByteArray->α->α) (t:Fm) (a:ByteArray->Int) (x:α) (h:t.cls=0):t.fold st a x=vgy st t.kids a x:=by
 cases t <;> simp_all [Fm.fold,Fm.kids,vgy,Fm.cls]
theorem FmV.plain {w:World} {L:Nat} {t:Fm} {v:Value} (h:FmV w L t v) (hn:t.cls=0):∃ T x,v=.iface T x/\¬ T=67/\¬ T=185:=by
 cases t <;> (simp only [FmV] at h) <;> first | (cases hn; done) | exact ⟨_,_,h,by decide,by decide⟩ | (obtain ⟨_,e,_⟩:=h; exact ⟨_,_,e,by decide,by decide⟩) | (obtain ⟨_,_,e,_⟩:=h; exact ⟨_,_,e,by decide,by decide⟩)
def gdd (w:World) (b:Nat) (a:ByteArray->Int):Prop:=∃ l,zda w b l/\∀ s,(wda l s).getD (.int .i64 0)=.int .i64 (a s)
theorem gdd.ext {w w':World} {b:Nat} {a:ByteArray->Int} (h:gdd w b a) (hx:Ext w w'):gdd w' b a:=by
 obtain ⟨l,h1,h2⟩:=h;exact ⟨l,h1.ext hx,h2⟩
theorem zda.block {w w':World} {b:Nat} {l:List (ByteArray × Value)} (h:zda w b l) (hx:w'.heap[b]?=w.heap[b]?):zda w' b l:=by
 obtain ⟨es,clock,hb,he⟩:=h;exact ⟨es,clock,hx.trans hb,he⟩
theorem gdd.block {w w':World} {b:Nat} {a:ByteArray->Int} (h:gdd w b a) (hx:w'.heap[b]?=w.heap[b]?):gdd w' b a:=by
 obtain ⟨l,h1,h2⟩:=h;exact ⟨l,h1.block hx,h2⟩
theorem gdd.lt {w:World} {b:Nat} {a:ByteArray->Int} (h:gdd w b a):b < w.heap.size:=by
 obtain ⟨l,h1,h2⟩:=h;exact h1.lt
theorem kis:(Tryz.prog.info? 3).map (·.zero)=some (some (.int .i64 0)):=by kernel_rfl
theorem gdd.look {w:World} {b:Nat} {a:ByteArray->Int} (h:gdd w b a) (s:ByteArray):(Instr.lookup 145 (.map (some b)) (.string s) false).run Tryz.prog w=.ok (.int .i64 (a s)) w:=by
 obtain ⟨l,h1,h2⟩:=h;have:=h1.look Tryz.underlying145 Tryz.underlying9 kis s false;rw [this]; simp [h2]
theorem gdd.put {w:World} {b:Nat} {a:ByteArray->Int} (h:gdd w b a) (s:ByteArray) (n:Int):∃ w',(Instr.mapUpdate 145 (.map (some b)) (.string s) (.int .i64 n)).run Tryz.prog w=.ok () w'/\gdd w' b (fun t=>if t=s then n else a t)/\Only b w w':=by
 obtain ⟨l,h1,h2⟩:=h;obtain ⟨w',e,h3,h4⟩:=h1.put (P:=Tryz.prog) Tryz.underlying145 Tryz.underlying9 s (.int .i64 n);refine ⟨w',e,⟨_,h3,fun t=>?_⟩,h4⟩;rw [zhb]
 by_cases ht:t=s
 · simp [ht]
 · simp [ht,h2]
structure yg9 {α : Type} (K : Nat) (caps : Array Value) (Ma : Nat) (J : Nat -> World -> (Nat -> Prop) -> α -> Prop) (step : (ByteArray -> Int) -> ByteArray -> α -> α) : Prop where
 enter:∀ args W,(callFunc K args).run Tryz.prog W=.ok (.enter K args) W
 ext:∀ b W W' own acc,J b W own acc->Ext W W'->J b W' own acc
 less:∀ b b' W own acc,J b W own acc->b'<=b->J b' W own acc
 map:∀ b W W' own acc,J b W own acc->Only Ma W W'->J b W' own acc
 lt:∀ b W own acc,J b W own acc->∀ i,own i->i < W.heap.size
 ne:∀ b W own acc,J b W own acc->¬ own Ma
 call:∀ b a W own acc s,J (b+1) W own acc->gdd W Ma a->Calls Tryz.prog K (#[.string s] ++ caps) W fun e W'=>(∃ v,e=.returned v)/\∃ own',J b W' own' (step a s acc)/\jc4 own W own' W'
theorem yg9.visits {α:Type} {K:Nat} {caps:Array Value} {Ma:Nat} {J:Nat->World->(Nat->Prop)->α->Prop} {step:(ByteArray->Int)->ByteArray->α->α} (V:yg9 K caps Ma J step) (a:ByteArray->Int) :
 uil K caps (fun b W own acc=>J b W own acc/\gdd W Ma a) (step a) where
 enter:=V.enter
 ext:=fun b W W' own acc h hx=>⟨V.ext b W W' own acc h.1 hx,h.2.ext hx⟩
 less:=fun b b' W own acc h hb=>⟨V.less b b' W own acc h.1 hb,h.2⟩
 lt:=fun b W own acc h=>V.lt b W own acc h.1
 call:=fun b W own acc s h=>(V.call b a W own acc s h.1 h.2).mono fun e W' ⟨h1,own',h2,h3⟩=>⟨h1,own',⟨h2,h.2.block (h3.block _ h.2.lt (V.ne _ _ _ _ h.1))⟩,h3⟩
def plus (own:Nat->Prop) (b:Nat):Nat->Prop:=fun i=>own i\/i=b
theorem jc4.plus {o1 o2:Nat->Prop} {a b:World} (h:jc4 o1 a o2 b) (m:Nat):jc4 (plus o1 m) a (plus o2 m) b:=
 ⟨h.os,h.tape,h.output,h.size,fun i hi hn=>h.block i hi (fun ho=>hn (.inl ho)),fun i hi ho=>ho.elim (fun k=>.inl (h.own i hi k)) .inr⟩
theorem jc4.of_only {o:Nat->Prop} {a b:World} {m:Nat} (h:Only m a b):jc4 (Go.Proofs.YtopddaabiinboaaGreat.plus o m) a (Go.Proofs.YtopddaabiinboaaGreat.plus o m) b:=
 ⟨World.grownBy.os h,World.grownBy.tape h,World.grownBy.output h,h.size,fun i hi hn=>h.block hi (fun e=>hn (.inr e)),fun _ _ h=>h⟩
def ug2 {α:Type} (Ma b:Nat) (J:Nat->World->(Nat->Prop)->α->Prop) (a:ByteArray->Int) (own:Nat->Prop) (W:World) (acc:α) (e:Ending) (W':World):Prop:=
 (∃ v,e=.returned v)/\∃ own',J b W' own' acc/\gdd W' Ma a/\jc4 (plus own Ma) W (plus own' Ma) W'
section
variable {α:Type} {K:Nat} {caps:Array Value} {Ma:Nat} {J:Nat->World->(Nat->Prop)->α->Prop} {step:(ByteArray->Int)->ByteArray->α->α} {w0:World} {L:Nat}
def zh0 (K:Nat) (caps:Array Value) (Ma:Nat) (J:Nat->World->(Nat->Prop)->α->Prop) (step:(ByteArray->Int)->ByteArray->α->α) (w0:World) (L n:Nat):Prop:=
 ∀ (t:Fm) (v:Value),t.sz < n->FmV w0 L t v->∀ (b:Nat) (W:World) (own:Nat->Prop) (a:ByteArray->Int) (acc:α),J (b+t.sz) W own acc->gdd W Ma a->(∀ s,0<=a s/\a s+t.sz<=4611686018427387904) ->
   Calls Tryz.prog 80 #[v,.map (some Ma),.func (.func K) #[] caps] W (ug2 Ma b J a own W (t.fold step a acc))
theorem kie (V:yg9 K caps Ma J step) {l k:Tm} {r:Int} {v:Value} (h:FmV w0 L (.atom l r k) v) (b:Nat) (W:World) (own:Nat->Prop) (a:ByteArray->Int) (acc:α) (hJ:J (b+(Fm.atom l r k).sz) W own acc) (hA:gdd W Ma a) :
 Calls Tryz.prog 80 #[v,.map (some Ma),.func (.func K) #[] caps] W (ug2 Ma b J a own W ((Fm.atom l r k).fold step a acc)):=by
 have H:=Lib.hid h;have HV:=Lib.hid V;have HJ:=Lib.hid hJ;have HA:=Lib.hid hA;clear V hJ hA;obtain ⟨x,y,rfl,hx,hy⟩:=h;have HX:=Lib.hid hx;have HY:=Lib.hid hy;obtain ⟨T,x,rfl⟩:=hx.iface;obtain ⟨U,y,rfl⟩:=hy.iface;clear hx hy;go_enter Tryz.func80,Tryz.ntmps80;go_wp2_with fail;have hlt:=HV.out.lt _ _ _ _ HJ.out;have HLT:=Lib.hid hlt;clear hlt;refine (vh5 (HV.out.visits a) _ l _ (Nat.lt_succ_self _) HX.out (b+k.sz) _ own acc ⟨HV.out.less _ _ _ _ _ (HV.out.ext _ _ _ _ _ HJ.out ((Ext.refl W).alloc _)) (by simp only [Fm.sz]; omega),HA.out.ext ((Ext.refl W).alloc _)⟩).mono ?_;rintro e w1 ⟨⟨v1,rfl⟩,own1,⟨hJ1,hA1⟩,hk1⟩;have c2:w1.cell? ⟨W.heap.size,2,none⟩=some (.iface U y):=by
  rw [hk1.cell (p:=⟨W.heap.size,2,none⟩) (by simp) (fun ho=>by have:=HLT.out _ ho; simp at this)];simp [go_sem]
 have HJ1:=Lib.hid hJ1;have HA1:=Lib.hid hA1;have HK1:=Lib.hid (jc4.trans (jc4.of_ext ((Ext.refl W).alloc _)) hk1);clear hJ1 hA1 hk1;go_wp2_with fail;clear c2;refine (vh5 (HV.out.visits a) _ k _ (Nat.lt_succ_self _) HY.out b _ own1 _ ⟨HJ1.out,HA1.out⟩).mono ?_;rintro e w2 ⟨⟨v2,rfl⟩,own2,⟨hJ2,hA2⟩,hk2⟩;have HJ2:=Lib.hid hJ2;have HA2:=Lib.hid hA2;have HK2:=Lib.hid (HK1.out.trans hk2);clear hJ2 hA2 hk2 HJ1 HA1 HK1;go_wp2_with fail;refine (wgv (Fm.atom l r k) H.out).mono ?_;rintro e w3 ⟨s2,rfl,hs,-,hx⟩;obtain ⟨A,c,rfl⟩:=hs.len;have HX3:=Lib.hid (Ext.trans ((Ext.refl w2).alloc _) hx);clear hs hx;simp only [Fm.kids,List.length_nil];go_wp2_with fail;refine wp_loop_rounds 1 ?_;rw [rounds_succ];go_wp2_with fail
 go_end0
 exact ⟨⟨_,rfl⟩,own2,HV.out.ext _ _ _ _ _ HJ2.out HX3.out,HA2.out.ext HX3.out,(HK2.out.trans (jc4.of_ext HX3.out)).plus Ma⟩
theorem xgt (V:yg9 K caps Ma J step) {n:Nat} (ih:zh0 K caps Ma J step w0 L n) (t:Fm) (v:Value) (hcl:t.cls=0) (hsz:t.sz < n+1) (h:FmV w0 L t v) (b:Nat) (W:World) (own:Nat->Prop) (a:ByteArray->Int) (acc:α) (hJ:J (b+t.sz) W own acc) (hA:gdd W Ma a) (hb:∀ s,0<=a s/\a s+t.sz<=4611686018427387904) :
 Calls Tryz.prog 80 #[v,.map (some Ma),.func (.func K) #[] caps] W (ug2 Ma b J a own W (t.fold step a acc)):=by
 have H:=Lib.hid h;have HV:=Lib.hid V;have HJ:=Lib.hid hJ;have HA:=Lib.hid hA;have HB:=Lib.hid hb;have HC:=Lib.hid hcl;have IH:=Lib.hid ih;have HLT:=Lib.hid (V.lt _ _ _ _ hJ);obtain ⟨T,x,rfl,hT,hT'⟩:=h.plain hcl;have hlen:=t.kids_len;clear h V hJ hA hb hcl ih;go_enter Tryz.func80,Tryz.ntmps80;go_wp2_with fail;refine (wgv t H.out).mono ?_;rintro e w1 ⟨s,rfl,hs,hf,hx⟩;obtain ⟨A,c,rfl⟩:=hs.len;have HX:Hid (Ext W w1):=by
  have:Ext W w1:=(((Ext.refl W).alloc _).alloc _).trans hx;exact this
 have HS:=Lib.hid hs;have HF:=Lib.hid hf;clear hs hf hx;go_wp2_with fail
 go_loopw [40] (fun iv wr=>∃ k:Nat,k<=t.kids.length/\iv=.int .i64 k/\Hid (∃ own',J (b+qc9 (t.kids.drop k)) wr own' (vgy step (t.kids.take k) a acc)/\gdd wr Ma a/\jc4 (plus own Ma) w1 (plus own' Ma) wr)) (fun iv _=>t.kids.length - (intOf iv).toNat)
 case atStart =>
  exact ⟨0,Nat.zero_le _,rfl,⟨own,HV.out.less _ _ _ _ _ (HV.out.ext _ _ _ _ _ HJ.out HX.out) (by have:=ug0 t; simp only [List.drop_zero]; omega),HA.out.ext HX.out,jc4.refl _ _⟩⟩
 case round =>
  obtain ⟨k,hk,rfl,⟨own',hJ',hA',hk'⟩⟩:=hrel;have HJ':=Lib.hid hJ';have HA':=Lib.hid hA';have HK':=Lib.hid hk';clear hJ' hA' hk'
  by_cases hlt:k < t.kids.length
  · obtain ⟨ad,y,rfl,hc,hp⟩:=SlR.get_ (SlR.keeps HS.out HK'.out (fun ad n c e=>fun ho=>by
     have h1:=HF.out ad n c e;have h3:=HA.out.lt;rcases ho with ho | ho
     · have h2:=HLT.out _ ho;simp at h1; omega
     · simp at h1; omega)) k hlt
    have HP:=Lib.hid hp;obtain ⟨U,y,rfl⟩:=hp.iface;clear hp;go_wp2_with fail;have hkl:=t.kids_lt _ (List.getElem_mem hlt);refine (IH.out (t.kids[k]) _ (by omega) HP.out _ _ _ _ _ (by rw [whj _ _ hlt,Nat.add_comm (t.kids[k]).sz,<- Nat.add_assoc] at HJ'; exact HJ'.out) HA'.out (fun s=>by have:=HB.out s; omega)).mono ?_;rintro e w2 ⟨⟨v2,rfl⟩,own2,hJ2,hA2,hk2⟩;have HJ2:=Lib.hid hJ2;have HA2:=Lib.hid hA2;have HK2:=Lib.hid hk2;clear hJ2 hA2 hk2 hc;go_wp2_with fail
    go_roundw
    case rel=>exact ⟨k+1,by omega,by go_num,⟨own2,by rw [vhb step _ _ _ _ hlt]; exact HJ2.out,HA2.out,HK'.out.trans HK2.out⟩⟩
    case measure=>simp [intOf]; omega
  · have hke:k=t.kids.length:=by omega
    have HD:Hid (J b wr own' (t.fold step a acc)):=by
     have:=HV.out.less _ b _ _ _ HJ'.out (by omega);rw [hke,List.take_length,<- Fm.fold_kids step t a acc HC.out] at this;exact this
    clear hke;go_wp2_with fail
    go_end0
    exact ⟨⟨_,rfl⟩,own',HD.out,HA'.out,(jc4.of_ext HX.out).trans HK'.out⟩
theorem yh7 (V:yg9 K caps Ma J step) {n:Nat} (ih:zh0 K caps Ma J step w0 L n) {al:Bool} {s:ByteArray} {f:Fm} {v:Value} (hsz:(Fm.quant al s f).sz < n+1) (h:FmV w0 L (.quant al s f) v) (b:Nat) (W:World) (own:Nat->Prop) (a:ByteArray->Int) (acc:α) (hJ:J (b+(Fm.quant al s f).sz) W own acc) (hA:gdd W Ma a) (hb:∀ t,0<=a t/\a t+(Fm.quant al s f).sz<=4611686018427387904) :
 Calls Tryz.prog 80 #[v,.map (some Ma),.func (.func K) #[] caps] W (ug2 Ma b J a own W ((Fm.quant al s f).fold step a acc)):=by
 have H:=Lib.hid h;have HV:=Lib.hid V;have HJ:=Lib.hid hJ;have HA:=Lib.hid hA;have HB:=Lib.hid hb;have IH:=Lib.hid ih;have HLT:=Lib.hid (V.lt _ _ _ _ hJ);obtain ⟨x,rfl,hx⟩:=h;have HX:=Lib.hid hx;obtain ⟨T,x,rfl⟩:=hx.iface;have hbs:=hb s;have hmlt:=hA.lt;obtain ⟨W2,hW2⟩:=n_m ((W.alloc (Obj.cells #[.nilIface,.int .i64 0,.nilIface] 67)).alloc (Obj.cells #[.bool al,.string s,.iface T x] 185));have hx2:Ext W W2:=by rw [<- hW2]; exact ((Ext.refl W).alloc _).alloc _
 have c1:W2.cell? ⟨W.heap.size+1,1,none⟩=some (.string s):=by rw [<- hW2]; simp [go_sem]
 have hsz2:W.heap.size+1 < W2.heap.size:=by rw [<- hW2]; simp
 have hA2:=hA.ext hx2;have hl:=hA2.look s;obtain ⟨W3,hp,hA3,ho3⟩:=hA2.put s (a s+1);have hA3':gdd W3 Ma (bump a s):=by
  have:(fun t=>if t=s then a s+1 else a t)=bump a s:=by
   funext t; unfold bump; by_cases e:t=s
   · rw [if_pos e,if_pos e,e]
   · rw [if_neg e,if_neg e]
  rw [<- this]; exact hA3
 clear hx V hJ hA hb ih hA3;simp only [Fm.sz] at hbs;generalize hg:a s=q at *;have HG:=Lib.hid hg;have HC1:Hid (W3.cell? ⟨W.heap.size+1,1,none⟩=some (.string s)):=by
  have:W3.cell? ⟨W.heap.size+1,1,none⟩=some (.string s):=by rw [ho3.cell (p:=⟨W.heap.size+1,1,none⟩) (by simpa using hsz2) (by simp; omega)]; exact c1
  exact this
 have HJ3:Hid (J (b+(Fm.quant al s f).sz) W3 own acc):=by
  have:J (b+(Fm.quant al s f).sz) W3 own acc:=HV.out.map _ _ _ _ _ (HV.out.ext _ _ _ _ _ HJ.out hx2) ho3;exact this
 have HA3:=Lib.hid hA3';have HK3:Hid (jc4 (plus own Ma) W (plus own Ma) W3):=by
  have:jc4 (plus own Ma) W (plus own Ma) W3:=(jc4.of_ext hx2).trans (jc4.of_only ho3);exact this
 have hsz3:=ho3.size;clear hg hA3' ho3 hA2 hx2;go_enter Tryz.func80,Tryz.ntmps80;go_wp2_with fail;clear hl hp hW2 c1;refine (wgv (Fm.quant al s f) H.out).mono ?_;rintro e w4 ⟨s4,rfl,hs,hf,hx⟩;obtain ⟨ks,hks⟩:=n_m ((Fm.quant al s f).kids);rw [hks] at hs;have hlen:ks.length<=2:=by rw [<- hks]; exact Fm.kids_len _
 have HKS:=Lib.hid hks;clear hks;obtain ⟨A,c,rfl⟩:=hs.len;have HS:=Lib.hid hs;have HF:=Lib.hid hf;have HX4:=Lib.hid hx;clear hs hf hx;go_wp2_with fail
 go_loopw [40] (fun iv wr=>∃ k:Nat,k<=ks.length/\iv=.int .i64 k/\Hid (∃ own',J (b+qc9 (ks.drop k)) wr own' (vgy step (ks.take k) (bump a s) acc)/\gdd wr Ma (bump a s)/\jc4 (plus own Ma) w4 (plus own' Ma) wr)) (fun iv _=>ks.length - (intOf iv).toNat)
 case atStart =>
  exact ⟨0,Nat.zero_le _,rfl,⟨own,HV.out.less _ _ _ _ _ (HV.out.ext _ _ _ _ _ HJ3.out HX4.out) (by have:=ug0 (Fm.quant al s f); rw [HKS.out] at this; simp only [List.drop_zero]; omega),HA3.out.ext HX4.out,jc4.refl _ _⟩⟩
 case round =>
  obtain ⟨k,hk,rfl,⟨own',hJ',hA',hk'⟩⟩:=hrel;have HJ':=Lib.hid hJ';have HA':=Lib.hid hA';have HK':=Lib.hid hk';clear hJ' hA' hk'
  by_cases hlt:k < ks.length
  · obtain ⟨ad,y,rfl,hc,hp⟩:=SlR.get_ (SlR.keeps HS.out HK'.out (fun ad n c e=>fun ho=>by
     have h1:=HF.out ad n c e;rcases ho with ho | ho
     · have h2:=HLT.out _ ho;omega
     · omega)) k hlt
    have HP:=Lib.hid hp;obtain ⟨U,y,rfl⟩:=hp.iface;clear hp;go_wp2_with fail;have hkl:ks[k].sz < (Fm.quant al s f).sz:=Fm.kids_lt _ _ (by rw [HKS.out]; exact List.getElem_mem hlt);refine (IH.out (ks[k]) _ (by omega) HP.out _ _ _ _ _ (by rw [whj _ _ hlt,Nat.add_comm (ks[k]).sz,<- Nat.add_assoc] at HJ'; exact HJ'.out) HA'.out (fun t=>by have:=HB.out t; unfold bump; split <;> omega)).mono ?_;rintro e w5 ⟨⟨v2,rfl⟩,own2,hJ2,hA2,hk2⟩;have HJ2:=Lib.hid hJ2;have HA2:=Lib.hid hA2;have HK2:=Lib.hid hk2;clear hJ2 hA2 hk2 hc;go_wp2_with fail
    go_roundw
    case rel=>exact ⟨k+1,by omega,by go_num,⟨own2,by rw [vhb step _ _ _ _ hlt]; exact HJ2.out,HA2.out,HK'.out.trans HK2.out⟩⟩
    case measure=>simp [intOf]; omega
  · have HKE:Hid (k=ks.length):=by
     have:k=ks.length:=by omega
     exact this
    have c1:wr.cell? ⟨W.heap.size+1,1,none⟩=some (.string s):=by
     have hx4:=HX4.out;rw [HK'.out.cell (p:=⟨W.heap.size+1,1,none⟩) (by have:=hx4.size; simp; omega) (fun ho=>by
      rcases ho with ho | ho
      · have:=HLT.out _ ho; dsimp only at this; omega
      · simp at ho; omega),hx4.cell (p:=⟨W.heap.size+1,1,none⟩) (by simp; omega)]
     exact HC1.out
    have hb1:bump a s s=q+1:=by unfold bump; rw [if_pos rfl,HG.out]
    have hl:=HA'.out.look s;rw [hb1] at hl;obtain ⟨W6,hp,hA6,ho6⟩:=HA'.out.put s q;have HD:Hid (ug2 Ma b J a own W ((Fm.quant al s f).fold step a acc) (.returned (.tuple #[])) W6):=by
     have hJ6:J b W6 own' (Fm.fold step f (bump a s) acc):=by
      have:=HV.out.less _ b _ _ _ (HV.out.map _ _ _ _ _ HJ'.out ho6) (by omega);rw [HKE.out,List.take_length,<- HKS.out] at this;exact this
     have hA6':gdd W6 Ma a:=by
      have:(fun t=>if t=s then q else bump a s t)=a:=by
       funext t; unfold bump; by_cases e:t=s
       · rw [if_pos e,e,HG.out]
       · rw [if_neg e,if_neg e]
      rw [<- this]; exact hA6
     exact ⟨⟨_,rfl⟩,own',hJ6,hA6',((HK3.out.trans (jc4.of_ext HX4.out)).trans HK'.out).trans (jc4.of_only ho6)⟩
    clear hb1 hA6 ho6 HG;go_wp2_with fail
    go_end0
    exact HD.out
theorem yix (V:yg9 K caps Ma J step) (n:Nat):zh0 K caps Ma J step w0 L n:=by
 induction n with
 | zero=>intro t v ht; omega
 | succ n ih =>
   intro t v ht h b W own a acc hJ hA hb;cases t with
   | atom l r k=>exact kie V h b W own a acc hJ hA
   | quant al s f=>exact yh7 V ih ht h b W own a acc hJ hA hb
   | truth tb=>exact xgt V ih _ v rfl ht h b W own a acc hJ hA hb
   | not f=>exact xgt V ih _ v rfl ht h b W own a acc hJ hA hb
   | and f g=>exact xgt V ih _ v rfl ht h b W own a acc hJ hA hb
   | or f g=>exact xgt V ih _ v rfl ht h b W own a acc hJ hA hb
   | imp f g=>exact xgt V ih _ v rfl ht h b W own a acc hJ hA hb
   | iff f g=>exact xgt V ih _ v rfl ht h b W own a acc hJ hA hb
end
end Go.Proofs.YtopddaabiinboaaGreat

/- Layer 34: formula.Bound: the names of the quantifiers. -/
set_option maxRecDepth 100000
set_option maxHeartbeats 8000000
namespace Go.Proofs.YtopddaabiinboaaGreat
open Go.RowKit
attribute [local go_sem] gdg jde jdh vdg ydh zdh udg gdb kde wdg qdh wgt uc9 xdh wdb
theorem Ext.grownN {w w':World} (hx:Ext w w'):w.grownBy w' none:=⟨hx.below.os,hx.below.tape,hx.below.output,hx.size,fun k hk _=>hx.below.block k hk⟩
def ownB (v:Value):Nat->Prop:=fun i=>v.ownBlock=some i
def strs (l:List ByteArray):List Value:=l.map Value.string
theorem yho (l:List ByteArray) (s:ByteArray):strs (l ++ [s])=strs l ++ [.string s]:=by simp [strs]
def xc7 (w:World) (base:Nat) (v:Value) (l:List ByteArray):Prop:=w.ownsRow base 9 1 v l.length (strs l)
theorem xc7.nil (w:World) (base:Nat):xc7 w base (.slice none 0 0) []:=World.ownsRow_nil w base _ _
theorem xc7.ext {w w':World} {base:Nat} {v:Value} {l:List ByteArray} (h:xc7 w base v l) (hx:Ext w w'):xc7 w' base v l:=
 World.ownsRow.kept h (row:=none) hx.grownN (by cases hv:v.ownBlock <;> simp)
theorem xc7.lt {w:World} {base:Nat} {v:Value} {l:List ByteArray} (h:xc7 w base v l):∀ k,v.ownBlock=some k->base<=k/\k < w.heap.size:=World.ownsRow.lt h
theorem jc4.of_append {w w':World} {v v':Value} (hg:w.grownBy w' v.ownBlock) (ha:v'.ownBlock=v.ownBlock\/v'.ownBlock=some w.heap.size):jc4 (ownB v) w (ownB v') w':=
 ⟨World.grownBy.os hg,World.grownBy.tape hg,World.grownBy.output hg,World.grownBy.size hg,fun i hi hn=>World.grownBy.block hg i hi (fun e=>hn e.symm),fun i hi ho=>by
   unfold ownB at ho ⊢;rcases ha with h | h
   · rw [<- h]; exact ho
   · rw [h] at ho; injection ho with e; omega⟩
theorem uiw {w:World} {g:Nat} {x:Value} (h:w.cell? ⟨g,0,none⟩=some x):∀ j u,[x][j]?=some u->w.cell? ((⟨g,0,none⟩:Addr).add j)=some u:=by
 intro j u hu;cases j with
 | zero=>simp at hu; rw [zc9,<- hu]; exact h
 | succ j=>simp at hu
def Fm.bound : Fm -> List ByteArray
 | .truth _=>[]
 | .atom _ _ _=>[]
 | .not f=>f.bound
 | .and f g=>f.bound ++ g.bound
 | .or f g=>f.bound ++ g.bound
 | .imp f g=>f.bound ++ g.bound
 | .iff f g=>f.bound ++ g.bound
 | .quant _ s f=>s :: f.bound
def kc9 (l:List Fm):List ByteArray:=l.flatMap Fm.bound
theorem gg9 (l:List Fm) (k:Nat) (h:k < l.length):kc9 (l.take (k+1))=kc9 (l.take k) ++ (l[k]).bound:=by
 unfold kc9;rw [List.take_succ_eq_append_getElem h,List.flatMap_append,List.flatMap_singleton]
def Fm.isQuant : Fm -> Bool
 | .quant _ _ _=>true
 | _=>false
theorem Fm.bound_kids (t:Fm) (h:t.isQuant=false):t.bound=kc9 t.kids:=by
 cases t <;> simp_all [Fm.bound,Fm.kids,kc9,Fm.isQuant]
theorem FmV.notQuant {w:World} {L:Nat} {t:Fm} {v:Value} (h:FmV w L t v) (hn:t.isQuant=false):∃ T x,v=.iface T x/\¬ T=185:=by
 cases t <;> (simp only [FmV] at h) <;> first | (cases hn; done) | exact ⟨_,_,h,by decide⟩ | (obtain ⟨_,e,_⟩:=h; exact ⟨_,_,e,by decide⟩) | (obtain ⟨_,_,e,_⟩:=h; exact ⟨_,_,e,by decide⟩)
theorem uhb (l:List Fm) (h:∀ f ∈ l,f.bound.length<=f.sz):(kc9 l).length<=qc9 l:=by
 induction l with
 | nil=>simp [kc9,qc9]
 | cons f r ih =>
   have h1:=ih (fun g hg=>h g (List.mem_cons_of_mem _ hg));have h2:=h f List.mem_cons_self;simp only [kc9,qc9,List.flatMap_cons,List.length_append,List.map_cons,List.sum_cons] at *;omega
theorem Fm.bound_len (t:Fm):t.bound.length<=t.sz:=by
 induction t <;> simp [Fm.bound,Fm.sz] <;> omega
def yim (base:Nat) (l:List ByteArray) (W:World) (s:Value) (e:Ending) (W':World):Prop:=∃ s',e=.returned s'/\xc7 W' base s' l/\jc4 (ownB s) W (ownB s') W'
theorem qhx:(Tryz.prog.info? 9).map (fun i=>(i.zero,i.size,i.bytes))=some (some (.string ByteArray.empty),1,16):=by kernel_rfl
theorem xhm {w0:World} {L base:Nat} (n:Nat) :
 ∀ (t:Fm) (v:Value),t.sz < n->FmV w0 L t v->∀ (W:World) (s:Value) (l:List ByteArray),xc7 W base s l->base<=W.heap.size->l.length+t.sz<=1099511627776 ->
 Calls Tryz.prog 79 #[v,s] W (yim base (l ++ t.bound) W s):=by
 induction n with
 | zero=>intro t v ht; omega
 | succ n ih =>
 intro t v ht h W s l hR hb hl;have IH:=Lib.hid ih;have HR:=Lib.hid hR;have H:=Lib.hid h;clear ih hR;obtain ⟨i0,hi,hz0,hz1,hz2⟩:=info_parts qhx;have HI0:Hid (Tryz.prog.info? 9=some i0/\i0.zero=some (.string ByteArray.empty)/\i0.size=1/\i0.bytes=16):=by
  have:Tryz.prog.info? 9=some i0/\i0.zero=some (.string ByteArray.empty)/\i0.size=1/\i0.bytes=16:=⟨hi,hz0,hz1,hz2⟩;exact this
 clear hi hz0 hz1 hz2
 by_cases hn:t.isQuant=true
 · cases t with
   | quant al q f =>
     obtain ⟨x,rfl,hx⟩:=h;obtain ⟨T,x,rfl⟩:=hx.iface;clear hx;have hl1:l.length+(f.sz+1)<=1099511627776:=hl;go_enter Tryz.func79,Tryz.ntmps79
     go_wp2_with (at_builtin
                  refine wpList_append_own_at _ rfl (.tmp 15) (.tmp 18) _ rfl base 9 i0 (.string ByteArray.empty) 1 16 Tryz.underlying92 HI0.out.1 HI0.out.2.1 HI0.out.2.2.1 HI0.out.2.2.2 rfl (by omega) _ l.length (strs l) rfl (World.ownsRow.alloc (World.ownsRow.alloc HR.out _) _) ⟨W.heap.size+1,0,none⟩ 1 1 [.string q] rfl rfl (uiw ?_) ?_ ?_ ?_ ?_ ?_)
     · simp [go_sem]
     · simp [Value.oneCell']
     · unfold maxLen; omega
     · omega
     · simp; omega
     · intro v' w1 hown' hg' _ hat';have hr1:xc7 w1 base v' (l ++ [q]):=by
        unfold xc7;rw [yho]; simpa using hown'
       have hk1:jc4 (ownB s) W (ownB v') w1:=(jc4.of_ext (((Ext.refl W).alloc _).alloc _)).trans (jc4.of_append hg' (by simpa using hat'));have HR1:=Lib.hid hr1;have HK1:=Lib.hid hk1;have HLT1:=Lib.hid hr1.lt;have hw1:=hk1.size;clear hown' hg' hat' hr1 hk1;go_wp2_with fail;refine (wgv (Fm.quant al q f) H.out).mono ?_;rintro e w2 ⟨s2,rfl,hs,hf,hx⟩;obtain ⟨ks,hks⟩:=n_m ((Fm.quant al q f).kids);rw [hks] at hs;have HKS:=Lib.hid hks;have hlen:ks.length<=2:=by rw [<- hks]; exact Fm.kids_len _
       clear hks;obtain ⟨A,c,rfl⟩:=hs.len;have HS:=Lib.hid hs;have HF:=Lib.hid hf;have HX:=Lib.hid hx;have hw2:=hx.size;clear hs hf hx;go_wp2_with fail
       go_loopw [1,23] (fun lv iv wr=>∃ k:Nat,k<=ks.length/\iv=.int .i64 k/\Hid (xc7 wr base lv (l ++ [q] ++ kc9 (ks.take k))/\jc4 (ownB v') w2 (ownB lv) wr)) (fun _ iv _=>ks.length - (intOf iv).toNat)
       case atStart=>exact ⟨0,Nat.zero_le _,rfl,⟨by simpa [kc9] using HR1.out.ext HX.out,jc4.refl _ _⟩⟩
       case round =>
        obtain ⟨k,hk,rfl,⟨hR',hk'⟩⟩:=hrel;have HR':=Lib.hid hR';have HK':=Lib.hid hk';have hw':=hk'.size;clear hR' hk'
        by_cases hlt:k < ks.length
        · obtain ⟨ad,y,rfl,hc,hp⟩:=SlR.get_ (SlR.keeps HS.out HK'.out (fun ad n c e=>fun ho=>by
           have h1:=HF.out ad n c e;have h2:=(HLT1.out _ ho).2
           omega)) k hlt
          have HP:=Lib.hid hp;obtain ⟨U,y,rfl⟩:=hp.iface;clear hp;have hkl:ks[k].sz < (Fm.quant al q f).sz:=Fm.kids_lt _ _ (by rw [HKS.out]; exact List.getElem_mem hlt);have HLE:Hid ((l ++ [q] ++ kc9 (ks.take k)).length+ks[k].sz<=1099511627776):=by
           have h1:=uhb (ks.take k) (fun g _=>g.bound_len);have h2:qc9 (ks.take k)+ks[k].sz<=qc9 ks:=by
            have e1:qc9 (ks.take (k+1))=qc9 (ks.take k)+ks[k].sz:=by
             unfold qc9; rw [List.take_succ_eq_append_getElem hlt,List.map_append,List.sum_append,List.map_singleton,List.sum_singleton]
            have e2:qc9 ks=qc9 (ks.take (k+1))+qc9 (ks.drop (k+1)):=by
             unfold qc9; rw [<- List.sum_append,<- List.map_append,List.take_append_drop]
            omega
           have h3:=ug0 (Fm.quant al q f);rw [HKS.out] at h3;have:(l ++ [q] ++ kc9 (ks.take k)).length+ks[k].sz<=1099511627776:=by
            simp only [List.length_append,List.length_cons,List.length_nil];omega
           exact this
          go_wp2_with fail;refine (IH.out (ks[k]) _ (by omega) HP.out _ _ _ HR'.out (by omega) HLE.out).mono ?_;rintro e w3 ⟨s3,rfl,hR3,hk3⟩;have HR3:=Lib.hid hR3;have HK3:=Lib.hid hk3;clear hR3 hk3 hc;go_wp2_with fail
          go_roundw
          case rel=>exact ⟨k+1,by omega,by go_num,⟨by rw [gg9 _ _ hlt,<- List.append_assoc]; exact HR3.out,HK'.out.trans HK3.out⟩⟩
          case measure=>simp [intOf]; omega
        · have HKE:Hid (k=ks.length):=by
           have:k=ks.length:=by omega
           exact this
          go_wp2_with fail;go_ret;refine ⟨_,rfl,?_,(HK1.out.trans (jc4.of_ext HX.out)).trans HK'.out⟩;have:=HR'.out;rw [HKE.out,List.take_length,<- HKS.out] at this;simpa [Fm.bound,Fm.kids,kc9] using this
   | _=>simp [Fm.isQuant] at hn
 · have HN:Hid (t.isQuant=false):=by
    have:t.isQuant=false:=by simpa using hn
    exact this
   obtain ⟨T,x,rfl,hT⟩:=h.notQuant HN.out;clear h hn;have hlen:=t.kids_len;have HLT:=Lib.hid HR.out.lt;go_enter Tryz.func79,Tryz.ntmps79;go_wp2_with fail;refine (wgv t H.out).mono ?_;rintro e w2 ⟨s2,rfl,hs,hf,hx⟩;obtain ⟨A,c,rfl⟩:=hs.len;have HX:Hid (Ext W w2):=by
    have:Ext W w2:=((Ext.refl W).alloc _).trans hx;exact this
   have HS:=Lib.hid hs;have HF:=Lib.hid hf;have hw2:=HX.out.size;clear hs hf hx;go_wp2_with fail
   go_loopw [1,23] (fun lv iv wr=>∃ k:Nat,k<=t.kids.length/\iv=.int .i64 k/\Hid (xc7 wr base lv (l ++ kc9 (t.kids.take k))/\jc4 (ownB s) w2 (ownB lv) wr)) (fun _ iv _=>t.kids.length - (intOf iv).toNat)
   case atStart=>exact ⟨0,Nat.zero_le _,rfl,⟨by simpa [kc9] using HR.out.ext HX.out,jc4.refl _ _⟩⟩
   case round =>
    obtain ⟨k,hk,rfl,⟨hR',hk'⟩⟩:=hrel;have HR':=Lib.hid hR';have HK':=Lib.hid hk';have hw':=hk'.size;clear hR' hk'
    by_cases hlt:k < t.kids.length
    · obtain ⟨ad,y,rfl,hc,hp⟩:=SlR.get_ (SlR.keeps HS.out HK'.out (fun ad n c e=>fun ho=>by
       have h1:=HF.out ad n c e;have h2:=(HLT.out _ ho).2
       simp at h1; omega)) k hlt
      have HP:=Lib.hid hp;obtain ⟨U,y,rfl⟩:=hp.iface;clear hp;have hkl:t.kids[k].sz < t.sz:=Fm.kids_lt _ _ (List.getElem_mem hlt);have HLE:Hid ((l ++ kc9 (t.kids.take k)).length+t.kids[k].sz<=1099511627776):=by
       have h1:=uhb (t.kids.take k) (fun g _=>g.bound_len);have h2:qc9 (t.kids.take k)+t.kids[k].sz<=qc9 t.kids:=by
        have e1:qc9 (t.kids.take (k+1))=qc9 (t.kids.take k)+t.kids[k].sz:=by
         unfold qc9; rw [List.take_succ_eq_append_getElem hlt,List.map_append,List.sum_append,List.map_singleton,List.sum_singleton]
        have e2:qc9 t.kids=qc9 (t.kids.take (k+1))+qc9 (t.kids.drop (k+1)):=by
         unfold qc9; rw [<- List.sum_append,<- List.map_append,List.take_append_drop]
        omega
       have h3:=ug0 t;have:(l ++ kc9 (t.kids.take k)).length+t.kids[k].sz<=1099511627776:=by
        simp only [List.length_append];omega
       exact this
      go_wp2_with fail;refine (IH.out (t.kids[k]) _ (by omega) HP.out _ _ _ HR'.out (by omega) HLE.out).mono ?_;rintro e w3 ⟨s3,rfl,hR3,hk3⟩;have HR3:=Lib.hid hR3;have HK3:=Lib.hid hk3;clear hR3 hk3 hc;go_wp2_with fail
      go_roundw
      case rel=>exact ⟨k+1,by omega,by go_num,⟨by rw [gg9 _ _ hlt,<- List.append_assoc]; exact HR3.out,HK'.out.trans HK3.out⟩⟩
      case measure=>simp [intOf]; omega
    · have HKE:Hid (k=t.kids.length):=by
       have:k=t.kids.length:=by omega
       exact this
      go_wp2_with fail;go_ret;refine ⟨_,rfl,?_,(jc4.of_ext HX.out).trans HK'.out⟩;have:=HR'.out;rw [HKE.out,List.take_length,<- Fm.bound_kids t HN.out] at this;exact this
def uh6 (l:List ByteArray) (w:World) (e:Ending) (w':World):Prop:=∃ s,e=.returned s/\xc7 w' w.heap.size s l/\Ext w w'
theorem kil {w0 w:World} {L:Nat} (t:Fm) {v:Value} (h:FmV w0 L t v) (hl:t.sz<=1099511627776):Calls Tryz.prog 43 #[v] w (uh6 t.bound w):=by
 go_enter Tryz.func43,Tryz.ntmps43;go_wp2_with fail;refine (xhm (t.sz+1) t v (Nat.lt_succ_self _) h w _ [] (xc7.nil w w.heap.size) (Nat.le_refl _) (by simpa using hl)).mono ?_;rintro e w1 ⟨s1,rfl,hR,hk⟩;have hx:Ext w w1:=hk.ext (Ext.refl w) (fun i ho=>by unfold ownB at ho; simp [Value.ownBlock] at ho);have HX:=Lib.hid hx;have HR:=Lib.hid hR;clear hx hk hR h;go_wp2_with fail;go_ret;exact ⟨_,rfl,by simpa using HR.out,HX.out⟩
end Go.Proofs.YtopddaabiinboaaGreat

/- Layer 34: formula.Free: the names that occur free. -/
set_option maxRecDepth 100000
set_option maxHeartbeats 8000000
namespace Go.Proofs.YtopddaabiinboaaGreat
open Go.RowKit
def has (l:List ByteArray) (s:ByteArray):Bool:=l.any fun t=>decide (t=s)
theorem xit (l:List ByteArray) (s t:ByteArray):has (l ++ [s]) t=(has l t || decide (s=t)):=by simp [has]
structure qg1 (base Ma Ms ba bs bl : Nat) : Prop where
 h1:ba ≠ bl
 h2:ba ≠ Ms
 h3:bs ≠ bl
 h4:bs ≠ Ms
 h5:Ma ≠ bl
 h6:Ma ≠ Ms
 h7:bl ≠ Ms
 h8:ba ≠ Ma
 h9:bs ≠ Ma
 k1:ba < base
 k2:bs < base
 k3:bl < base
 k4:Ma < base
 k5:Ms < base
def xg1 (base Ma Ms ba bs bl N:Nat) (b:Nat) (W:World) (own:Nat->Prop) (acc:List ByteArray):Prop:=
 ∃ v ls,W.cell? ⟨ba,0,none⟩=some (.map (some Ma))/\W.cell? ⟨bs,0,none⟩=some (.map (some Ms))/\W.heap[bl]?=some (.cells #[v] 92 (0,0))/\zda W Ms ls/\(∀ s,(wda ls s).getD (.bool false)=.bool (has acc s)) /\
   xc7 W base v acc/\acc.length+b<=N/\(own=fun i=>i=bl\/i=Ms\/v.ownBlock=some i)/\base<=W.heap.size
def zdg (a:ByteArray->Int) (s:ByteArray) (acc:List ByteArray):List ByteArray:=if a s=0/\has acc s=false then acc ++ [s] else acc
section
variable {base Ma Ms ba bs bl N:Nat}
theorem xg1.turn {b b' : Nat} {W W' : World} {own : Nat -> Prop} {acc : List ByteArray} (h : xg1 base Ma Ms ba bs bl N b W own acc) (hb : b' <= b) (hs : W.heap.size <= W'.heap.size) (h1 : W'.heap[ba]? = W.heap[ba]?) (h2 : W'.heap[bs]? = W.heap[bs]?) (h3 : W'.heap[bl]? = W.heap[bl]?) (h4 : W'.heap[Ms]? = W.heap[Ms]?)
 (h5:∀ v acc,xc7 W base v acc->xc7 W' base v acc):xg1 base Ma Ms ba bs bl N b' W' own acc:=by
 obtain ⟨v,ls,c1,c2,c3,c4,c5,c6,c7,c8,c9⟩:=h;exact ⟨v,ls,(World.cell?_of_block h1).trans c1,(World.cell?_of_block h2).trans c2,h3.trans c3,c4.block h4,c5,h5 _ _ c6,by omega,c8,Nat.le_trans c9 hs⟩
theorem xg1.lts {b:Nat} {W:World} {own:Nat->Prop} {acc:List ByteArray} (h:xg1 base Ma Ms ba bs bl N b W own acc):ba < W.heap.size/\bs < W.heap.size/\bl < W.heap.size/\Ms < W.heap.size:=by
 obtain ⟨v,ls,c1,c2,c3,c4,c5,c6,c7,c8,c9⟩:=h;have lt:∀ {g:Nat} {x:Value},W.cell? ⟨g,0,none⟩=some x->g < W.heap.size:=fun {g x} hc=>by
  rcases Nat.lt_or_ge g W.heap.size with hlt | hge
  · exact hlt
  · simp [World.cell?,Array.getElem?_eq_none hge] at hc
 exact ⟨lt c1,lt c2,lt_of_block c3,c4.lt⟩
theorem xc7.only {w w':World} {base g:Nat} {v:Value} {l:List ByteArray} (h:xc7 w base v l) (hx:Only g w w') (hg:g < base):xc7 w' base v l:=
 World.ownsRow.kept h hx.g (.inr (fun e=>by have:=(h.lt g e).1; omega))
theorem vij:(Tryz.prog.info? 4).map (·.zero)=some (some (.bool false)):=by kernel_rfl
def qh0 (base Ma Ms ba bs bl N b:Nat) (W:World) (own:Nat->Prop) (acc:List ByteArray) (e:Ending) (W':World):Prop:=
 (∃ v,e=.returned v)/\∃ own',xg1 base Ma Ms ba bs bl N b W' own' acc/\jc4 own W own' W'
theorem vib (hd : qg1 base Ma Ms ba bs bl) {b : Nat} {W W1 w2 : World} {own : Nat -> Prop} {acc : List ByteArray} {s : ByteArray} {v v' : Value} {ls : List (ByteArray × Value)} {o : Obj}
 (c1:W.cell? ⟨ba,0,none⟩=some (.map (some Ma))) (c2:W.cell? ⟨bs,0,none⟩=some (.map (some Ms))) (c3:W.heap[bl]?=some (.cells #[v] 92 (0,0))) (c5:∀ s,(wda ls s).getD (.bool false)=.bool (has acc s)) (c6:xc7 W base v acc) (c8:own=fun i=>i=bl\/i=Ms\/v.ownBlock=some i)
 (hM1:zda W1 Ms (jgs ls s (.bool true))) (ho1:Only Ms W W1) (hb:base<=W.heap.size) (hN:acc.length+1+b<=N) (hg:(W1.alloc o).grownBy w2 v.ownBlock) (hown:w2.ownsRow base 9 1 v' (acc.length+1) (strs acc ++ [.string s])) (hat:v'.ownBlock=v.ownBlock\/v'.ownBlock=some (W1.alloc o).heap.size) :
 qh0 base Ma Ms ba bs bl N b W own (acc ++ [s]) (.returned (.tuple #[])) (w2.setCell ⟨bl,0,none⟩ v')/\w2.cell? ⟨bl,0,none⟩=some v/\w2.frozen? ⟨bl,0,none⟩=false:=by
 have hs1:=ho1.size;have k1:=hd.k1;have k2:=hd.k2;have k3:=hd.k3;have k5:=hd.k5;have hx1:Ext W1 (W1.alloc o):=(Ext.refl W1).alloc o;have hr0:=c6.lt;have low:∀ i,i < base->i ≠ Ms->w2.heap[i]?=W.heap[i]?:=fun i hi hne=>by
  rw [World.grownBy.block hg i (by simp; omega) (fun e=>by have:=(hr0 i e.symm).1; omega),hx1.below.block i (by omega)];exact ho1.block (by omega) hne
 have hMs:w2.heap[Ms]?=W1.heap[Ms]?:=by
  rw [World.grownBy.block hg Ms (by simp; omega) (fun e=>by have:=(hr0 Ms e.symm).1; omega),hx1.below.block Ms (by omega)]
 have hbl:w2.heap[bl]?=some (.cells #[v] 92 (0,0)):=by rw [low bl k3 hd.h7]; exact c3
 have hvlt:∀ k,v'.ownBlock=some k->base<=k/\k < w2.heap.size:=World.ownsRow.lt hown;have hs2:=World.grownBy.size hg;simp only [World.size_alloc] at hs2;refine ⟨⟨⟨_,rfl⟩,fun i=>i=bl\/i=Ms\/v'.ownBlock=some i,?_,?_⟩,cell_of_one hbl,free_of_one hbl⟩
 · refine ⟨v',jgs ls s (.bool true),?_,?_,one_setCell hbl,?_,?_,?_,?_,rfl,?_⟩
   · rw [World.cell?_of_block ((Below.heap_setCell w2 ⟨bl,0,none⟩ v' ba hd.h1).trans (low ba k1 hd.h2))]; exact c1
   · rw [World.cell?_of_block ((Below.heap_setCell w2 ⟨bl,0,none⟩ v' bs hd.h3).trans (low bs k2 hd.h4))]; exact c2
   · exact (hM1.block hMs).setCell _ _ (fun e=>hd.h7 e.symm)
   · intro t;rw [zhb,xit]
     by_cases ht:t=s
     · rw [if_pos ht]; simp [ht]
     · have ht':¬ s=t:=fun e=>ht e.symm
       rw [if_neg ht,c5]; simp [ht']
   · unfold xc7;rw [yho];have:=ownsRow_setCell_other hown (a:=⟨bl,0,none⟩) (fun e=>by have:=(hvlt bl e).1; omega) v';simpa using this
   · simp; omega
   · simp; omega
 · rw [c8];have q1:w2.os=W.os:=(World.grownBy.os hg).trans (hx1.below.os.trans (World.grownBy.os ho1));have q2:w2.tape=W.tape:=(World.grownBy.tape hg).trans (hx1.below.tape.trans (World.grownBy.tape ho1));have q3:w2.output=W.output:=(World.grownBy.output hg).trans (hx1.below.output.trans (World.grownBy.output ho1));refine ⟨q1,q2,q3,by simp; omega,fun i hi hn=>?_,fun i hi ho=>?_⟩
   · have n1:i ≠ bl:=fun e=>hn (.inl e)
     have n2:i ≠ Ms:=fun e=>hn (.inr (.inl e))
     have n3:¬ v.ownBlock=some i:=fun e=>hn (.inr (.inr e))
     rw [Below.heap_setCell w2 ⟨bl,0,none⟩ v' i n1,World.grownBy.block hg i (by simp; omega) (fun e=>n3 e.symm),hx1.below.block i (by omega)];exact ho1.block hi n2
   · rcases ho with h | h | h
     · exact .inl h
     · exact .inr (.inl h)
     · refine .inr (.inr ?_);rcases hat with k | k
       · rw [<- k]; exact h
       · rw [k] at h; injection h with e; simp at e; omega
theorem qik (hd:qg1 base Ma Ms ba bs bl) (hN:N<=1099511627776) (b:Nat) (a:ByteArray->Int) (W:World) (own:Nat->Prop) (acc:List ByteArray) (s:ByteArray) (hJ:xg1 base Ma Ms ba bs bl N (b+1) W own acc) (hA:gdd W Ma a) :
 Calls Tryz.prog 81 #[.string s,.pointer (some ⟨ba,0,none⟩),.pointer (some ⟨bs,0,none⟩),.pointer (some ⟨bl,0,none⟩)] W (qh0 base Ma Ms ba bs bl N b W own (zdg a s acc)):=by
 have HJ:=Lib.hid hJ;have HD:=Lib.hid hd;have hbd:=hJ.lts;obtain ⟨v,ls,c1,c2,c3,c4,c5,c6,c7,c8,c9⟩:=hJ;have hl:=hA.look s;have hls:(Instr.lookup 146 (.map (some Ms)) (.string s) false).run Tryz.prog W=.ok (.bool (has acc s)) W:=by
  have:=c4.look (P:=Tryz.prog) Tryz.underlying146 Tryz.underlying9 vij s false;rw [this,if_neg (by simp),c5]
 obtain ⟨hbd1,hbd2,hbd3,hbd4⟩:=hbd;have C3:=Lib.hid c3;have C4:=Lib.hid c4;have C5:=Lib.hid c5;have C6:=Lib.hid c6;have C8:=Lib.hid c8;have C2:=Lib.hid c2;have C1:=Lib.hid c1;have cl:=cell_of_one c3;have HA:=Lib.hid hA;clear c3 c4 c5 c6 c8 hA hd
 by_cases ha:a s=0
 · by_cases hh:has acc s=true
   · have hfin:zdg a s acc=acc:=by unfold zdg; rw [if_neg (by rw [hh]; simp)]
     rw [hfin];rw [ha] at hl;rw [hh] at hls;clear hfin ha hh cl;go_enter Tryz.func81,Tryz.ntmps81;go_wp2_with fail
     go_end0
     exact ⟨⟨_,rfl⟩,own,HJ.out.turn (by omega) (Nat.le_refl _) rfl rfl rfl rfl (fun _ _ h=>h),jc4.refl _ _⟩
   · have hh':has acc s=false:=by simpa using hh
     have hfin:zdg a s acc=acc ++ [s]:=by unfold zdg; rw [if_pos ⟨ha,hh'⟩]
     rw [hfin];rw [ha] at hl;rw [hh'] at hls;have HH:=Lib.hid hh';obtain ⟨W1,hput,hM1,ho1⟩:=C4.out.put (P:=Tryz.prog) Tryz.underlying146 Tryz.underlying9 s (.bool true);have cl1:W1.cell? ⟨bl,0,none⟩=some v:=by rw [ho1.cell (p:=⟨bl,0,none⟩) hbd3 HD.out.h7]; exact cl
     have c21:W1.cell? ⟨bs,0,none⟩=some (.map (some Ms)):=by rw [ho1.cell (p:=⟨bs,0,none⟩) hbd2 HD.out.h4]; exact c2
     have HM1:=Lib.hid hM1;have HO1:=Lib.hid ho1;have hw1:=ho1.size;obtain ⟨i0,hi,hz0,hz1,hz2⟩:=info_parts qhx;have HI0:Hid (Tryz.prog.info? 9=some i0/\i0.zero=some (.string ByteArray.empty)/\i0.size=1/\i0.bytes=16):=by
      have:Tryz.prog.info? 9=some i0/\i0.zero=some (.string ByteArray.empty)/\i0.size=1/\i0.bytes=16:=⟨hi,hz0,hz1,hz2⟩;exact this
     have HR1:Hid (xc7 W1 base v acc):=by
      have:xc7 W1 base v acc:=C6.out.only ho1 HD.out.k5;exact this
     clear hfin ha hh hh' hM1 ho1 hi hz0 hz1 hz2;go_enter Tryz.func81,Tryz.ntmps81
     go_wp2_with (at_builtin
                  refine wpList_append_own_at _ rfl (.tmp 17) (.tmp 19) _ rfl base 9 i0 (.string ByteArray.empty) 1 16 Tryz.underlying92 HI0.out.1 HI0.out.2.1 HI0.out.2.2.1 HI0.out.2.2.2 rfl (by omega) _ acc.length (strs acc) rfl (World.ownsRow.alloc HR1.out _) ⟨W1.heap.size,0,none⟩ 1 1 [.string s] rfl rfl (uiw ?_) ?_ ?_ ?_ ?_ ?_)
     · simp [go_sem]
     · simp [Value.oneCell']
     · unfold maxLen; omega
     · omega
     · simp; omega
     · intro v' w2 hown' hg' _ hat';obtain ⟨g',cap',rfl⟩:=ownsRow_succ hown';have hat2:(Value.slice (some ⟨g',0,none⟩) (acc.length+1) cap').ownBlock=v.ownBlock\/(Value.slice (some ⟨g',0,none⟩) (acc.length+1) cap').ownBlock=some (W1.alloc (Obj.cells #[.string s] 9)).heap.size:=by simpa using hat'
       obtain ⟨HF,hcl,hfl⟩:=vib (b:=b) (N:=N) HD.out C1.out C2.out C3.out C5.out C6.out C8.out HM1.out HO1.out c9 (by omega) hg' hown' hat2;have HFIN:=Lib.hid HF;clear HF hown' hg' hat' hat2 hput hl hls cl1 c21;go_wp2_with fail
       go_end0
       exact HFIN.out
 · have hfin:zdg a s acc=acc:=by unfold zdg; rw [if_neg (fun e=>ha e.1)]
   have hab:(a s == 0)=false:=by simpa using ha
   rw [hfin];clear hfin ha cl;go_enter Tryz.func81,Tryz.ntmps81;go_wp2_with fail
   go_end0
   exact ⟨⟨_,rfl⟩,own,HJ.out.turn (by omega) (Nat.le_refl _) rfl rfl rfl rfl (fun _ _ h=>h),jc4.refl _ _⟩
theorem kib (hd : qg1 base Ma Ms ba bs bl) (hN : N <= 1099511627776) : yg9 81 #[.pointer (some ⟨ba, 0, none⟩), .pointer (some ⟨bs, 0, none⟩), .pointer (some ⟨bl, 0, none⟩)] Ma (xg1 base Ma Ms ba bs bl N) zdg where
 enter:=fun args W=>by simp [go_sem]
 ext:=fun b W W' own acc h hx=>by
  obtain ⟨h1,h2,h3,h4⟩:=h.lts;exact h.turn (Nat.le_refl _) hx.size (hx.below.block _ h1) (hx.below.block _ h2) (hx.below.block _ h3) (hx.below.block _ h4) (fun v acc hr=>hr.ext hx)
 less:=fun b b' W own acc h hb=>h.turn hb (Nat.le_refl _) rfl rfl rfl rfl (fun _ _ h=>h)
 map:=fun b W W' own acc h ho=>by
  obtain ⟨h1,h2,h3,h4⟩:=h.lts;exact h.turn (Nat.le_refl _) ho.size (ho.block h1 hd.h8) (ho.block h2 hd.h9) (ho.block h3 (fun e=>hd.h5 e.symm)) (ho.block h4 (fun e=>hd.h6 e.symm)) (fun v acc hr=>hr.only ho hd.k4)
 lt:=fun b W own acc h i hi=>by
  obtain ⟨h1,h2,h3,h4⟩:=h.lts;obtain ⟨v,ls,c1,c2,c3,c4,c5,c6,c7,c8,c9⟩:=h;rw [c8] at hi;rcases hi with rfl | rfl | hi
  · exact h3
  · exact h4
  · exact (c6.lt i hi).2
 ne:=fun b W own acc h hi=>by
  obtain ⟨v,ls,c1,c2,c3,c4,c5,c6,c7,c8,c9⟩:=h;rw [c8] at hi;rcases hi with hi | hi | hi
  · exact hd.h5 hi
  · exact hd.h6 hi
  · have:=(c6.lt _ hi).1; have:=hd.k4; omega
 call:=fun b a W own acc s h hA=>qik hd hN b a W own acc s h hA
end
def Fm.free (t:Fm):List ByteArray:=t.fold zdg (fun _=>0) []
theorem qiu {w0 w:World} {L:Nat} (t:Fm) {v:Value} (h:FmV w0 L t v) (hl:t.sz<=1099511627776):Calls Tryz.prog 46 #[v] w (uh6 t.free w):=by
 have hmm:=@run_makeMap Tryz.prog;go_enter Tryz.func46,Tryz.ntmps46;go_wp2_with fail;obtain ⟨W,hW⟩:=n_m (((((w.alloc (Obj.cells #[.slice none 0 0] 92)).alloc (Obj.map #[] 0)).alloc (Obj.map #[] 0)).alloc (Obj.cells #[.map (some (w.heap.size+1))] 145)).alloc (Obj.cells #[.map (some (w.heap.size+1+1))] 146));rw [hW];have hsz:W.heap.size=w.heap.size+5:=by rw [<- hW]; simp
 have hx:Ext w W:=by rw [<- hW]; exact (((((Ext.refl w).alloc _).alloc _).alloc _).alloc _).alloc _
 have hd:qg1 (w.heap.size+5) (w.heap.size+1) (w.heap.size+1+1) (w.heap.size+1+1+1) (w.heap.size+1+1+1+1) w.heap.size:=by
  constructor <;> omega
 have m1:zda W (w.heap.size+1) []:=by
  rw [<- hW];have:=zda.made (w.alloc (Obj.cells #[.slice none 0 0] 92));rw [World.size_alloc] at this;exact ((this.alloc _).alloc _).alloc _
 have m2:zda W (w.heap.size+1+1) []:=by
  rw [<- hW];have:=zda.made ((w.alloc (Obj.cells #[.slice none 0 0] 92)).alloc (Obj.map #[] 0));rw [World.size_alloc,World.size_alloc] at this;exact (this.alloc _).alloc _
 have hJ:xg1 (w.heap.size+5) (w.heap.size+1) (w.heap.size+1+1) (w.heap.size+1+1+1) (w.heap.size+1+1+1+1) w.heap.size t.sz (0+t.sz) W (fun i=>i=w.heap.size\/i=w.heap.size+1+1\/(Value.slice none 0 0).ownBlock=some i) []:=by
  refine ⟨.slice none 0 0,[],?_,?_,?_,m2,fun s=>by simp [wda,has],xc7.nil _ _,by simp,rfl,by omega⟩
  · rw [<- hW]; simp [go_sem]
  · rw [<- hW]; simp [go_sem]
  · rw [<- hW,Below.heap_alloc _ _ _ (by simp; omega),Below.heap_alloc _ _ _ (by simp; omega),Below.heap_alloc _ _ _ (by simp; omega),Below.heap_alloc _ _ _ (by simp)];exact heap_alloc_new w _
 refine (yix (kib hd hl) (t.sz+1) t v (Nat.lt_succ_self _) h 0 W _ (fun _=>0) [] hJ ⟨[],m1,fun s=>by simp [wda]⟩ (fun s=>by omega)).mono ?_;rintro e w1 ⟨⟨v1,rfl⟩,own',hJ',hA',hk'⟩;have hx1:Ext w w1:=hk'.ext hx (fun i hi=>by
  rcases hi with (hi | hi | hi) | hi
  · omega
  · omega
  · simp [Value.ownBlock] at hi
  · omega)
 obtain ⟨v2,ls,c1,c2,c3,c4,c5,c6,c7,c8,c9⟩:=hJ';have cl:=cell_of_one c3;have HR:Hid (xc7 w1 w.heap.size v2 t.free):=by
  have:xc7 w1 w.heap.size v2 t.free:=by
   have h6:=c6;unfold xc7 World.ownsRow at h6 ⊢;refine ⟨h6.1,?_⟩;rcases h6.2 with h | ⟨g,cap,cur,h1,h2,h3⟩
   · exact .inl h
   · exact .inr ⟨g,cap,cur,h1,by omega,h3⟩
  exact this
 have HX1:=Lib.hid hx1;clear hW hx m1 m2 hJ hA' hk' hd c1 c2 c3 c4 c5 c6 c8 hx1;go_wp2_with fail;go_ret;exact ⟨_,rfl,HR.out,HX1.out⟩
theorem xc7.slr {w:World} {base:Nat} {v:Value} {l:List ByteArray} (h:xc7 w base v l):SlR (fun _ (s:ByteArray) x=>x=.string s) w v l:=by
 have h':=h;obtain ⟨h1,h2⟩:=h;rcases h2 with ⟨rfl,h0⟩ | ⟨g,cap,cur,rfl,hb,hg,hc,hm,-⟩
 · have:l=[]:=List.eq_nil_of_length_eq_zero h0;subst this;exact SlR.nil _ _
 · refine ⟨_,cap,rfl,hc,by unfold maxLen at hm; omega,fun j hj=>⟨_,_,rfl,(Array.getElem?_eq_some_iff.1 hg).1,?_,rfl⟩⟩;rw [zc9,Nat.zero_add,World.ownsRow.cellAt h' j (by omega)];simp [strs,hj]
end Go.Proofs.YtopddaabiinboaaGreat
