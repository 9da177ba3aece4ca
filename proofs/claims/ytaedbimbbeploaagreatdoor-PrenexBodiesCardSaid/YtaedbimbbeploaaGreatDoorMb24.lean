/- A call that returns a Bool. -/
import Derived.Test.YtaedbimbbeploaaGreatDoorMb0
import Derived.Test.YtaedbimbbeploaaGreatDoorMb10
import Derived.LoopTactic
import Derived.Test.YtaedbimbbeploaaGreatDoorMb23
set_option linter.unusedSimpArgs false
set_option linter.unusedVariables false

namespace Go.Proofs.YtaedbimbbeploaaGreatDoor
def qaj (b:Bool) (w:World) (e:Ending) (w':World):Prop:=e=.returned (.bool b)/\Ext w w'
end Go.Proofs.YtaedbimbbeploaaGreatDoor

/- Layer 34: the names that occur in terms and formulas, passed to a function. -/
set_option maxRecDepth 100000
set_option maxHeartbeats 8000000
namespace Go.Proofs.YtaedbimbbeploaaGreatDoor
open Go.RowKit
attribute [local go_sem] yac uz uac wab jac qac zac jw wz xac vac yaf ul kac kw
structure xe (own : Nat -> Prop) (W : World) (own' : Nat -> Prop) (W' : World) : Prop where
 os:W'.os=W.os
 tape:W'.tape=W.tape
 output:W'.output=W.output
 size:W.heap.size<=W'.heap.size
 block:∀ i,i < W.heap.size->¬ own i->W'.heap[i]?=W.heap[i]?
 own:∀ i,i < W.heap.size->own' i->own i
theorem xe.refl (own:Nat->Prop) (W:World):xe own W own W:=⟨rfl,rfl,rfl,Nat.le_refl _,fun _ _ _=>rfl,fun _ _ h=>h⟩
theorem xe.trans {o1 o2 o3:Nat->Prop} {a b c:World} (h:xe o1 a o2 b) (k:xe o2 b o3 c):xe o1 a o3 c:=
 ⟨k.os.trans h.os,k.tape.trans h.tape,k.output.trans h.output,Nat.le_trans h.size k.size,
   fun i hi hn=>(k.block i (Nat.lt_of_lt_of_le hi h.size) (fun ho=>hn (h.own i hi ho))).trans (h.block i hi hn),
   fun i hi ho=>h.own i hi (k.own i (Nat.lt_of_lt_of_le hi h.size) ho)⟩
theorem xe.of_ext {o:Nat->Prop} {a b:World} (h:Ext a b):xe o a o b:=
 ⟨h.below.os,h.below.tape,h.below.output,h.size,fun i hi _=>h.below.block i hi,fun _ _ h=>h⟩
theorem xe.ext {w0 a b:World} {o1 o2:Nat->Prop} (h:xe o1 a o2 b) (hx:Ext w0 a) (ho:∀ i,o1 i->w0.heap.size<=i):Ext w0 b:=
 ⟨h.os.trans hx.below.os,h.tape.trans hx.below.tape,h.output.trans hx.below.output,Nat.le_trans hx.size h.size,
   fun i hi=>(h.block i (Nat.lt_of_lt_of_le hi hx.size) (fun hh=>by have:=ho i hh; omega)).trans (hx.below.block i hi)⟩
theorem xe.cell {o1 o2:Nat->Prop} {a b:World} (h:xe o1 a o2 b) {p:Addr} (hp:p.block < a.heap.size) (hn:¬ o1 p.block):b.cell? p=a.cell? p:=World.cell?_of_block (h.block _ hp hn)
theorem SlR.keeps {α:Type} {P:α->Value->Prop} {w w':World} {v:Value} {l:List α} {o1 o2:Nat->Prop} (h:SlR (fun _=>P) w v l) (k:xe o1 w o2 w') (hn:∀ ad n c,v=.slice (some ad) n c->¬ o1 ad.block):SlR (fun _=>P) w' v l:=by
 obtain ⟨A,c,e,h1,h2,h3⟩:=h;refine ⟨A,c,e,h1,h2,fun j hj=>?_⟩;obtain ⟨ad,x,rfl,hb,hc,hp⟩:=h3 j hj;exact ⟨ad,x,rfl,Nat.lt_of_lt_of_le hb k.size,(k.cell (by rw [ja]; exact hb) (by rw [ja]; exact hn _ _ _ e)).trans hc,hp⟩
theorem SlR.get_ {α:Type} {P:α->Value->Prop} {w:World} {A:Option Addr} {n c:Nat} {l:List α} (h:SlR (fun _=>P) w (.slice A n c) l) (j:Nat) (hj:j < l.length):∃ ad x,A=some ad/\w.cell? (ad.add j)=some x/\P l[j] x:=by
 obtain ⟨A',c',e,-,-,h3⟩:=h;obtain ⟨ad,x,rfl,-,hc,hp⟩:=h3 j hj;injection e with e1 e2 e3
 exact ⟨ad,x,e1,hc,hp⟩
theorem SlR.len {α:Type} {P:World->α->Value->Prop} {w:World} {v:Value} {l:List α} (h:SlR P w v l):∃ A c,v=.slice A l.length c:=by
 obtain ⟨A',c',e,-⟩:=h;exact ⟨A',c',e⟩
structure qcd {α : Type} (K : Nat) (caps : Array Value) (I : Nat -> World -> (Nat -> Prop) -> α -> Prop) (step : ByteArray -> α -> α) : Prop where
 enter:∀ args W,(callFunc K args).run Tryz.prog W=.ok (.enter K args) W
 ext:∀ b W W' own acc,I b W own acc->Ext W W'->I b W' own acc
 less:∀ b b' W own acc,I b W own acc->b'<=b->I b' W own acc
 lt:∀ b W own acc,I b W own acc->∀ i,own i->i < W.heap.size
 call:∀ b W own acc s,I (b+1) W own acc->Calls Tryz.prog K (#[.string s] ++ caps) W fun e W'=>(∃ v,e=.returned v)/\∃ own',I b W' own' (step s acc)/\xe own W own' W'
def Tm.fold {α : Type} (st : ByteArray -> α -> α) : Tm -> α -> α
 | .num _,x=>x
 | .name s,x=>st s x
 | .add a b,x=>b.fold st (a.fold st x)
 | .sub a b,x=>b.fold st (a.fold st x)
 | .mul a b,x=>b.fold st (a.fold st x)
 | .neg a,x=>a.fold st x
 | .pow a _,x=>a.fold st x
def zas {α:Type} (st:ByteArray->α->α) (l:List Tm) (x:α):α:=l.foldl (fun acc k=>k.fold st acc) x
theorem ubj {α:Type} (st:ByteArray->α->α) (l:List Tm) (x:α) (k:Nat) (h:k < l.length):zas st (l.take (k+1)) x=(l[k]).fold st (zas st (l.take k) x):=by
 unfold zas;rw [List.take_succ_eq_append_getElem h,List.foldl_append]; rfl
def Tm.isName : Tm -> Bool
 | .name _=>true
 | _=>false
theorem Tm.fold_kids {α:Type} (st:ByteArray->α->α) (t:Tm) (x:α) (h:t.isName=false):t.fold st x=zas st t.kids x:=by
 cases t <;> simp_all [Tm.fold,Tm.kids,zas,Tm.isName]
def Tm.sz : Tm -> Nat
 | .num _=>1
 | .name _=>1
 | .add a b=>a.sz+b.sz+1
 | .sub a b=>a.sz+b.sz+1
 | .mul a b=>a.sz+b.sz+1
 | .neg a=>a.sz+1
 | .pow a _=>a.sz+1
theorem Tm.kids_lt (t k:Tm) (h:k ∈ t.kids):k.sz < t.sz:=by
 cases t <;> simp [Tm.kids] at h
 · rcases h with rfl | rfl <;> simp [Tm.sz] <;> omega
 · rcases h with rfl | rfl <;> simp [Tm.sz] <;> omega
 · rcases h with rfl | rfl <;> simp [Tm.sz] <;> omega
 · subst h; simp [Tm.sz]
 · subst h; simp [Tm.sz]
def gad (l:List Tm):Nat:=(l.map Tm.sz).sum
theorem ua8 (t:Tm):gad t.kids+1=t.sz:=by cases t <;> simp [Tm.kids,gad,Tm.sz] <;> omega
theorem xbz (l:List Tm) (k:Nat) (h:k < l.length):gad (l.drop k)=l[k].sz+gad (l.drop (k+1)):=by
 unfold gad;rw [List.drop_eq_getElem_cons h,List.map_cons,List.sum_cons]
theorem Tm.kids_len (t:Tm):t.kids.length<=2:=by cases t <;> simp [Tm.kids]
theorem TmV.notName {w:World} {L:Nat} {t:Tm} {v:Value} (h:TmV w L t v) (hn:t.isName=false):∃ T x,v=.iface T x/\¬ T=91:=by
 cases t <;> (simp only [TmV] at h) <;> first | (cases hn; done) | (obtain ⟨_,e,_⟩:=h; exact ⟨_,_,e,by decide⟩) | (obtain ⟨_,_,e,_⟩:=h; exact ⟨_,_,e,by decide⟩)
theorem kbc {α:Type} {K:Nat} {caps:Array Value} {I:Nat->World->(Nat->Prop)->α->Prop} {step:ByteArray->α->α} (V:qcd K caps I step) {w0:World} {L:Nat} (n:Nat) :
 ∀ (t:Tm) (v:Value),t.sz < n->TmV w0 L t v->∀ (b:Nat) (W:World) (own:Nat->Prop) (acc:α),I (b+t.sz) W own acc ->
 Calls Tryz.prog 133 #[v,.func (.func K) #[] caps] W fun e W'=>(∃ v,e=.returned v)/\∃ own',I b W' own' (t.fold step acc)/\xe own W own' W':=by
 induction n with
 | zero=>intro t v ht; omega
 | succ n ih =>
 intro t v ht h b W own acc hI;have IH:=Lib.hid ih;have hK:=V.enter;have HV:=Lib.hid V;have HI:=Lib.hid hI;have H:=Lib.hid h;clear ih V hI
 by_cases hn:t.isName=true
 · cases t with
   | name s =>
     obtain rfl:=h;go_enter Tryz.func133,Tryz.ntmps133;go_wp2_with fail;refine (HV.out.call b _ _ _ s (HV.out.ext _ _ _ _ _ HI.out ((Ext.refl W).alloc _))).mono ?_;rintro e w1 ⟨⟨v1,rfl⟩,own1,hI1,hk1⟩;have HI1:=Lib.hid hI1;have HK1:=Lib.hid (xe.trans (xe.of_ext ((Ext.refl W).alloc _)) hk1);clear hI1 hk1;go_wp2_with fail;refine (vam (.name s) H.out).mono ?_;rintro e w2 ⟨s2,rfl,hs,-,hx⟩;obtain ⟨A,c,rfl⟩:=hs.len;have HX:=Lib.hid hx;clear hs hx;simp only [Tm.kids,List.length_nil];go_wp2_with fail;refine wp_loop_rounds 1 ?_;rw [rounds_succ];go_wp2_with fail
     go_end0
     exact ⟨⟨_,rfl⟩,own1,HV.out.ext _ _ _ _ _ HI1.out HX.out,HK1.out.trans (xe.of_ext HX.out)⟩
   | _=>simp [Tm.isName] at hn
 · obtain ⟨T,x,rfl,hT⟩:=h.notName (by simpa using hn);have HN:Hid (t.isName=false):=by
    have:t.isName=false:=by simpa using hn
    exact this
   clear h hn;have hlen:=t.kids_len;go_enter Tryz.func133,Tryz.ntmps133;go_wp2_with fail;refine (vam t H.out).mono ?_;rintro e w1 ⟨s,rfl,hs,hf,hx⟩;obtain ⟨A,c,rfl⟩:=hs.len;have HX:Hid (Ext W w1):=by
    have:Ext W w1:=((Ext.refl W).alloc _).trans hx;exact this
   have HS:=Lib.hid hs;have HF:=Lib.hid hf;clear hs hf hx;go_wp2_with fail
   go_loopw [21] (fun iv wr=>∃ k:Nat,k<=t.kids.length/\iv=.int .i64 k/\Hid (∃ own',I (b+gad (t.kids.drop k)) wr own' (zas step (t.kids.take k) acc)/\xe own w1 own' wr)) (fun iv _=>t.kids.length - (intOf iv).toNat)
   case atStart =>
    exact ⟨0,Nat.zero_le _,rfl,⟨own,HV.out.less _ _ _ _ _ (HV.out.ext _ _ _ _ _ HI.out HX.out) (by have:=ua8 t; simp only [List.drop_zero]; omega),xe.refl _ _⟩⟩
   case round =>
    obtain ⟨k,hk,rfl,⟨own',hI',hk'⟩⟩:=hrel;have HI':=Lib.hid hI';have HK':=Lib.hid hk';clear hI' hk'
    by_cases hlt:k < t.kids.length
    · obtain ⟨ad,y,rfl,hc,hp⟩:=SlR.get_ (SlR.keeps HS.out HK'.out (fun ad n c e=>fun ho=>by
       have h1:=HF.out ad n c e;have h2:=HV.out.lt _ _ _ _ HI.out _ ho
       simp at h1; omega)) k hlt
      have HP:=Lib.hid hp;obtain ⟨U,y,rfl⟩:=hp.iface;clear hp;go_wp2_with fail;refine (IH.out (t.kids[k]) _ (by have:=t.kids_lt _ (List.getElem_mem hlt); omega) HP.out _ _ _ _ (by rw [xbz _ _ hlt,Nat.add_comm (t.kids[k]).sz,<- Nat.add_assoc] at HI'; exact HI'.out)).mono ?_;rintro e w2 ⟨⟨v2,rfl⟩,own2,hI2,hk2⟩;have HI2:=Lib.hid hI2;have HK2:=Lib.hid hk2;clear hI2 hk2 hc;go_wp2_with fail
      go_roundw
      case rel=>exact ⟨k+1,by omega,by go_num,⟨own2,by rw [ubj step _ _ _ hlt]; exact HI2.out,HK'.out.trans HK2.out⟩⟩
      case measure=>simp [intOf]; omega
    · have hke:k=t.kids.length:=by omega
      have HD:Hid (I b wr own' (t.fold step acc)):=by
       have:=HV.out.less _ b _ _ _ HI'.out (by omega);rw [hke,List.take_length,<- Tm.fold_kids step t acc HN.out] at this;exact this
      clear hke;go_wp2_with fail
      go_end0
      exact ⟨⟨_,rfl⟩,own',HD.out,(xe.of_ext HX.out).trans HK'.out⟩
end Go.Proofs.YtaedbimbbeploaaGreatDoor

/- Layer 34: formula.walk: the names that occur in a formula, passed to a function, with the quantifiers around them. -/
set_option maxRecDepth 100000
set_option maxHeartbeats 8000000
namespace Go.Proofs.YtaedbimbbeploaaGreatDoor
open Go.RowKit
attribute [local go_sem] yac uz uac wab jac qac zac jw wz xac vac yaf ul kac kw
def Fm.sz : Fm -> Nat
 | .truth _=>1
 | .atom a _ b=>a.sz+b.sz+1
 | .not f=>f.sz+1
 | .and f g=>f.sz+g.sz+1
 | .or f g=>f.sz+g.sz+1
 | .imp f g=>f.sz+g.sz+1
 | .iff f g=>f.sz+g.sz+1
 | .quant _ _ f=>f.sz+1
theorem Fm.kids_lt (t k:Fm) (h:k ∈ t.kids):k.sz < t.sz:=by
 cases t <;> simp [Fm.kids] at h
 · subst h; simp [Fm.sz]
 · rcases h with rfl | rfl <;> simp [Fm.sz] <;> omega
 · rcases h with rfl | rfl <;> simp [Fm.sz] <;> omega
 · rcases h with rfl | rfl <;> simp [Fm.sz] <;> omega
 · rcases h with rfl | rfl <;> simp [Fm.sz] <;> omega
 · subst h; simp [Fm.sz]
def uh (l:List Fm):Nat:=(l.map Fm.sz).sum
theorem uar (t:Fm):uh t.kids+1<=t.sz:=by cases t <;> simp [Fm.kids,uh,Fm.sz] <;> omega
theorem uba (l:List Fm) (k:Nat) (h:k < l.length):uh (l.drop k)=l[k].sz+uh (l.drop (k+1)):=by
 unfold uh;rw [List.drop_eq_getElem_cons h,List.map_cons,List.sum_cons]
theorem Fm.kids_len (t:Fm):t.kids.length<=2:=by cases t <;> simp [Fm.kids]
def bump (a:ByteArray->Int) (s:ByteArray):ByteArray->Int:=fun t=>if t=s then a t+1 else a t
def Fm.fold {α : Type} (st : (ByteArray -> Int) -> ByteArray -> α -> α) : Fm -> (ByteArray -> Int) -> α -> α
 | .truth _,_,x=>x
 | .atom l _ r,a,x=>r.fold (st a) (l.fold (st a) x)
 | .not f,a,x=>f.fold st a x
 | .and f g,a,x=>g.fold st a (f.fold st a x)
 | .or f g,a,x=>g.fold st a (f.fold st a x)
 | .imp f g,a,x=>g.fold st a (f.fold st a x)
 | .iff f g,a,x=>g.fold st a (f.fold st a x)
 | .quant _ s f,a,x=>f.fold st (bump a s) x
def uao {α:Type} (st:(ByteArray->Int)->ByteArray->α->α) (l:List Fm) (a:ByteArray->Int) (x:α):α:=l.foldl (fun acc k=>k.fold st a acc) x
theorem qa1 {α:Type} (st:(ByteArray->Int)->ByteArray->α->α) (l:List Fm) (a:ByteArray->Int) (x:α) (k:Nat) (h:k < l.length):uao st (l.take (k+1)) a x=(l[k]).fold st a (uao st (l.take k) a x):=by
 unfold uao;rw [List.take_succ_eq_append_getElem h,List.foldl_append]; rfl
def Fm.cls : Fm -> Nat
 | .atom _ _ _=>1
 | .quant _ _ _=>2
 | _=>0
theorem Fm.fold_kids {α:Type} (st:(ByteArray->Int)->ByteArray->α->α) (t:Fm) (a:ByteArray->Int) (x:α) (h:t.cls=0):t.fold st a x=uao st t.kids a x:=by
 cases t <;> simp_all [Fm.fold,Fm.kids,uao,Fm.cls]
theorem FmV.plain {w:World} {L:Nat} {t:Fm} {v:Value} (h:FmV w L t v) (hn:t.cls=0):∃ T x,v=.iface T x/\¬ T=93/\¬ T=95:=by
 cases t <;> (simp only [FmV] at h) <;> first | (cases hn; done) | exact ⟨_,_,h,by decide,by decide⟩ | (obtain ⟨_,e,_⟩:=h; exact ⟨_,_,e,by decide,by decide⟩) | (obtain ⟨_,_,e,_⟩:=h; exact ⟨_,_,e,by decide,by decide⟩)
def vab (w:World) (b:Nat) (a:ByteArray->Int):Prop:=∃ l,zq w b l/\∀ s,(qaa l s).getD (.int .i64 0)=.int .i64 (a s)
theorem vab.ext {w w':World} {b:Nat} {a:ByteArray->Int} (h:vab w b a) (hx:Ext w w'):vab w' b a:=by
 obtain ⟨l,h1,h2⟩:=h;exact ⟨l,h1.ext hx,h2⟩
theorem zq.block {w w':World} {b:Nat} {l:List (ByteArray × Value)} (h:zq w b l) (hx:w'.heap[b]?=w.heap[b]?):zq w' b l:=by
 obtain ⟨es,clock,hb,he⟩:=h;exact ⟨es,clock,hx.trans hb,he⟩
theorem vab.block {w w':World} {b:Nat} {a:ByteArray->Int} (h:vab w b a) (hx:w'.heap[b]?=w.heap[b]?):vab w' b a:=by
 obtain ⟨l,h1,h2⟩:=h;exact ⟨l,h1.block hx,h2⟩
theorem vab.lt {w:World} {b:Nat} {a:ByteArray->Int} (h:vab w b a):b < w.heap.size:=by
 obtain ⟨l,h1,h2⟩:=h;exact h1.lt
theorem kck:(Tryz.prog.info? 3).map (·.zero)=some (some (.int .i64 0)):=by kernel_rfl
theorem vab.look {w:World} {b:Nat} {a:ByteArray->Int} (h:vab w b a) (s:ByteArray):(Instr.lookup 105 (.map (some b)) (.string s) false).run Tryz.prog w=.ok (.int .i64 (a s)) w:=by
 obtain ⟨l,h1,h2⟩:=h;have:=h1.look Tryz.underlying105 Tryz.underlying9 kck s false;rw [this]; simp [h2]
theorem vab.put {w:World} {b:Nat} {a:ByteArray->Int} (h:vab w b a) (s:ByteArray) (n:Int):∃ w',(Instr.mapUpdate 105 (.map (some b)) (.string s) (.int .i64 n)).run Tryz.prog w=.ok () w'/\vab w' b (fun t=>if t=s then n else a t)/\Only b w w':=by
 obtain ⟨l,h1,h2⟩:=h;obtain ⟨w',e,h3,h4⟩:=h1.put (P:=Tryz.prog) Tryz.underlying105 Tryz.underlying9 s (.int .i64 n);refine ⟨w',e,⟨_,h3,fun t=>?_⟩,h4⟩;rw [ga0]
 by_cases ht:t=s
 · simp [ht]
 · simp [ht,h2]
structure gar {α : Type} (K : Nat) (caps : Array Value) (Ma : Nat) (J : Nat -> World -> (Nat -> Prop) -> α -> Prop) (step : (ByteArray -> Int) -> ByteArray -> α -> α) : Prop where
 enter:∀ args W,(callFunc K args).run Tryz.prog W=.ok (.enter K args) W
 ext:∀ b W W' own acc,J b W own acc->Ext W W'->J b W' own acc
 less:∀ b b' W own acc,J b W own acc->b'<=b->J b' W own acc
 map:∀ b W W' own acc,J b W own acc->Only Ma W W'->J b W' own acc
 lt:∀ b W own acc,J b W own acc->∀ i,own i->i < W.heap.size
 ne:∀ b W own acc,J b W own acc->¬ own Ma
 call:∀ b a W own acc s,J (b+1) W own acc->vab W Ma a->Calls Tryz.prog K (#[.string s] ++ caps) W fun e W'=>(∃ v,e=.returned v)/\∃ own',J b W' own' (step a s acc)/\xe own W own' W'
theorem gar.visits {α:Type} {K:Nat} {caps:Array Value} {Ma:Nat} {J:Nat->World->(Nat->Prop)->α->Prop} {step:(ByteArray->Int)->ByteArray->α->α} (V:gar K caps Ma J step) (a:ByteArray->Int) :
 qcd K caps (fun b W own acc=>J b W own acc/\vab W Ma a) (step a) where
 enter:=V.enter
 ext:=fun b W W' own acc h hx=>⟨V.ext b W W' own acc h.1 hx,h.2.ext hx⟩
 less:=fun b b' W own acc h hb=>⟨V.less b b' W own acc h.1 hb,h.2⟩
 lt:=fun b W own acc h=>V.lt b W own acc h.1
 call:=fun b W own acc s h=>(V.call b a W own acc s h.1 h.2).mono fun e W' ⟨h1,own',h2,h3⟩=>⟨h1,own',⟨h2,h.2.block (h3.block _ h.2.lt (V.ne _ _ _ _ h.1))⟩,h3⟩
def plus (own:Nat->Prop) (b:Nat):Nat->Prop:=fun i=>own i\/i=b
theorem xe.plus {o1 o2:Nat->Prop} {a b:World} (h:xe o1 a o2 b) (m:Nat):xe (plus o1 m) a (plus o2 m) b:=
 ⟨h.os,h.tape,h.output,h.size,fun i hi hn=>h.block i hi (fun ho=>hn (.inl ho)),fun i hi ho=>ho.elim (fun k=>.inl (h.own i hi k)) .inr⟩
theorem xe.of_only {o:Nat->Prop} {a b:World} {m:Nat} (h:Only m a b):xe (Go.Proofs.YtaedbimbbeploaaGreatDoor.plus o m) a (Go.Proofs.YtaedbimbbeploaaGreatDoor.plus o m) b:=
 ⟨World.grownBy.os h,World.grownBy.tape h,World.grownBy.output h,h.size,fun i hi hn=>h.block hi (fun e=>hn (.inr e)),fun _ _ h=>h⟩
def xap {α:Type} (Ma b:Nat) (J:Nat->World->(Nat->Prop)->α->Prop) (a:ByteArray->Int) (own:Nat->Prop) (W:World) (acc:α) (e:Ending) (W':World):Prop:=
 (∃ v,e=.returned v)/\∃ own',J b W' own' acc/\vab W' Ma a/\xe (plus own Ma) W (plus own' Ma) W'
section
variable {α:Type} {K:Nat} {caps:Array Value} {Ma:Nat} {J:Nat->World->(Nat->Prop)->α->Prop} {step:(ByteArray->Int)->ByteArray->α->α} {w0:World} {L:Nat}
def gbr (K:Nat) (caps:Array Value) (Ma:Nat) (J:Nat->World->(Nat->Prop)->α->Prop) (step:(ByteArray->Int)->ByteArray->α->α) (w0:World) (L n:Nat):Prop:=
 ∀ (t:Fm) (v:Value),t.sz < n->FmV w0 L t v->∀ (b:Nat) (W:World) (own:Nat->Prop) (a:ByteArray->Int) (acc:α),J (b+t.sz) W own acc->vab W Ma a->(∀ s,0<=a s/\a s+t.sz<=4611686018427387904) ->
   Calls Tryz.prog 76 #[v,.map (some Ma),.func (.func K) #[] caps] W (xap Ma b J a own W (t.fold step a acc))
theorem ub5 (V:gar K caps Ma J step) {l k:Tm} {r:Int} {v:Value} (h:FmV w0 L (.atom l r k) v) (b:Nat) (W:World) (own:Nat->Prop) (a:ByteArray->Int) (acc:α) (hJ:J (b+(Fm.atom l r k).sz) W own acc) (hA:vab W Ma a) :
 Calls Tryz.prog 76 #[v,.map (some Ma),.func (.func K) #[] caps] W (xap Ma b J a own W ((Fm.atom l r k).fold step a acc)):=by
 have H:=Lib.hid h;have HV:=Lib.hid V;have HJ:=Lib.hid hJ;have HA:=Lib.hid hA;clear V hJ hA;obtain ⟨x,y,rfl,hx,hy⟩:=h;have HX:=Lib.hid hx;have HY:=Lib.hid hy;obtain ⟨T,x,rfl⟩:=hx.iface;obtain ⟨U,y,rfl⟩:=hy.iface;clear hx hy;go_enter Tryz.func76,Tryz.ntmps76;go_wp2_with fail;have hlt:=HV.out.lt _ _ _ _ HJ.out;have HLT:=Lib.hid hlt;clear hlt;refine (kbc (HV.out.visits a) _ l _ (Nat.lt_succ_self _) HX.out (b+k.sz) _ own acc ⟨HV.out.less _ _ _ _ _ (HV.out.ext _ _ _ _ _ HJ.out ((Ext.refl W).alloc _)) (by simp only [Fm.sz]; omega),HA.out.ext ((Ext.refl W).alloc _)⟩).mono ?_;rintro e w1 ⟨⟨v1,rfl⟩,own1,⟨hJ1,hA1⟩,hk1⟩;have c2:w1.cell? ⟨W.heap.size,2,none⟩=some (.iface U y):=by
  rw [hk1.cell (p:=⟨W.heap.size,2,none⟩) (by simp) (fun ho=>by have:=HLT.out _ ho; simp at this)];simp [go_sem]
 have HJ1:=Lib.hid hJ1;have HA1:=Lib.hid hA1;have HK1:=Lib.hid (xe.trans (xe.of_ext ((Ext.refl W).alloc _)) hk1);clear hJ1 hA1 hk1;go_wp2_with fail;clear c2;refine (kbc (HV.out.visits a) _ k _ (Nat.lt_succ_self _) HY.out b _ own1 _ ⟨HJ1.out,HA1.out⟩).mono ?_;rintro e w2 ⟨⟨v2,rfl⟩,own2,⟨hJ2,hA2⟩,hk2⟩;have HJ2:=Lib.hid hJ2;have HA2:=Lib.hid hA2;have HK2:=Lib.hid (HK1.out.trans hk2);clear hJ2 hA2 hk2 HJ1 HA1 HK1;go_wp2_with fail;refine (jae (Fm.atom l r k) H.out).mono ?_;rintro e w3 ⟨s2,rfl,hs,-,hx⟩;obtain ⟨A,c,rfl⟩:=hs.len;have HX3:=Lib.hid (Ext.trans ((Ext.refl w2).alloc _) hx);clear hs hx;simp only [Fm.kids,List.length_nil];go_wp2_with fail;refine wp_loop_rounds 1 ?_;rw [rounds_succ];go_wp2_with fail
 go_end0
 exact ⟨⟨_,rfl⟩,own2,HV.out.ext _ _ _ _ _ HJ2.out HX3.out,HA2.out.ext HX3.out,(HK2.out.trans (xe.of_ext HX3.out)).plus Ma⟩
theorem kaj (V:gar K caps Ma J step) {n:Nat} (ih:gbr K caps Ma J step w0 L n) (t:Fm) (v:Value) (hcl:t.cls=0) (hsz:t.sz < n+1) (h:FmV w0 L t v) (b:Nat) (W:World) (own:Nat->Prop) (a:ByteArray->Int) (acc:α) (hJ:J (b+t.sz) W own acc) (hA:vab W Ma a) (hb:∀ s,0<=a s/\a s+t.sz<=4611686018427387904) :
 Calls Tryz.prog 76 #[v,.map (some Ma),.func (.func K) #[] caps] W (xap Ma b J a own W (t.fold step a acc)):=by
 have H:=Lib.hid h;have HV:=Lib.hid V;have HJ:=Lib.hid hJ;have HA:=Lib.hid hA;have HB:=Lib.hid hb;have HC:=Lib.hid hcl;have IH:=Lib.hid ih;have HLT:=Lib.hid (V.lt _ _ _ _ hJ);obtain ⟨T,x,rfl,hT,hT'⟩:=h.plain hcl;have hlen:=t.kids_len;clear h V hJ hA hb hcl ih;go_enter Tryz.func76,Tryz.ntmps76;go_wp2_with fail;refine (jae t H.out).mono ?_;rintro e w1 ⟨s,rfl,hs,hf,hx⟩;obtain ⟨A,c,rfl⟩:=hs.len;have HX:Hid (Ext W w1):=by
  have:Ext W w1:=(((Ext.refl W).alloc _).alloc _).trans hx;exact this
 have HS:=Lib.hid hs;have HF:=Lib.hid hf;clear hs hf hx;go_wp2_with fail
 go_loopw [40] (fun iv wr=>∃ k:Nat,k<=t.kids.length/\iv=.int .i64 k/\Hid (∃ own',J (b+uh (t.kids.drop k)) wr own' (uao step (t.kids.take k) a acc)/\vab wr Ma a/\xe (plus own Ma) w1 (plus own' Ma) wr)) (fun iv _=>t.kids.length - (intOf iv).toNat)
 case atStart =>
  exact ⟨0,Nat.zero_le _,rfl,⟨own,HV.out.less _ _ _ _ _ (HV.out.ext _ _ _ _ _ HJ.out HX.out) (by have:=uar t; simp only [List.drop_zero]; omega),HA.out.ext HX.out,xe.refl _ _⟩⟩
 case round =>
  obtain ⟨k,hk,rfl,⟨own',hJ',hA',hk'⟩⟩:=hrel;have HJ':=Lib.hid hJ';have HA':=Lib.hid hA';have HK':=Lib.hid hk';clear hJ' hA' hk'
  by_cases hlt:k < t.kids.length
  · obtain ⟨ad,y,rfl,hc,hp⟩:=SlR.get_ (SlR.keeps HS.out HK'.out (fun ad n c e=>fun ho=>by
     have h1:=HF.out ad n c e;have h3:=HA.out.lt;rcases ho with ho | ho
     · have h2:=HLT.out _ ho;simp at h1; omega
     · simp at h1; omega)) k hlt
    have HP:=Lib.hid hp;obtain ⟨U,y,rfl⟩:=hp.iface;clear hp;go_wp2_with fail;have hkl:=t.kids_lt _ (List.getElem_mem hlt);refine (IH.out (t.kids[k]) _ (by omega) HP.out _ _ _ _ _ (by rw [uba _ _ hlt,Nat.add_comm (t.kids[k]).sz,<- Nat.add_assoc] at HJ'; exact HJ'.out) HA'.out (fun s=>by have:=HB.out s; omega)).mono ?_;rintro e w2 ⟨⟨v2,rfl⟩,own2,hJ2,hA2,hk2⟩;have HJ2:=Lib.hid hJ2;have HA2:=Lib.hid hA2;have HK2:=Lib.hid hk2;clear hJ2 hA2 hk2 hc;go_wp2_with fail
    go_roundw
    case rel=>exact ⟨k+1,by omega,by go_num,⟨own2,by rw [qa1 step _ _ _ _ hlt]; exact HJ2.out,HA2.out,HK'.out.trans HK2.out⟩⟩
    case measure=>simp [intOf]; omega
  · have hke:k=t.kids.length:=by omega
    have HD:Hid (J b wr own' (t.fold step a acc)):=by
     have:=HV.out.less _ b _ _ _ HJ'.out (by omega);rw [hke,List.take_length,<- Fm.fold_kids step t a acc HC.out] at this;exact this
    clear hke;go_wp2_with fail
    go_end0
    exact ⟨⟨_,rfl⟩,own',HD.out,HA'.out,(xe.of_ext HX.out).trans HK'.out⟩
theorem gby (V:gar K caps Ma J step) {n:Nat} (ih:gbr K caps Ma J step w0 L n) {al:Bool} {s:ByteArray} {f:Fm} {v:Value} (hsz:(Fm.quant al s f).sz < n+1) (h:FmV w0 L (.quant al s f) v) (b:Nat) (W:World) (own:Nat->Prop) (a:ByteArray->Int) (acc:α) (hJ:J (b+(Fm.quant al s f).sz) W own acc) (hA:vab W Ma a) (hb:∀ t,0<=a t/\a t+(Fm.quant al s f).sz<=4611686018427387904) :
 Calls Tryz.prog 76 #[v,.map (some Ma),.func (.func K) #[] caps] W (xap Ma b J a own W ((Fm.quant al s f).fold step a acc)):=by
 have H:=Lib.hid h;have HV:=Lib.hid V;have HJ:=Lib.hid hJ;have HA:=Lib.hid hA;have HB:=Lib.hid hb;have IH:=Lib.hid ih;have HLT:=Lib.hid (V.lt _ _ _ _ hJ);obtain ⟨x,rfl,hx⟩:=h;have HX:=Lib.hid hx;obtain ⟨T,x,rfl⟩:=hx.iface;have hbs:=hb s;have hmlt:=hA.lt;obtain ⟨W2,hW2⟩:∃ W2,(W.alloc (Obj.cells #[.nilIface,.int .i64 0,.nilIface] 93)).alloc (Obj.cells #[.bool al,.string s,.iface T x] 95)=W2:=⟨_,rfl⟩;have hx2:Ext W W2:=by rw [<- hW2]; exact ((Ext.refl W).alloc _).alloc _
 have c1:W2.cell? ⟨W.heap.size+1,1,none⟩=some (.string s):=by rw [<- hW2]; simp [go_sem]
 have hsz2:W.heap.size+1 < W2.heap.size:=by rw [<- hW2]; simp
 have hA2:=hA.ext hx2;have hl:=hA2.look s;obtain ⟨W3,hp,hA3,ho3⟩:=hA2.put s (a s+1);have hA3':vab W3 Ma (bump a s):=by
  have:(fun t=>if t=s then a s+1 else a t)=bump a s:=by
   funext t; unfold bump; by_cases e:t=s
   · rw [if_pos e,if_pos e,e]
   · rw [if_neg e,if_neg e]
  rw [<- this]; exact hA3
 clear hx V hJ hA hb ih hA3;simp only [Fm.sz] at hbs;generalize hg:a s=q at *;have HG:=Lib.hid hg;have HC1:Hid (W3.cell? ⟨W.heap.size+1,1,none⟩=some (.string s)):=by
  have:W3.cell? ⟨W.heap.size+1,1,none⟩=some (.string s):=by rw [ho3.cell (p:=⟨W.heap.size+1,1,none⟩) (by simpa using hsz2) (by simp; omega)]; exact c1
  exact this
 have HJ3:Hid (J (b+(Fm.quant al s f).sz) W3 own acc):=by
  have:J (b+(Fm.quant al s f).sz) W3 own acc:=HV.out.map _ _ _ _ _ (HV.out.ext _ _ _ _ _ HJ.out hx2) ho3;exact this
 have HA3:=Lib.hid hA3';have HK3:Hid (xe (plus own Ma) W (plus own Ma) W3):=by
  have:xe (plus own Ma) W (plus own Ma) W3:=(xe.of_ext hx2).trans (xe.of_only ho3);exact this
 have hsz3:=ho3.size;clear hg hA3' ho3 hA2 hx2;go_enter Tryz.func76,Tryz.ntmps76;go_wp2_with fail;clear hl hp hW2 c1;refine (jae (Fm.quant al s f) H.out).mono ?_;rintro e w4 ⟨s4,rfl,hs,hf,hx⟩;obtain ⟨ks,hks⟩:∃ ks,(Fm.quant al s f).kids=ks:=⟨_,rfl⟩;rw [hks] at hs;have hlen:ks.length<=2:=by rw [<- hks]; exact Fm.kids_len _
 have HKS:=Lib.hid hks;clear hks;obtain ⟨A,c,rfl⟩:=hs.len;have HS:=Lib.hid hs;have HF:=Lib.hid hf;have HX4:=Lib.hid hx;clear hs hf hx;go_wp2_with fail
 go_loopw [40] (fun iv wr=>∃ k:Nat,k<=ks.length/\iv=.int .i64 k/\Hid (∃ own',J (b+uh (ks.drop k)) wr own' (uao step (ks.take k) (bump a s) acc)/\vab wr Ma (bump a s)/\xe (plus own Ma) w4 (plus own' Ma) wr)) (fun iv _=>ks.length - (intOf iv).toNat)
 case atStart =>
  exact ⟨0,Nat.zero_le _,rfl,⟨own,HV.out.less _ _ _ _ _ (HV.out.ext _ _ _ _ _ HJ3.out HX4.out) (by have:=uar (Fm.quant al s f); rw [HKS.out] at this; simp only [List.drop_zero]; omega),HA3.out.ext HX4.out,xe.refl _ _⟩⟩
 case round =>
  obtain ⟨k,hk,rfl,⟨own',hJ',hA',hk'⟩⟩:=hrel;have HJ':=Lib.hid hJ';have HA':=Lib.hid hA';have HK':=Lib.hid hk';clear hJ' hA' hk'
  by_cases hlt:k < ks.length
  · obtain ⟨ad,y,rfl,hc,hp⟩:=SlR.get_ (SlR.keeps HS.out HK'.out (fun ad n c e=>fun ho=>by
     have h1:=HF.out ad n c e;rcases ho with ho | ho
     · have h2:=HLT.out _ ho;omega
     · omega)) k hlt
    have HP:=Lib.hid hp;obtain ⟨U,y,rfl⟩:=hp.iface;clear hp;go_wp2_with fail;have hkl:ks[k].sz < (Fm.quant al s f).sz:=Fm.kids_lt _ _ (by rw [HKS.out]; exact List.getElem_mem hlt);refine (IH.out (ks[k]) _ (by omega) HP.out _ _ _ _ _ (by rw [uba _ _ hlt,Nat.add_comm (ks[k]).sz,<- Nat.add_assoc] at HJ'; exact HJ'.out) HA'.out (fun t=>by have:=HB.out t; unfold bump; split <;> omega)).mono ?_;rintro e w5 ⟨⟨v2,rfl⟩,own2,hJ2,hA2,hk2⟩;have HJ2:=Lib.hid hJ2;have HA2:=Lib.hid hA2;have HK2:=Lib.hid hk2;clear hJ2 hA2 hk2 hc;go_wp2_with fail
    go_roundw
    case rel=>exact ⟨k+1,by omega,by go_num,⟨own2,by rw [qa1 step _ _ _ _ hlt]; exact HJ2.out,HA2.out,HK'.out.trans HK2.out⟩⟩
    case measure=>simp [intOf]; omega
  · have HKE:Hid (k=ks.length):=by
     have:k=ks.length:=by omega
     exact this
    have c1:wr.cell? ⟨W.heap.size+1,1,none⟩=some (.string s):=by
     have hx4:=HX4.out;rw [HK'.out.cell (p:=⟨W.heap.size+1,1,none⟩) (by have:=hx4.size; simp; omega) (fun ho=>by
      rcases ho with ho | ho
      · have:=HLT.out _ ho; dsimp only at this; omega
      · simp at ho; omega),hx4.cell (p:=⟨W.heap.size+1,1,none⟩) (by simp; omega)]
     exact HC1.out
    have hb1:bump a s s=q+1:=by unfold bump; rw [if_pos rfl,HG.out]
    have hl:=HA'.out.look s;rw [hb1] at hl;obtain ⟨W6,hp,hA6,ho6⟩:=HA'.out.put s q;have HD:Hid (xap Ma b J a own W ((Fm.quant al s f).fold step a acc) (.returned (.tuple #[])) W6):=by
     have hJ6:J b W6 own' (Fm.fold step f (bump a s) acc):=by
      have:=HV.out.less _ b _ _ _ (HV.out.map _ _ _ _ _ HJ'.out ho6) (by omega);rw [HKE.out,List.take_length,<- HKS.out] at this;exact this
     have hA6':vab W6 Ma a:=by
      have:(fun t=>if t=s then q else bump a s t)=a:=by
       funext t; unfold bump; by_cases e:t=s
       · rw [if_pos e,e,HG.out]
       · rw [if_neg e,if_neg e]
      rw [<- this]; exact hA6
     exact ⟨⟨_,rfl⟩,own',hJ6,hA6',((HK3.out.trans (xe.of_ext HX4.out)).trans HK'.out).trans (xe.of_only ho6)⟩
    clear hb1 hA6 ho6 HG;go_wp2_with fail
    go_end0
    exact HD.out
theorem xbw (V:gar K caps Ma J step) (n:Nat):gbr K caps Ma J step w0 L n:=by
 induction n with
 | zero=>intro t v ht; omega
 | succ n ih =>
   intro t v ht h b W own a acc hJ hA hb;cases t with
   | atom l r k=>exact ub5 V h b W own a acc hJ hA
   | quant al s f=>exact gby V ih ht h b W own a acc hJ hA hb
   | truth tb=>exact kaj V ih _ v rfl ht h b W own a acc hJ hA hb
   | not f=>exact kaj V ih _ v rfl ht h b W own a acc hJ hA hb
   | and f g=>exact kaj V ih _ v rfl ht h b W own a acc hJ hA hb
   | or f g=>exact kaj V ih _ v rfl ht h b W own a acc hJ hA hb
   | imp f g=>exact kaj V ih _ v rfl ht h b W own a acc hJ hA hb
   | iff f g=>exact kaj V ih _ v rfl ht h b W own a acc hJ hA hb
end
end Go.Proofs.YtaedbimbbeploaaGreatDoor

/- Formulas all of whose terms are as P says. -/
namespace Go.Proofs.YtaedbimbbeploaaGreatDoor
open Go.RowKit
def Fm.terms (P : Tm -> Prop) : Fm -> Prop
 | .truth _=>True
 | .atom l _ k=>P l/\P k
 | .not f=>f.terms P
 | .and f g=>f.terms P/\g.terms P
 | .or f g=>f.terms P/\g.terms P
 | .imp f g=>f.terms P/\g.terms P
 | .iff f g=>f.terms P/\g.terms P
 | .quant _ _ f=>f.terms P
theorem Fm.terms_kids {P:Tm->Prop} (f:Fm) (h:f.terms P):∀ g ∈ f.kids,g.terms P:=by
 cases f with
 | truth b=>intro g hg; cases hg
 | atom l r k=>intro g hg; cases hg
 | not f=>intro g hg; obtain rfl:=List.mem_singleton.1 hg; exact h
 | and f k =>
   intro g hg;simp only [Fm.kids,List.mem_cons,List.not_mem_nil,or_false] at hg;rcases hg with rfl | rfl
   · exact h.1
   · exact h.2
 | or f k =>
   intro g hg;simp only [Fm.kids,List.mem_cons,List.not_mem_nil,or_false] at hg;rcases hg with rfl | rfl
   · exact h.1
   · exact h.2
 | imp f k =>
   intro g hg;simp only [Fm.kids,List.mem_cons,List.not_mem_nil,or_false] at hg;rcases hg with rfl | rfl
   · exact h.1
   · exact h.2
 | iff f k =>
   intro g hg;simp only [Fm.kids,List.mem_cons,List.not_mem_nil,or_false] at hg;rcases hg with rfl | rfl
   · exact h.1
   · exact h.2
 | quant a s f=>intro g hg; obtain rfl:=List.mem_singleton.1 hg; exact h
end Go.Proofs.YtaedbimbbeploaaGreatDoor

/- Layer 34: formula.termNodes, Nodes, Atoms, small, limited. -/
set_option maxRecDepth 100000
set_option maxHeartbeats 8000000
namespace Go.Proofs.YtaedbimbbeploaaGreatDoor
open Go.RowKit
attribute [local go_sem] yac uz uac wab jac qac zac jw wz xac vac yaf ul kac kw
theorem ybz (l:List Tm) (k:Nat) (h:k < l.length):gad (l.take (k+1))=gad (l.take k)+l[k].sz:=by
 unfold gad; rw [List.take_succ_eq_append_getElem h,List.map_append,List.sum_append,List.map_singleton,List.sum_singleton]
theorem zb4 (l:List Fm) (k:Nat) (h:k < l.length):uh (l.take (k+1))=uh (l.take k)+l[k].sz:=by
 unfold uh; rw [List.take_succ_eq_append_getElem h,List.map_append,List.sum_append,List.map_singleton,List.sum_singleton]
theorem wcd (l:List Tm) (k:Nat):gad (l.take k)<=gad l:=by
 have:gad l=gad (l.take k)+gad (l.drop k):=by unfold gad; rw [<- List.sum_append,<- List.map_append,List.take_append_drop]
 omega
theorem ucl (l:List Fm) (k:Nat):uh (l.take k)<=uh l:=by
 have:uh l=uh (l.take k)+uh (l.drop k):=by unfold uh; rw [<- List.sum_append,<- List.map_append,List.take_append_drop]
 omega
theorem gbj {w0:World} {L:Nat} (n:Nat):∀ (t:Tm) (v:Value) (W:World),t.sz < n->t.sz<=1099511627776->TmV w0 L t v->Calls Tryz.prog 149 #[v] W (waa t.sz W):=by
 induction n with
 | zero=>intro t v W h; omega
 | succ n ih =>
   intro t v W hn hb h;have IH:=Lib.hid ih;have H:=Lib.hid h;obtain ⟨T,x,rfl⟩:=h.iface;have hlen:=t.kids_len;have hks:=ua8 t;clear ih h;go_enter Tryz.func149,Tryz.ntmps149;go_wp2_with fail;refine (vam t H.out).mono ?_;rintro e w2 ⟨s2,rfl,hs,-,hx⟩;obtain ⟨A,c,rfl⟩:=hs.len;have HS:=Lib.hid hs;have HX:=Lib.hid hx;clear hs hx;go_wp2_with fail
   go_loopw [3,9] (fun av iv wr=>∃ k:Nat,k<=t.kids.length/\iv=.int .i64 k/\av=.int .i64 (1+gad (t.kids.take k):Nat)/\Hid (Ext w2 wr)) (fun _ iv _=>t.kids.length - (intOf iv).toNat)
   case atStart=>exact ⟨0,Nat.zero_le _,rfl,rfl,Ext.refl _⟩
   case round =>
    obtain ⟨k,hk,rfl,rfl,hx0⟩:=hrel;have HXR:=Lib.hid hx0.out;clear hx0
    by_cases hlt:k < t.kids.length
    · obtain ⟨ad,y,rfl,hc,hp⟩:=SlR.get_ (SlR.ext HS.out (fun _ _ h=>h) HXR.out) k hlt;have HP:=Lib.hid hp;obtain ⟨U,y,rfl⟩:=hp.iface;clear hp;have hkl:t.kids[k].sz < t.sz:=Tm.kids_lt _ _ (List.getElem_mem hlt);have hst:=ybz t.kids k hlt;have hsl:=wcd t.kids (k+1);obtain ⟨a,ha⟩:∃ a,1+gad (t.kids.take k)=a:=⟨_,rfl⟩;have HA:Hid (1+gad (t.kids.take (k+1))=a+t.kids[k].sz):=Lib.hid (by omega);have IH1:=Lib.hid (IH.out t.kids[k] (.iface U y) wr (by omega) (by omega) HP.out);rw [ha];have hw:IntKind.i64.wrap ((a:Int)+(t.kids[k].sz:Int))=((a+t.kids[k].sz:Nat):Int):=by rw [IntKind.wrap_i64]; omega
      clear ha hst hsl;generalize t.kids[k].sz=z at *;go_wp2_with fail;refine IH1.out.mono ?_;rintro e w3 ⟨rfl,x3⟩;have X3:=Lib.hid (HXR.out.trans x3);clear x3 hc;go_wp2_with fail
      go_roundw
      case rel=>exact ⟨k+1,by omega,by go_num,by rw [HA.out,Int.natCast_add],X3⟩
      case measure=>simp [intOf]; omega
    · have hke:k=t.kids.length:=by omega
      have HZ:Hid (1+gad (t.kids.take k)=t.sz):=Lib.hid (by rw [hke,List.take_length]; omega);rw [HZ.out];go_wp2_with fail;go_ret;exact ⟨rfl,HX.out.trans HXR.out⟩
theorem gay {w0 W:World} {L:Nat} (t:Tm) {v:Value} (hb:t.sz<=1099511627776) (h:TmV w0 L t v):Calls Tryz.prog 149 #[v] W (waa t.sz W):=gbj (t.sz+1) t v W (Nat.lt_succ_self _) hb h
def Fm.isAtom : Fm -> Bool
 | .atom _ _ _=>true
 | _=>false
theorem FmV.two {w:World} {L:Nat} {f:Fm} {v:Value} (h:FmV w L f v):(∃ l r k x y,f=.atom l r k/\v=.iface 93 (.agg #[x,.int .i64 r,y])/\TmV w L l x/\TmV w L k y)\/(f.isAtom=false/\∃ T x,v=.iface T x/\¬ T=93):=by
 cases f <;> (simp only [FmV] at h)
 · exact .inr ⟨rfl,_,_,h,by decide⟩
 · obtain ⟨x,y,e,h1,h2⟩:=h;exact .inl ⟨_,_,_,x,y,rfl,e,h1,h2⟩
 all_goals first | (obtain ⟨_,e,_⟩:=h; exact .inr ⟨rfl,_,_,e,by decide⟩) | (obtain ⟨_,_,e,_⟩:=h; exact .inr ⟨rfl,_,_,e,by decide⟩)
theorem Fm.sz_kids (f:Fm) (h:f.isAtom=false):f.sz=1+uh f.kids:=by cases f <;> simp_all [Fm.isAtom,Fm.kids,uh,Fm.sz] <;> omega
def Fm.atoms : Fm -> Nat
 | .truth _=>0
 | .atom _ _ _=>1
 | .not f=>f.atoms
 | .and f g=>f.atoms+g.atoms
 | .or f g=>f.atoms+g.atoms
 | .imp f g=>f.atoms+g.atoms
 | .iff f g=>f.atoms+g.atoms
 | .quant _ _ f=>f.atoms
def xah (l:List Fm):Nat:=(l.map Fm.atoms).sum
theorem yb4 (l:List Fm) (k:Nat) (h:k < l.length):xah (l.take (k+1))=xah (l.take k)+l[k].atoms:=by
 unfold xah; rw [List.take_succ_eq_append_getElem h,List.map_append,List.sum_append,List.map_singleton,List.sum_singleton]
theorem gcl (l:List Fm) (k:Nat):xah (l.take k)<=xah l:=by
 have:xah l=xah (l.take k)+xah (l.drop k):=by unfold xah; rw [<- List.sum_append,<- List.map_append,List.take_append_drop]
 omega
theorem Fm.atoms_le (f:Fm):f.atoms<=f.sz:=by induction f <;> simp only [Fm.atoms,Fm.sz] <;> omega
theorem Fm.atoms_kids (f:Fm):f.atoms=(if f.isAtom then 1 else 0)+xah f.kids:=by cases f <;> simp [Fm.isAtom,Fm.kids,xah,Fm.atoms]
theorem xci {w0:World} {L:Nat} (n:Nat):∀ (f:Fm) (v:Value) (W:World),f.sz < n->f.sz<=1099511627776->FmV w0 L f v->Calls Tryz.prog 93 #[v] W (waa f.sz W):=by
 induction n with
 | zero=>intro t v W h; omega
 | succ n ih =>
   intro f v W hn hb h;have IH:=Lib.hid ih;have H:=Lib.hid h;have hlen:=f.kids_len;clear ih;rcases h.two with ⟨l,r,k,x,y,rfl,rfl,hl,hr⟩ | ⟨hna,T,x,rfl,hT⟩
   · have hbb:l.sz+k.sz+1<=1099511627776:=hb;have HL:=Lib.hid (fun W'=>gay (W:=W') l (by omega) hl);have HR:=Lib.hid (fun W'=>gay (W:=W') k (by omega) hr);obtain ⟨T,x,rfl⟩:=hl.iface;obtain ⟨U,y,rfl⟩:=hr.iface;have HZ:Hid ((Fm.atom l r k).sz=l.sz+k.sz+1):=Lib.hid rfl;rw [HZ.out];obtain ⟨a,ha⟩:∃ a,l.sz=a:=⟨_,rfl⟩;obtain ⟨b,hb'⟩:∃ b,k.sz=b:=⟨_,rfl⟩;rw [ha] at HL hbb ⊢;rw [hb'] at HR hbb ⊢;obtain ⟨c,hc⟩:∃ c,a+b=c:=⟨_,rfl⟩;have hw1:IntKind.i64.wrap ((a:Int)+(b:Int))=(c:Int):=by rw [IntKind.wrap_i64]; omega
     have hw2:IntKind.i64.wrap (1+(c:Int))=((c+1:Nat):Int):=by rw [IntKind.wrap_i64]; omega
     rw [hc];clear h hl hr hb hn ha hb' hc HZ hlen;go_enter Tryz.func93,Tryz.ntmps93;obtain ⟨W1,hW⟩:∃ W1,W.alloc (.cells #[.iface T x,.int .i64 r,.iface U y] 93)=W1:=⟨_,rfl⟩;have HB:Hid (∀ W',Ext W1 W'->(Ext W1 W'/\W'.cell? ⟨W.heap.size,0,none⟩=some (.iface T x)/\W'.cell? ⟨W.heap.size,2,none⟩=some (.iface U y))):=by
      intro W' hx;obtain ⟨hc,hf⟩:=hx.cells;refine ⟨hx,?_,?_⟩ <;> (rw [hc _ _ (by rw [<- hW]; simp),<- hW]; simp [go_sem])
     have HX0:Hid (Ext W W1):=Lib.hid (by rw [<- hW]; exact (Ext.refl W).alloc _);go_upto_region 4 with fail;clear hW
     go_region_held3 (fun W' => Ext W1 W' /\ W'.cell? ⟨W.heap.size, 0, none⟩ = some (.iface T x) /\ W'.cell? ⟨W.heap.size, 2, none⟩ = some (.iface U y))
      (first | exact HB.out _ ((Ext.refl W1).drew) | exact HB.out _ (by assumption))
      (first
        | (go_at_call_of 149 (Value.iface T x)
           refine (HL.out _).mono ?_;rintro e v1 ⟨rfl,x1⟩
           have y1:Ext W1 v1:=Ext.trans ((Ext.refl W1).drew) x1)
        | (go_at_call_of 149 (Value.iface U y)
           refine (HR.out _).mono ?_;rintro e v2 ⟨rfl,x2⟩
           have y2:Ext W1 v2:=Ext.trans y1 x2))
     have HY2:=Lib.hid (HX0.out.trans y2);clear y1 y2 x1 x2 HB HX0;go_wp2_with fail;refine (jae (Fm.atom l r k) H.out).mono ?_;rintro e w2 ⟨s2,rfl,hs,-,hx⟩;obtain ⟨A,cc,rfl⟩:=hs.len;have HX:=Lib.hid (HY2.out.trans hx);have hl0:(Fm.atom l r k).kids.length=0:=rfl;rw [hl0];clear hs hx hl0 HY2;go_wp2_with fail
     go_loopw [3,26] (fun av iv wr=>iv=.int .i64 0/\av=.int .i64 (c+1:Nat)/\Hid (Ext W wr)) (fun _ _ _=>0)
     case atStart=>exact ⟨rfl,rfl,HX⟩
     case round =>
      obtain ⟨rfl,rfl,hx0⟩:=hrel;go_wp2_with fail;go_ret;exact ⟨rfl,hx0.out⟩
   · have hks:=f.sz_kids hna;clear h hna;go_enter Tryz.func93,Tryz.ntmps93;go_wp2_with fail;refine (jae f H.out).mono ?_;rintro e w2 ⟨s2,rfl,hs,-,hx⟩;obtain ⟨A,c,rfl⟩:=hs.len;have HS:=Lib.hid hs;have HX:=Lib.hid (Ext.trans ((Ext.refl W).alloc _) hx);clear hs hx;go_wp2_with fail
     go_loopw [3,26] (fun av iv wr=>∃ k:Nat,k<=f.kids.length/\iv=.int .i64 k/\av=.int .i64 (1+uh (f.kids.take k):Nat)/\Hid (Ext w2 wr)) (fun _ iv _=>f.kids.length - (intOf iv).toNat)
     case atStart=>exact ⟨0,Nat.zero_le _,rfl,rfl,Ext.refl _⟩
     case round =>
      obtain ⟨k,hk,rfl,rfl,hx0⟩:=hrel;have HXR:=Lib.hid hx0.out;clear hx0
      by_cases hlt:k < f.kids.length
      · obtain ⟨ad,y,rfl,hc,hp⟩:=SlR.get_ (SlR.ext HS.out (fun _ _ h=>h) HXR.out) k hlt;have HP:=Lib.hid hp;obtain ⟨U,y,rfl⟩:=hp.iface;clear hp;have hkl:f.kids[k].sz < f.sz:=Fm.kids_lt _ _ (List.getElem_mem hlt);have hst:=zb4 f.kids k hlt;have hsl:=ucl f.kids (k+1);obtain ⟨a,ha⟩:∃ a,1+uh (f.kids.take k)=a:=⟨_,rfl⟩;have HA:Hid (1+uh (f.kids.take (k+1))=a+f.kids[k].sz):=Lib.hid (by omega);have IH1:=Lib.hid (IH.out f.kids[k] (.iface U y) wr (by omega) (by omega) HP.out);rw [ha];have hw:IntKind.i64.wrap ((a:Int)+(f.kids[k].sz:Int))=((a+f.kids[k].sz:Nat):Int):=by rw [IntKind.wrap_i64]; omega
        clear ha hst hsl;generalize f.kids[k].sz=z at *;go_wp2_with fail;refine IH1.out.mono ?_;rintro e w3 ⟨rfl,x3⟩;have X3:=Lib.hid (HXR.out.trans x3);clear x3 hc;go_wp2_with fail
        go_roundw
        case rel=>exact ⟨k+1,by omega,by go_num,by rw [HA.out,Int.natCast_add],X3⟩
        case measure=>simp [intOf]; omega
      · have hke:k=f.kids.length:=by omega
        have HZ:Hid (1+uh (f.kids.take k)=f.sz):=Lib.hid (by rw [hke,List.take_length]; omega);rw [HZ.out];go_wp2_with fail;go_ret;exact ⟨rfl,HX.out.trans HXR.out⟩
theorem yca {w0 W:World} {L:Nat} (f:Fm) {v:Value} (hb:f.sz<=1099511627776) (h:FmV w0 L f v):Calls Tryz.prog 93 #[v] W (waa f.sz W):=xci (f.sz+1) f v W (Nat.lt_succ_self _) hb h
theorem yco {w0:World} {L:Nat} (n:Nat):∀ (f:Fm) (v:Value) (W:World),f.sz < n->f.sz<=1099511627776->FmV w0 L f v->Calls Tryz.prog 94 #[v] W (waa f.atoms W):=by
 induction n with
 | zero=>intro t v W h; omega
 | succ n ih =>
   intro f v W hn hb h;have IH:=Lib.hid ih;have H:=Lib.hid h;have hlen:=f.kids_len;have hks:=f.atoms_kids;have hal:=f.atoms_le;clear ih;obtain ⟨s0,hs0⟩:∃ s0:Nat,(if f.isAtom then 1 else 0)=s0:=⟨_,rfl⟩;rw [hs0] at hks;have HS0:=Lib.hid hs0;have hfl:=h;clear hs0;rcases h.two with ⟨l,r,k0,x,y,hfe,rfl,hl,hr⟩ | ⟨hna,T,x,rfl,hT⟩
   focus
    obtain ⟨T,x,rfl⟩:=hl.iface;obtain ⟨U,y,rfl⟩:=hr.iface;have HQ:Hid (s0=1):=Lib.hid (by rw [<- HS0.out,hfe]; rfl);clear hl hr h hfl HS0 hfe;go_enter Tryz.func94,Tryz.ntmps94;go_upto_region 5 with fail
   rotate_left
   focus
    have HQ:Hid (s0=0):=Lib.hid (by rw [<- HS0.out,hna]; rfl);clear h hfl HS0 hna;go_enter Tryz.func94,Tryz.ntmps94;go_upto_region 5 with fail
   all_goals
    go_wp2_with fail;refine (jae f H.out).mono ?_;rintro e w2 ⟨s2,rfl,hs,-,hx⟩;obtain ⟨A,c,rfl⟩:=hs.len;have HS:=Lib.hid hs;have HX:=Lib.hid (Ext.trans ((Ext.refl W).alloc _) hx);clear hs hx;go_wp2_with fail
    go_loopw [3,19] (fun av iv wr=>∃ k:Nat,k<=f.kids.length/\iv=.int .i64 k/\av=.int .i64 (s0+xah (f.kids.take k):Nat)/\Hid (Ext w2 wr)) (fun _ iv _=>f.kids.length - (intOf iv).toNat)
    case atStart=>exact ⟨0,Nat.zero_le _,rfl,by rw [HQ.out]; rfl,Ext.refl _⟩
    case round =>
     obtain ⟨k,hk,rfl,rfl,hx0⟩:=hrel;have HXR:=Lib.hid hx0.out;clear hx0
     by_cases hlt:k < f.kids.length
     · obtain ⟨ad,y,rfl,hc,hp⟩:=SlR.get_ (SlR.ext HS.out (fun _ _ h=>h) HXR.out) k hlt;have HP:=Lib.hid hp;obtain ⟨U,y,rfl⟩:=hp.iface;clear hp;have hkl:f.kids[k].sz < f.sz:=Fm.kids_lt _ _ (List.getElem_mem hlt);have hst:=yb4 f.kids k hlt;have hsl:=gcl f.kids (k+1);obtain ⟨a,ha⟩:∃ a,s0+xah (f.kids.take k)=a:=⟨_,rfl⟩;have HA:Hid (s0+xah (f.kids.take (k+1))=a+f.kids[k].atoms):=Lib.hid (by omega);have IH1:=Lib.hid (IH.out f.kids[k] (.iface U y) wr (by omega) (by omega) HP.out);rw [ha];have hw:IntKind.i64.wrap ((a:Int)+(f.kids[k].atoms:Int))=((a+f.kids[k].atoms:Nat):Int):=by rw [IntKind.wrap_i64]; omega
       clear ha hst hsl;generalize f.kids[k].atoms=z at *;go_wp2_with fail;refine IH1.out.mono ?_;rintro e w3 ⟨rfl,x3⟩;have X3:=Lib.hid (HXR.out.trans x3);clear x3 hc;go_wp2_with fail
       go_roundw
       case rel=>exact ⟨k+1,by omega,by go_num,by rw [HA.out,Int.natCast_add],X3⟩
       case measure=>simp [intOf]; omega
     · have hke:k=f.kids.length:=by omega
       have HZ:Hid (s0+xah (f.kids.take k)=f.atoms):=Lib.hid (by rw [hke,List.take_length]; omega);rw [HZ.out];go_wp2_with fail;go_ret;exact ⟨rfl,HX.out.trans HXR.out⟩
theorem ycd {w0 W:World} {L:Nat} (f:Fm) {v:Value} (hb:f.sz<=1099511627776) (h:FmV w0 L f v):Calls Tryz.prog 94 #[v] W (waa f.atoms W):=yco (f.sz+1) f v W (Nat.lt_succ_self _) hb h
end Go.Proofs.YtaedbimbbeploaaGreatDoor

/- Layer 34: formula.small, limited. -/
set_option maxRecDepth 100000
set_option maxHeartbeats 8000000
namespace Go.Proofs.YtaedbimbbeploaaGreatDoor
open Go.RowKit
attribute [local go_sem] yac uz uac wab jac qac zac jw wz xac vac yaf ul kac kw
def Tm.small : Tm -> Bool
 | .num z=>decide (qo z.natAbs<=40)
 | .name _=>true
 | .add a b=>a.small && b.small
 | .sub a b=>a.small && b.small
 | .mul a b=>a.small && b.small
 | .neg a=>a.small
 | .pow a e=>decide (e<=8) && a.small
theorem vbr {α:Type} (p:α->Bool) (l:List α) (k:Nat) (h:k < l.length):(l.take (k+1)).all p=((l.take k).all p && p l[k]):=by
 rw [List.take_succ_eq_append_getElem h,List.all_append]; simp
theorem ybi {α:Type} (p:α->Bool) (l:List α) (k:Nat) (h:k < l.length) (hp:p l[k]=false):l.all p=false:=by
 rw [List.all_eq_false]; exact ⟨l[k],List.getElem_mem h,by simp [hp]⟩
def ubd (w0:World) (L:Nat) (t:Tm):Prop:=(∀ (v:Value) (w:World),TmV w0 L t v->Calls Tryz.prog 150 #[v] w (waa t.deg w))/\(∀ (v:Value) (w:World),Ext w0 w->TmV w0 L t v->Calls Tryz.prog 151 #[v] w (waa t.wt w))/\∀ (v:Value) (w:World),Ext w0 w->TmV w0 L t v->Calls Tryz.prog 152 #[v] w (qaj t.small w)
theorem wbz {w0 W:World} {L:Nat} {s:ByteArray} {v:Value} (h:TmV w0 L (.name s) v):Calls Tryz.prog 152 #[v] W (qaj true W):=by
 have H:=Lib.hid h;obtain rfl:=h;go_enter Tryz.func152,Tryz.ntmps152;go_wp2_with fail;refine (vam (Tm.name s) H.out).mono ?_;rintro e w2 ⟨s2,rfl,hss,-,hx⟩;obtain ⟨A,c,rfl⟩:=hss.len;have HX:=Lib.hid hx;have hl0:(Tm.name s).kids.length=0:=rfl;rw [hl0];clear hss hx hl0;go_wp2_with fail
 go_loopw [24] (fun iv wr=>iv=.int .i64 0/\Hid (Ext W wr)) (fun _ _=>0)
 case atStart=>exact ⟨rfl,HX⟩
 case round =>
  obtain ⟨rfl,hx0⟩:=hrel;go_wp2_with fail;go_ret;exact ⟨rfl,hx0.out⟩
theorem jbe (w0:World) (L:Nat) (s:ByteArray):ubd w0 L (.name s):=⟨fun _ _ h=>kcm h,fun _ _ _ h=>jcp h,fun _ _ _ h=>wbz h⟩
def Tm.lim (t:Tm):Bool:=!decide (8 < t.deg) && !decide (320 < t.wt) && t.small
def Fm.lim : Fm -> Bool
 | .truth _=>true
 | .atom l _ k=>l.lim && k.lim
 | .not f=>f.lim
 | .and f g=>f.lim && g.lim
 | .or f g=>f.lim && g.lim
 | .imp f g=>f.lim && g.lim
 | .iff f g=>f.lim && g.lim
 | .quant _ _ f=>f.lim
theorem Fm.lim_kids (f:Fm) (h:f.isAtom=false):f.lim=f.kids.all Fm.lim:=by cases f <;> simp_all [Fm.isAtom,Fm.kids,Fm.lim]
theorem wb2 {w0:World} {L:Nat} (hs:L<=1000000000000) (n:Nat):∀ (f:Fm) (v:Value) (W:World),f.sz < n->Ext w0 W->FmV w0 L f v->f.terms (ubd w0 L)->Calls Tryz.prog 95 #[v] W (qaj f.lim W):=by
 induction n with
 | zero=>intro t v W h; omega
 | succ n ih =>
   intro f v W hn hx0 h hok;have IH:=Lib.hid ih;have H:=Lib.hid h;have HX0:=Lib.hid hx0;have hlen:=f.kids_len;clear ih hx0;have HOKK:=Lib.hid (f.terms_kids hok);have HOKF:=Lib.hid hok;clear hok;rcases h.two with ⟨l,r,k0,x,y,rfl,rfl,hl,hr⟩ | ⟨hna,T,x,rfl,hT⟩
   · have HL:=Lib.hid hl;have HR:=Lib.hid hr;have HLK:Hid ((Fm.atom l r k0).lim=[l,k0].all Tm.lim):=Lib.hid (by simp [Fm.lim]);obtain ⟨T,x,rfl⟩:=hl.iface;obtain ⟨U,y,rfl⟩:=hr.iface;clear hl hr h hn hlen;obtain ⟨W1,hW⟩:∃ W1,(W.alloc (.cells #[.iface T x,.int .i64 r,.iface U y] 93)).alloc (.cells #[.iface T x,.iface U y] 58)=W1:=⟨_,rfl⟩;have HX1:Hid (Ext W W1):=Lib.hid (by rw [<- hW]; exact ((Ext.refl W).alloc _).alloc _);have HS:Hid (SlR (fun _ t v=>TmV w0 L t v) W1 (.slice (some ⟨W.heap.size+1,0,none⟩) 2 2) [l,k0]):=Lib.hid (by
      rw [<- hW]
      exact SlR.two (by simp) (by simp [go_sem]) (by simp [go_sem]) HL.out HR.out)
     go_enter Tryz.func95,Tryz.ntmps95;go_wp2_with fail;clear hW
     go_loopw [21] (fun iv wr=>∃ k:Nat,k<=2/\iv=.int .i64 k/\Hid (([l,k0].take k).all Tm.lim=true/\Ext W1 wr)) (fun iv _=>2 - (intOf iv).toNat)
     case atStart=>exact ⟨0,by omega,rfl,⟨rfl,Ext.refl _⟩⟩
     case round =>
      obtain ⟨k,hk,rfl,⟨ha0,hx0⟩⟩:=hrel;have HXR:=Lib.hid hx0;have HA:=Lib.hid ha0;clear hx0 ha0
      by_cases hlt:k < 2
      · obtain ⟨ad,y1,e1,hc,hp⟩:=SlR.get_ (SlR.ext HS.out (fun _ _ h=>h) HXR.out) k hlt;injection e1 with e1
        have HT:=Lib.hid (vbr Tm.lim [l,k0] k hlt);have HFL:=Lib.hid (ybi Tm.lim [l,k0] k hlt);have HTK:Hid (ubd w0 L ([l,k0])[k]):=Lib.hid (by
         have hm:=List.getElem_mem (l:=[l,k0]) hlt;simp only [List.mem_cons,List.not_mem_nil,or_false] at hm;rcases hm with e | e
         · rw [e]; exact HOKF.out.1
         · rw [e]; exact HOKF.out.2)
        generalize ([l,k0])[k]=u at *;have HP:=Lib.hid hp;obtain ⟨V,y1,rfl⟩:=hp.iface;have HLM:Hid (u.lim=(!decide (8 < u.deg) && !decide (320 < u.wt) && u.small)):=Lib.hid rfl;have HD:=Lib.hid (HTK.out.1 _ wr hp);have HWT:=Lib.hid (fun w1 (x1:Ext wr w1)=>HTK.out.2.1 _ w1 ((HX0.out.trans (HX1.out.trans HXR.out)).trans x1) hp);have HSM:=Lib.hid (fun w1 (x1:Ext wr w1)=>HTK.out.2.2 _ w1 ((HX0.out.trans (HX1.out.trans HXR.out)).trans x1) hp);subst e1;rw [gp,Nat.zero_add] at hc;clear hp;generalize u.lim=lm at *;generalize u.deg=d at *;generalize u.wt=wt at *;generalize u.small=sm at *
        by_cases hd:8 < d
        · have HF:Hid ((Fm.atom l r k0).lim=false):=Lib.hid (HLK.out.trans (HFL.out (by rw [HLM.out]; simp [hd])));go_wp2_with fail;refine HD.out.mono ?_;rintro e w3 ⟨rfl,x3⟩;have X3:=Lib.hid (HXR.out.trans x3);clear x3 hc;go_wp2_with fail;go_ret;exact ⟨by rw [HF.out]; rfl,HX1.out.trans X3.out⟩
        · go_wp2_with fail;refine HD.out.mono ?_;rintro e w3 ⟨rfl,x3⟩;have X3:=Lib.hid x3;clear x3 hc
          by_cases hw:320 < wt
          · have HF:Hid ((Fm.atom l r k0).lim=false):=Lib.hid (HLK.out.trans (HFL.out (by rw [HLM.out]; simp [hw])));go_wp2_with fail;refine (HWT.out _ X3.out).mono ?_;rintro e w4 ⟨rfl,x4⟩;have X4:=Lib.hid (HXR.out.trans (X3.out.trans x4));clear x4;go_wp2_with fail;go_ret;exact ⟨by rw [HF.out]; rfl,HX1.out.trans X4.out⟩
          · go_wp2_with fail;refine (HWT.out _ X3.out).mono ?_;rintro e w4 ⟨rfl,x4⟩;have X4:=Lib.hid (X3.out.trans x4);clear x4;cases sm
            · have HF:Hid ((Fm.atom l r k0).lim=false):=Lib.hid (HLK.out.trans (HFL.out (by rw [HLM.out]; simp)));go_wp2_with fail;refine (HSM.out _ X4.out).mono ?_;rintro e w5 ⟨rfl,x5⟩;have X5:=Lib.hid (HXR.out.trans (X4.out.trans x5));clear x5;go_wp2_with fail;go_ret;exact ⟨by rw [HF.out]; rfl,HX1.out.trans X5.out⟩
            · have HTR:Hid (lm=true):=Lib.hid (by rw [HLM.out]; simp [hd,hw]);go_wp2_with fail;refine (HSM.out _ X4.out).mono ?_;rintro e w5 ⟨rfl,x5⟩;have X5:=Lib.hid (HXR.out.trans (X4.out.trans x5));clear x5;go_wp2_with fail
              go_roundw
              case rel=>exact ⟨k+1,by omega,by go_num,⟨by rw [HT.out,HA.out,HTR.out]; rfl,X5.out⟩⟩
              case measure=>simp [intOf]; omega
      · have hke:k=2:=by omega
        have HZ:Hid ((Fm.atom l r k0).lim=true):=Lib.hid (HLK.out.trans (by rw [hke] at HA; exact HA.out));have HXE:=Lib.hid (HX1.out.trans HXR.out);clear HXR HA;go_wp2_with fail;refine (jae (Fm.atom l r k0) H.out).mono ?_;rintro e w2 ⟨s2,rfl,hss,-,hx⟩;obtain ⟨A,cc,rfl⟩:=hss.len;have HX:=Lib.hid (HXE.out.trans hx);have hl0:(Fm.atom l r k0).kids.length=0:=rfl;rw [hl0];clear hss hx hl0;go_wp2_with fail
        go_loopw [42] (fun iv wr=>iv=.int .i64 0/\Hid (Ext W wr)) (fun _ _=>0)
        case atStart=>exact ⟨rfl,HX⟩
        case round =>
         obtain ⟨rfl,hx0⟩:=hrel;go_wp2_with fail;go_ret;exact ⟨by rw [HZ.out]; rfl,hx0.out⟩
   · have HLK:=Lib.hid (f.lim_kids hna);clear h hna;go_enter Tryz.func95,Tryz.ntmps95;go_wp2_with fail;refine (jae f H.out).mono ?_;rintro e w2 ⟨s2,rfl,hss,-,hx⟩;obtain ⟨A,c,rfl⟩:=hss.len;have HS:=Lib.hid hss;have HX:=Lib.hid (Ext.trans ((Ext.refl W).alloc _) hx);clear hss hx;go_wp2_with fail
     go_loopw [42] (fun iv wr=>∃ k:Nat,k<=f.kids.length/\iv=.int .i64 k/\Hid ((f.kids.take k).all Fm.lim=true/\Ext w2 wr)) (fun iv _=>f.kids.length - (intOf iv).toNat)
     case atStart=>exact ⟨0,Nat.zero_le _,rfl,⟨rfl,Ext.refl _⟩⟩
     case round =>
      obtain ⟨k,hk,rfl,⟨ha0,hx0⟩⟩:=hrel;have HXR:=Lib.hid hx0;have HA:=Lib.hid ha0;clear hx0 ha0
      by_cases hlt:k < f.kids.length
      · obtain ⟨ad,y1,rfl,hc,hp⟩:=SlR.get_ (SlR.ext HS.out (fun _ _ h=>h) HXR.out) k hlt;have HP:=Lib.hid hp;obtain ⟨U,y1,rfl⟩:=hp.iface;clear hp;have hkl:f.kids[k].sz < f.sz:=Fm.kids_lt _ _ (List.getElem_mem hlt);have IH1:=Lib.hid (IH.out f.kids[k] (.iface U y1) wr (by omega) (HX0.out.trans (HX.out.trans HXR.out)) HP.out (HOKK.out _ (List.getElem_mem hlt)));have HT:=Lib.hid (vbr Fm.lim f.kids k hlt);have HFL:=Lib.hid (ybi Fm.lim f.kids k hlt);generalize f.kids[k].lim=z at *;cases z
        · have HF:Hid (f.lim=false):=Lib.hid (HLK.out.trans (HFL.out rfl));go_wp2_with fail;refine IH1.out.mono ?_;rintro e w3 ⟨rfl,x3⟩;have X3:=Lib.hid (HXR.out.trans x3);clear x3 hc;go_wp2_with fail;go_ret;exact ⟨by rw [HF.out]; rfl,HX.out.trans X3.out⟩
        · go_wp2_with fail;refine IH1.out.mono ?_;rintro e w3 ⟨rfl,x3⟩;have X3:=Lib.hid (HXR.out.trans x3);clear x3 hc;go_wp2_with fail
          go_roundw
          case rel=>exact ⟨k+1,by omega,by go_num,⟨by rw [HT.out,HA.out]; rfl,X3.out⟩⟩
          case measure=>simp [intOf]; omega
      · have hke:k=f.kids.length:=by omega
        have HZ:Hid (f.lim=true):=Lib.hid (by rw [HLK.out,<- List.take_length (l:=f.kids),<- hke]; exact HA.out);go_wp2_with fail;go_ret;exact ⟨by rw [HZ.out]; rfl,HX.out.trans HXR.out⟩
theorem gbu {w0 W:World} {L:Nat} (hs:L<=1000000000000) (f:Fm) {v:Value} (hx:Ext w0 W) (h:FmV w0 L f v) (hok:f.terms (ubd w0 L)):Calls Tryz.prog 95 #[v] W (qaj f.lim W):=wb2 hs (f.sz+1) f v W (Nat.lt_succ_self _) hx h hok
end Go.Proofs.YtaedbimbbeploaaGreatDoor
