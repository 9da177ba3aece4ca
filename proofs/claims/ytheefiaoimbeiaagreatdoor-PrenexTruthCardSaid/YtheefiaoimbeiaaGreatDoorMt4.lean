/- Layer 34: the names that occur in terms and formulas, passed to a function. -/
import Derived.Test.YtheefiaoimbeiaaGreatDoorMt2
import Derived.LoopTactic
set_option linter.unusedSimpArgs false
set_option linter.unusedVariables false

set_option maxRecDepth 100000
set_option maxHeartbeats 8000000
namespace Go.Proofs.YtheefiaoimbeiaaGreatDoor
open Go.RowKit
attribute [local go_sem] xaa xy gaa zaa kaa jaa yaa yt qy qaa uaa yad qm vaa ut
structure yf (own : Nat -> Prop) (W : World) (own' : Nat -> Prop) (W' : World) : Prop where
 os:W'.os=W.os
 tape:W'.tape=W.tape
 output:W'.output=W.output
 size:W.heap.size<=W'.heap.size
 block:∀ i,i < W.heap.size->¬ own i->W'.heap[i]?=W.heap[i]?
 own:∀ i,i < W.heap.size->own' i->own i
theorem yf.refl (own:Nat->Prop) (W:World):yf own W own W:=⟨rfl,rfl,rfl,Nat.le_refl _,fun _ _ _=>rfl,fun _ _ h=>h⟩
theorem yf.trans {o1 o2 o3:Nat->Prop} {a b c:World} (h:yf o1 a o2 b) (k:yf o2 b o3 c):yf o1 a o3 c:=
 ⟨k.os.trans h.os,k.tape.trans h.tape,k.output.trans h.output,Nat.le_trans h.size k.size,
   fun i hi hn=>(k.block i (Nat.lt_of_lt_of_le hi h.size) (fun ho=>hn (h.own i hi ho))).trans (h.block i hi hn),
   fun i hi ho=>h.own i hi (k.own i (Nat.lt_of_lt_of_le hi h.size) ho)⟩
theorem yf.of_ext {o:Nat->Prop} {a b:World} (h:Ext a b):yf o a o b:=
 ⟨h.below.os,h.below.tape,h.below.output,h.size,fun i hi _=>h.below.block i hi,fun _ _ h=>h⟩
theorem yf.ext {w0 a b:World} {o1 o2:Nat->Prop} (h:yf o1 a o2 b) (hx:Ext w0 a) (ho:∀ i,o1 i->w0.heap.size<=i):Ext w0 b:=
 ⟨h.os.trans hx.below.os,h.tape.trans hx.below.tape,h.output.trans hx.below.output,Nat.le_trans hx.size h.size,
   fun i hi=>(h.block i (Nat.lt_of_lt_of_le hi hx.size) (fun hh=>by have:=ho i hh; omega)).trans (hx.below.block i hi)⟩
theorem yf.cell {o1 o2:Nat->Prop} {a b:World} (h:yf o1 a o2 b) {p:Addr} (hp:p.block < a.heap.size) (hn:¬ o1 p.block):b.cell? p=a.cell? p:=World.cell?_of_block (h.block _ hp hn)
theorem SlR.keeps {α:Type} {P:α->Value->Prop} {w w':World} {v:Value} {l:List α} {o1 o2:Nat->Prop} (h:SlR (fun _=>P) w v l) (k:yf o1 w o2 w') (hn:∀ ad n c,v=.slice (some ad) n c->¬ o1 ad.block):SlR (fun _=>P) w' v l:=by
 obtain ⟨A,c,e,h1,h2,h3⟩:=h;refine ⟨A,c,e,h1,h2,fun j hj=>?_⟩;obtain ⟨ad,x,rfl,hb,hc,hp⟩:=h3 j hj;exact ⟨ad,x,rfl,Nat.lt_of_lt_of_le hb k.size,(k.cell (by rw [jb]; exact hb) (by rw [jb]; exact hn _ _ _ e)).trans hc,hp⟩
theorem SlR.get_ {α:Type} {P:α->Value->Prop} {w:World} {A:Option Addr} {n c:Nat} {l:List α} (h:SlR (fun _=>P) w (.slice A n c) l) (j:Nat) (hj:j < l.length):∃ ad x,A=some ad/\w.cell? (ad.add j)=some x/\P l[j] x:=by
 obtain ⟨A',c',e,-,-,h3⟩:=h;obtain ⟨ad,x,rfl,-,hc,hp⟩:=h3 j hj;injection e with e1 e2 e3
 exact ⟨ad,x,e1,hc,hp⟩
theorem SlR.len {α:Type} {P:World->α->Value->Prop} {w:World} {v:Value} {l:List α} (h:SlR P w v l):∃ A c,v=.slice A l.length c:=by
 obtain ⟨A',c',e,-⟩:=h;exact ⟨A',c',e⟩
structure yb9 {α : Type} (K : Nat) (caps : Array Value) (I : Nat -> World -> (Nat -> Prop) -> α -> Prop) (step : ByteArray -> α -> α) : Prop where
 enter:∀ args W,(callFunc K args).run Tryz.prog W=.ok (.enter K args) W
 ext:∀ b W W' own acc,I b W own acc->Ext W W'->I b W' own acc
 less:∀ b b' W own acc,I b W own acc->b'<=b->I b' W own acc
 lt:∀ b W own acc,I b W own acc->∀ i,own i->i < W.heap.size
 call:∀ b W own acc s,I (b+1) W own acc->Calls Tryz.prog K (#[.string s] ++ caps) W fun e W'=>(∃ v,e=.returned v)/\∃ own',I b W' own' (step s acc)/\yf own W own' W'
def Tm.fold {α : Type} (st : ByteArray -> α -> α) : Tm -> α -> α
 | .num _,x=>x
 | .name s,x=>st s x
 | .add a b,x=>b.fold st (a.fold st x)
 | .sub a b,x=>b.fold st (a.fold st x)
 | .mul a b,x=>b.fold st (a.fold st x)
 | .neg a,x=>a.fold st x
 | .pow a _,x=>a.fold st x
def kas {α:Type} (st:ByteArray->α->α) (l:List Tm) (x:α):α:=l.foldl (fun acc k=>k.fold st acc) x
theorem ybh {α:Type} (st:ByteArray->α->α) (l:List Tm) (x:α) (k:Nat) (h:k < l.length):kas st (l.take (k+1)) x=(l[k]).fold st (kas st (l.take k) x):=by
 unfold kas;rw [List.take_succ_eq_append_getElem h,List.foldl_append]; rfl
def Tm.isName : Tm -> Bool
 | .name _=>true
 | _=>false
theorem Tm.fold_kids {α:Type} (st:ByteArray->α->α) (t:Tm) (x:α) (h:t.isName=false):t.fold st x=kas st t.kids x:=by
 cases t <;> simp_all [Tm.fold,Tm.kids,kas,Tm.isName]
def Tm.sz : Tm -> Nat
 | .num _=>1
 | .name _=>1
 | .add a b=>a.sz+b.sz+1
 | .sub a b=>a.sz+b.sz+1
 | .mul a b=>a.sz+b.sz+1
 | .neg a=>a.sz+1
 | .pow a _=>a.sz+1
theorem Tm.kids_lt (t k:Tm) (h:k ∈ t.kids):k.sz < t.sz:=by
 cases t <;> simp [Tm.kids] at h
 · rcases h with rfl | rfl <;> simp [Tm.sz] <;> omega
 · rcases h with rfl | rfl <;> simp [Tm.sz] <;> omega
 · rcases h with rfl | rfl <;> simp [Tm.sz] <;> omega
 · subst h; simp [Tm.sz]
 · subst h; simp [Tm.sz]
def uad (l:List Tm):Nat:=(l.map Tm.sz).sum
theorem xa7 (t:Tm):uad t.kids+1=t.sz:=by cases t <;> simp [Tm.kids,uad,Tm.sz] <;> omega
theorem jbu (l:List Tm) (k:Nat) (h:k < l.length):uad (l.drop k)=l[k].sz+uad (l.drop (k+1)):=by
 unfold uad;rw [List.drop_eq_getElem_cons h,List.map_cons,List.sum_cons]
theorem Tm.kids_len (t:Tm):t.kids.length<=2:=by cases t <;> simp [Tm.kids]
theorem TmV.notName {w:World} {L:Nat} {t:Tm} {v:Value} (h:TmV w L t v) (hn:t.isName=false):∃ T x,v=.iface T x/\¬ T=73:=by
 cases t <;> (simp only [TmV] at h) <;> first | (cases hn; done) | (obtain ⟨_,e,_⟩:=h; exact ⟨_,_,e,by decide⟩) | (obtain ⟨_,_,e,_⟩:=h; exact ⟨_,_,e,by decide⟩)
theorem zbs {α:Type} {K:Nat} {caps:Array Value} {I:Nat->World->(Nat->Prop)->α->Prop} {step:ByteArray->α->α} (V:yb9 K caps I step) {w0:World} {L:Nat} (n:Nat) :
 ∀ (t:Tm) (v:Value),t.sz < n->TmV w0 L t v->∀ (b:Nat) (W:World) (own:Nat->Prop) (acc:α),I (b+t.sz) W own acc ->
 Calls Tryz.prog 69 #[v,.func (.func K) #[] caps] W fun e W'=>(∃ v,e=.returned v)/\∃ own',I b W' own' (t.fold step acc)/\yf own W own' W':=by
 induction n with
 | zero=>intro t v ht; omega
 | succ n ih =>
 intro t v ht h b W own acc hI;have IH:=Lib.hid ih;have hK:=V.enter;have HV:=Lib.hid V;have HI:=Lib.hid hI;have H:=Lib.hid h;clear ih V hI
 by_cases hn:t.isName=true
 · cases t with
   | name s =>
     obtain rfl:=h;go_enter Tryz.func69,Tryz.ntmps69;go_wp2_with fail;refine (HV.out.call b _ _ _ s (HV.out.ext _ _ _ _ _ HI.out ((Ext.refl W).alloc _))).mono ?_;rintro e w1 ⟨⟨v1,rfl⟩,own1,hI1,hk1⟩;have HI1:=Lib.hid hI1;have HK1:=Lib.hid (yf.trans (yf.of_ext ((Ext.refl W).alloc _)) hk1);clear hI1 hk1;go_wp2_with fail;refine (jaj (.name s) H.out).mono ?_;rintro e w2 ⟨s2,rfl,hs,-,hx⟩;obtain ⟨A,c,rfl⟩:=hs.len;have HX:=Lib.hid hx;clear hs hx;simp only [Tm.kids,List.length_nil];go_wp2_with fail;refine wp_loop_rounds 1 ?_;rw [rounds_succ];go_wp2_with fail
     go_end0
     exact ⟨⟨_,rfl⟩,own1,HV.out.ext _ _ _ _ _ HI1.out HX.out,HK1.out.trans (yf.of_ext HX.out)⟩
   | _=>simp [Tm.isName] at hn
 · obtain ⟨T,x,rfl,hT⟩:=h.notName (by simpa using hn);have HN:Hid (t.isName=false):=by
    have:t.isName=false:=by simpa using hn
    exact this
   clear h hn;have hlen:=t.kids_len;go_enter Tryz.func69,Tryz.ntmps69;go_wp2_with fail;refine (jaj t H.out).mono ?_;rintro e w1 ⟨s,rfl,hs,hf,hx⟩;obtain ⟨A,c,rfl⟩:=hs.len;have HX:Hid (Ext W w1):=by
    have:Ext W w1:=((Ext.refl W).alloc _).trans hx;exact this
   have HS:=Lib.hid hs;have HF:=Lib.hid hf;clear hs hf hx;go_wp2_with fail
   go_loopw [21] (fun iv wr=>∃ k:Nat,k<=t.kids.length/\iv=.int .i64 k/\Hid (∃ own',I (b+uad (t.kids.drop k)) wr own' (kas step (t.kids.take k) acc)/\yf own w1 own' wr)) (fun iv _=>t.kids.length - (intOf iv).toNat)
   case atStart =>
    exact ⟨0,Nat.zero_le _,rfl,⟨own,HV.out.less _ _ _ _ _ (HV.out.ext _ _ _ _ _ HI.out HX.out) (by have:=xa7 t; simp only [List.drop_zero]; omega),yf.refl _ _⟩⟩
   case round =>
    obtain ⟨k,hk,rfl,⟨own',hI',hk'⟩⟩:=hrel;have HI':=Lib.hid hI';have HK':=Lib.hid hk';clear hI' hk'
    by_cases hlt:k < t.kids.length
    · obtain ⟨ad,y,rfl,hc,hp⟩:=SlR.get_ (SlR.keeps HS.out HK'.out (fun ad n c e=>fun ho=>by
       have h1:=HF.out ad n c e;have h2:=HV.out.lt _ _ _ _ HI.out _ ho
       simp at h1; omega)) k hlt
      have HP:=Lib.hid hp;obtain ⟨U,y,rfl⟩:=hp.iface;clear hp;go_wp2_with fail;refine (IH.out (t.kids[k]) _ (by have:=t.kids_lt _ (List.getElem_mem hlt); omega) HP.out _ _ _ _ (by rw [jbu _ _ hlt,Nat.add_comm (t.kids[k]).sz,<- Nat.add_assoc] at HI'; exact HI'.out)).mono ?_;rintro e w2 ⟨⟨v2,rfl⟩,own2,hI2,hk2⟩;have HI2:=Lib.hid hI2;have HK2:=Lib.hid hk2;clear hI2 hk2 hc;go_wp2_with fail
      go_roundw
      case rel=>exact ⟨k+1,by omega,by go_num,⟨own2,by rw [ybh step _ _ _ hlt]; exact HI2.out,HK'.out.trans HK2.out⟩⟩
      case measure=>simp [intOf]; omega
    · have hke:k=t.kids.length:=by omega
      have HD:Hid (I b wr own' (t.fold step acc)):=by
       have:=HV.out.less _ b _ _ _ HI'.out (by omega);rw [hke,List.take_length,<- Tm.fold_kids step t acc HN.out] at this;exact this
      clear hke;go_wp2_with fail
      go_end0
      exact ⟨⟨_,rfl⟩,own',HD.out,(yf.of_ext HX.out).trans HK'.out⟩
end Go.Proofs.YtheefiaoimbeiaaGreatDoor

/- Layer 34: formula.walk: the names that occur in a formula, passed to a function, with the quantifiers around them. -/
set_option maxRecDepth 100000
set_option maxHeartbeats 8000000
namespace Go.Proofs.YtheefiaoimbeiaaGreatDoor
open Go.RowKit
attribute [local go_sem] xaa xy gaa zaa kaa jaa yaa yt qy qaa uaa yad qm vaa ut
def Fm.sz : Fm -> Nat
 | .truth _=>1
 | .atom a _ b=>a.sz+b.sz+1
 | .not f=>f.sz+1
 | .and f g=>f.sz+g.sz+1
 | .or f g=>f.sz+g.sz+1
 | .imp f g=>f.sz+g.sz+1
 | .iff f g=>f.sz+g.sz+1
 | .quant _ _ f=>f.sz+1
theorem Fm.kids_lt (t k:Fm) (h:k ∈ t.kids):k.sz < t.sz:=by
 cases t <;> simp [Fm.kids] at h
 · subst h; simp [Fm.sz]
 · rcases h with rfl | rfl <;> simp [Fm.sz] <;> omega
 · rcases h with rfl | rfl <;> simp [Fm.sz] <;> omega
 · rcases h with rfl | rfl <;> simp [Fm.sz] <;> omega
 · rcases h with rfl | rfl <;> simp [Fm.sz] <;> omega
 · subst h; simp [Fm.sz]
def ul (l:List Fm):Nat:=(l.map Fm.sz).sum
theorem uar (t:Fm):ul t.kids+1<=t.sz:=by cases t <;> simp [Fm.kids,ul,Fm.sz] <;> omega
theorem ua8 (l:List Fm) (k:Nat) (h:k < l.length):ul (l.drop k)=l[k].sz+ul (l.drop (k+1)):=by
 unfold ul;rw [List.drop_eq_getElem_cons h,List.map_cons,List.sum_cons]
theorem Fm.kids_len (t:Fm):t.kids.length<=2:=by cases t <;> simp [Fm.kids]
def bump (a:ByteArray->Int) (s:ByteArray):ByteArray->Int:=fun t=>if t=s then a t+1 else a t
def Fm.fold {α : Type} (st : (ByteArray -> Int) -> ByteArray -> α -> α) : Fm -> (ByteArray -> Int) -> α -> α
 | .truth _,_,x=>x
 | .atom l _ r,a,x=>r.fold (st a) (l.fold (st a) x)
 | .not f,a,x=>f.fold st a x
 | .and f g,a,x=>g.fold st a (f.fold st a x)
 | .or f g,a,x=>g.fold st a (f.fold st a x)
 | .imp f g,a,x=>g.fold st a (f.fold st a x)
 | .iff f g,a,x=>g.fold st a (f.fold st a x)
 | .quant _ s f,a,x=>f.fold st (bump a s) x
def qap {α:Type} (st:(ByteArray->Int)->ByteArray->α->α) (l:List Fm) (a:ByteArray->Int) (x:α):α:=l.foldl (fun acc k=>k.fold st a acc) x
theorem va0 {α:Type} (st:(ByteArray->Int)->ByteArray->α->α) (l:List Fm) (a:ByteArray->Int) (x:α) (k:Nat) (h:k < l.length):qap st (l.take (k+1)) a x=(l[k]).fold st a (qap st (l.take k) a x):=by
 unfold qap;rw [List.take_succ_eq_append_getElem h,List.foldl_append]; rfl
def Fm.cls : Fm -> Nat
 | .atom _ _ _=>1
 | .quant _ _ _=>2
 | _=>0
theorem Fm.fold_kids {α:Type} (st:(ByteArray->Int)->ByteArray->α->α) (t:Fm) (a:ByteArray->Int) (x:α) (h:t.cls=0):t.fold st a x=qap st t.kids a x:=by
 cases t <;> simp_all [Fm.fold,Fm.kids,qap,Fm.cls]
theorem FmV.plain {w:World} {L:Nat} {t:Fm} {v:Value} (h:FmV w L t v) (hn:t.cls=0):∃ T x,v=.iface T x/\¬ T=77/\¬ T=79:=by
 cases t <;> (simp only [FmV] at h) <;> first | (cases hn; done) | exact ⟨_,_,h,by decide,by decide⟩ | (obtain ⟨_,e,_⟩:=h; exact ⟨_,_,e,by decide,by decide⟩) | (obtain ⟨_,_,e,_⟩:=h; exact ⟨_,_,e,by decide,by decide⟩)
def gac (w:World) (b:Nat) (a:ByteArray->Int):Prop:=∃ l,qx w b l/\∀ s,(zac l s).getD (.int .i64 0)=.int .i64 (a s)
theorem gac.ext {w w':World} {b:Nat} {a:ByteArray->Int} (h:gac w b a) (hx:Ext w w'):gac w' b a:=by
 obtain ⟨l,h1,h2⟩:=h;exact ⟨l,h1.ext hx,h2⟩
theorem qx.block {w w':World} {b:Nat} {l:List (ByteArray × Value)} (h:qx w b l) (hx:w'.heap[b]?=w.heap[b]?):qx w' b l:=by
 obtain ⟨es,clock,hb,he⟩:=h;exact ⟨es,clock,hx.trans hb,he⟩
theorem gac.block {w w':World} {b:Nat} {a:ByteArray->Int} (h:gac w b a) (hx:w'.heap[b]?=w.heap[b]?):gac w' b a:=by
 obtain ⟨l,h1,h2⟩:=h;exact ⟨l,h1.block hx,h2⟩
theorem gac.lt {w:World} {b:Nat} {a:ByteArray->Int} (h:gac w b a):b < w.heap.size:=by
 obtain ⟨l,h1,h2⟩:=h;exact h1.lt
theorem zci:(Tryz.prog.info? 3).map (·.zero)=some (some (.int .i64 0)):=by kernel_rfl
theorem gac.look {w:World} {b:Nat} {a:ByteArray->Int} (h:gac w b a) (s:ByteArray):(Instr.lookup 90 (.map (some b)) (.string s) false).run Tryz.prog w=.ok (.int .i64 (a s)) w:=by
 obtain ⟨l,h1,h2⟩:=h;have:=h1.look Tryz.underlying90 Tryz.underlying9 zci s false;rw [this]; simp [h2]
theorem gac.put {w:World} {b:Nat} {a:ByteArray->Int} (h:gac w b a) (s:ByteArray) (n:Int):∃ w',(Instr.mapUpdate 90 (.map (some b)) (.string s) (.int .i64 n)).run Tryz.prog w=.ok () w'/\gac w' b (fun t=>if t=s then n else a t)/\Only b w w':=by
 obtain ⟨l,h1,h2⟩:=h;obtain ⟨w',e,h3,h4⟩:=h1.put (P:=Tryz.prog) Tryz.underlying90 Tryz.underlying9 s (.int .i64 n);refine ⟨w',e,⟨_,h3,fun t=>?_⟩,h4⟩;rw [ja0]
 by_cases ht:t=s
 · simp [ht]
 · simp [ht,h2]
structure wau {α : Type} (K : Nat) (caps : Array Value) (Ma : Nat) (J : Nat -> World -> (Nat -> Prop) -> α -> Prop) (step : (ByteArray -> Int) -> ByteArray -> α -> α) : Prop where
 enter:∀ args W,(callFunc K args).run Tryz.prog W=.ok (.enter K args) W
 ext:∀ b W W' own acc,J b W own acc->Ext W W'->J b W' own acc
 less:∀ b b' W own acc,J b W own acc->b'<=b->J b' W own acc
 map:∀ b W W' own acc,J b W own acc->Only Ma W W'->J b W' own acc
 lt:∀ b W own acc,J b W own acc->∀ i,own i->i < W.heap.size
 ne:∀ b W own acc,J b W own acc->¬ own Ma
 call:∀ b a W own acc s,J (b+1) W own acc->gac W Ma a->Calls Tryz.prog K (#[.string s] ++ caps) W fun e W'=>(∃ v,e=.returned v)/\∃ own',J b W' own' (step a s acc)/\yf own W own' W'
theorem wau.visits {α:Type} {K:Nat} {caps:Array Value} {Ma:Nat} {J:Nat->World->(Nat->Prop)->α->Prop} {step:(ByteArray->Int)->ByteArray->α->α} (V:wau K caps Ma J step) (a:ByteArray->Int) :
 yb9 K caps (fun b W own acc=>J b W own acc/\gac W Ma a) (step a) where
 enter:=V.enter
 ext:=fun b W W' own acc h hx=>⟨V.ext b W W' own acc h.1 hx,h.2.ext hx⟩
 less:=fun b b' W own acc h hb=>⟨V.less b b' W own acc h.1 hb,h.2⟩
 lt:=fun b W own acc h=>V.lt b W own acc h.1
 call:=fun b W own acc s h=>(V.call b a W own acc s h.1 h.2).mono fun e W' ⟨h1,own',h2,h3⟩=>⟨h1,own',⟨h2,h.2.block (h3.block _ h.2.lt (V.ne _ _ _ _ h.1))⟩,h3⟩
def plus (own:Nat->Prop) (b:Nat):Nat->Prop:=fun i=>own i\/i=b
theorem yf.plus {o1 o2:Nat->Prop} {a b:World} (h:yf o1 a o2 b) (m:Nat):yf (plus o1 m) a (plus o2 m) b:=
 ⟨h.os,h.tape,h.output,h.size,fun i hi hn=>h.block i hi (fun ho=>hn (.inl ho)),fun i hi ho=>ho.elim (fun k=>.inl (h.own i hi k)) .inr⟩
theorem yf.of_only {o:Nat->Prop} {a b:World} {m:Nat} (h:Only m a b):yf (Go.Proofs.YtheefiaoimbeiaaGreatDoor.plus o m) a (Go.Proofs.YtheefiaoimbeiaaGreatDoor.plus o m) b:=
 ⟨World.grownBy.os h,World.grownBy.tape h,World.grownBy.output h,h.size,fun i hi hn=>h.block hi (fun e=>hn (.inr e)),fun _ _ h=>h⟩
def xau {α:Type} (Ma b:Nat) (J:Nat->World->(Nat->Prop)->α->Prop) (a:ByteArray->Int) (own:Nat->Prop) (W:World) (acc:α) (e:Ending) (W':World):Prop:=
 (∃ v,e=.returned v)/\∃ own',J b W' own' acc/\gac W' Ma a/\yf (plus own Ma) W (plus own' Ma) W'
section
variable {α:Type} {K:Nat} {caps:Array Value} {Ma:Nat} {J:Nat->World->(Nat->Prop)->α->Prop} {step:(ByteArray->Int)->ByteArray->α->α} {w0:World} {L:Nat}
def qbn (K:Nat) (caps:Array Value) (Ma:Nat) (J:Nat->World->(Nat->Prop)->α->Prop) (step:(ByteArray->Int)->ByteArray->α->α) (w0:World) (L n:Nat):Prop:=
 ∀ (t:Fm) (v:Value),t.sz < n->FmV w0 L t v->∀ (b:Nat) (W:World) (own:Nat->Prop) (a:ByteArray->Int) (acc:α),J (b+t.sz) W own acc->gac W Ma a->(∀ s,0<=a s/\a s+t.sz<=4611686018427387904) ->
   Calls Tryz.prog 31 #[v,.map (some Ma),.func (.func K) #[] caps] W (xau Ma b J a own W (t.fold step a acc))
theorem yb1 (V:wau K caps Ma J step) {l k:Tm} {r:Int} {v:Value} (h:FmV w0 L (.atom l r k) v) (b:Nat) (W:World) (own:Nat->Prop) (a:ByteArray->Int) (acc:α) (hJ:J (b+(Fm.atom l r k).sz) W own acc) (hA:gac W Ma a) :
 Calls Tryz.prog 31 #[v,.map (some Ma),.func (.func K) #[] caps] W (xau Ma b J a own W ((Fm.atom l r k).fold step a acc)):=by
 have H:=Lib.hid h;have HV:=Lib.hid V;have HJ:=Lib.hid hJ;have HA:=Lib.hid hA;clear V hJ hA;obtain ⟨x,y,rfl,hx,hy⟩:=h;have HX:=Lib.hid hx;have HY:=Lib.hid hy;obtain ⟨T,x,rfl⟩:=hx.iface;obtain ⟨U,y,rfl⟩:=hy.iface;clear hx hy;go_enter Tryz.func31,Tryz.ntmps31;go_wp2_with fail;have hlt:=HV.out.lt _ _ _ _ HJ.out;have HLT:=Lib.hid hlt;clear hlt;refine (zbs (HV.out.visits a) _ l _ (Nat.lt_succ_self _) HX.out (b+k.sz) _ own acc ⟨HV.out.less _ _ _ _ _ (HV.out.ext _ _ _ _ _ HJ.out ((Ext.refl W).alloc _)) (by simp only [Fm.sz]; omega),HA.out.ext ((Ext.refl W).alloc _)⟩).mono ?_;rintro e w1 ⟨⟨v1,rfl⟩,own1,⟨hJ1,hA1⟩,hk1⟩;have c2:w1.cell? ⟨W.heap.size,2,none⟩=some (.iface U y):=by
  rw [hk1.cell (p:=⟨W.heap.size,2,none⟩) (by simp) (fun ho=>by have:=HLT.out _ ho; simp at this)];simp [go_sem]
 have HJ1:=Lib.hid hJ1;have HA1:=Lib.hid hA1;have HK1:=Lib.hid (yf.trans (yf.of_ext ((Ext.refl W).alloc _)) hk1);clear hJ1 hA1 hk1;go_wp2_with fail;clear c2;refine (zbs (HV.out.visits a) _ k _ (Nat.lt_succ_self _) HY.out b _ own1 _ ⟨HJ1.out,HA1.out⟩).mono ?_;rintro e w2 ⟨⟨v2,rfl⟩,own2,⟨hJ2,hA2⟩,hk2⟩;have HJ2:=Lib.hid hJ2;have HA2:=Lib.hid hA2;have HK2:=Lib.hid (HK1.out.trans hk2);clear hJ2 hA2 hk2 HJ1 HA1 HK1;go_wp2_with fail;refine (yae (Fm.atom l r k) H.out).mono ?_;rintro e w3 ⟨s2,rfl,hs,-,hx⟩;obtain ⟨A,c,rfl⟩:=hs.len;have HX3:=Lib.hid (Ext.trans ((Ext.refl w2).alloc _) hx);clear hs hx;simp only [Fm.kids,List.length_nil];go_wp2_with fail;refine wp_loop_rounds 1 ?_;rw [rounds_succ];go_wp2_with fail
 go_end0
 exact ⟨⟨_,rfl⟩,own2,HV.out.ext _ _ _ _ _ HJ2.out HX3.out,HA2.out.ext HX3.out,(HK2.out.trans (yf.of_ext HX3.out)).plus Ma⟩
theorem jak (V:wau K caps Ma J step) {n:Nat} (ih:qbn K caps Ma J step w0 L n) (t:Fm) (v:Value) (hcl:t.cls=0) (hsz:t.sz < n+1) (h:FmV w0 L t v) (b:Nat) (W:World) (own:Nat->Prop) (a:ByteArray->Int) (acc:α) (hJ:J (b+t.sz) W own acc) (hA:gac W Ma a) (hb:∀ s,0<=a s/\a s+t.sz<=4611686018427387904) :
 Calls Tryz.prog 31 #[v,.map (some Ma),.func (.func K) #[] caps] W (xau Ma b J a own W (t.fold step a acc)):=by
 have H:=Lib.hid h;have HV:=Lib.hid V;have HJ:=Lib.hid hJ;have HA:=Lib.hid hA;have HB:=Lib.hid hb;have HC:=Lib.hid hcl;have IH:=Lib.hid ih;have HLT:=Lib.hid (V.lt _ _ _ _ hJ);obtain ⟨T,x,rfl,hT,hT'⟩:=h.plain hcl;have hlen:=t.kids_len;clear h V hJ hA hb hcl ih;go_enter Tryz.func31,Tryz.ntmps31;go_wp2_with fail;refine (yae t H.out).mono ?_;rintro e w1 ⟨s,rfl,hs,hf,hx⟩;obtain ⟨A,c,rfl⟩:=hs.len;have HX:Hid (Ext W w1):=by
  have:Ext W w1:=(((Ext.refl W).alloc _).alloc _).trans hx;exact this
 have HS:=Lib.hid hs;have HF:=Lib.hid hf;clear hs hf hx;go_wp2_with fail
 go_loopw [40] (fun iv wr=>∃ k:Nat,k<=t.kids.length/\iv=.int .i64 k/\Hid (∃ own',J (b+ul (t.kids.drop k)) wr own' (qap step (t.kids.take k) a acc)/\gac wr Ma a/\yf (plus own Ma) w1 (plus own' Ma) wr)) (fun iv _=>t.kids.length - (intOf iv).toNat)
 case atStart =>
  exact ⟨0,Nat.zero_le _,rfl,⟨own,HV.out.less _ _ _ _ _ (HV.out.ext _ _ _ _ _ HJ.out HX.out) (by have:=uar t; simp only [List.drop_zero]; omega),HA.out.ext HX.out,yf.refl _ _⟩⟩
 case round =>
  obtain ⟨k,hk,rfl,⟨own',hJ',hA',hk'⟩⟩:=hrel;have HJ':=Lib.hid hJ';have HA':=Lib.hid hA';have HK':=Lib.hid hk';clear hJ' hA' hk'
  by_cases hlt:k < t.kids.length
  · obtain ⟨ad,y,rfl,hc,hp⟩:=SlR.get_ (SlR.keeps HS.out HK'.out (fun ad n c e=>fun ho=>by
     have h1:=HF.out ad n c e;have h3:=HA.out.lt;rcases ho with ho | ho
     · have h2:=HLT.out _ ho;simp at h1; omega
     · simp at h1; omega)) k hlt
    have HP:=Lib.hid hp;obtain ⟨U,y,rfl⟩:=hp.iface;clear hp;go_wp2_with fail;have hkl:=t.kids_lt _ (List.getElem_mem hlt);refine (IH.out (t.kids[k]) _ (by omega) HP.out _ _ _ _ _ (by rw [ua8 _ _ hlt,Nat.add_comm (t.kids[k]).sz,<- Nat.add_assoc] at HJ'; exact HJ'.out) HA'.out (fun s=>by have:=HB.out s; omega)).mono ?_;rintro e w2 ⟨⟨v2,rfl⟩,own2,hJ2,hA2,hk2⟩;have HJ2:=Lib.hid hJ2;have HA2:=Lib.hid hA2;have HK2:=Lib.hid hk2;clear hJ2 hA2 hk2 hc;go_wp2_with fail
    go_roundw
    case rel=>exact ⟨k+1,by omega,by go_num,⟨own2,by rw [va0 step _ _ _ _ hlt]; exact HJ2.out,HA2.out,HK'.out.trans HK2.out⟩⟩
    case measure=>simp [intOf]; omega
  · have hke:k=t.kids.length:=by omega
    have HD:Hid (J b wr own' (t.fold step a acc)):=by
     have:=HV.out.less _ b _ _ _ HJ'.out (by omega);rw [hke,List.take_length,<- Fm.fold_kids step t a acc HC.out] at this;exact this
    clear hke;go_wp2_with fail
    go_end0
    exact ⟨⟨_,rfl⟩,own',HD.out,HA'.out,(yf.of_ext HX.out).trans HK'.out⟩
theorem zbu (V:wau K caps Ma J step) {n:Nat} (ih:qbn K caps Ma J step w0 L n) {al:Bool} {s:ByteArray} {f:Fm} {v:Value} (hsz:(Fm.quant al s f).sz < n+1) (h:FmV w0 L (.quant al s f) v) (b:Nat) (W:World) (own:Nat->Prop) (a:ByteArray->Int) (acc:α) (hJ:J (b+(Fm.quant al s f).sz) W own acc) (hA:gac W Ma a) (hb:∀ t,0<=a t/\a t+(Fm.quant al s f).sz<=4611686018427387904) :
 Calls Tryz.prog 31 #[v,.map (some Ma),.func (.func K) #[] caps] W (xau Ma b J a own W ((Fm.quant al s f).fold step a acc)):=by
 have H:=Lib.hid h;have HV:=Lib.hid V;have HJ:=Lib.hid hJ;have HA:=Lib.hid hA;have HB:=Lib.hid hb;have IH:=Lib.hid ih;have HLT:=Lib.hid (V.lt _ _ _ _ hJ);obtain ⟨x,rfl,hx⟩:=h;have HX:=Lib.hid hx;obtain ⟨T,x,rfl⟩:=hx.iface;have hbs:=hb s;have hmlt:=hA.lt;obtain ⟨W2,hW2⟩:=n_m ((W.alloc (Obj.cells #[.nilIface,.int .i64 0,.nilIface] 77)).alloc (Obj.cells #[.bool al,.string s,.iface T x] 79));have hx2:Ext W W2:=by rw [<- hW2]; exact ((Ext.refl W).alloc _).alloc _
 have c1:W2.cell? ⟨W.heap.size+1,1,none⟩=some (.string s):=by rw [<- hW2]; simp [go_sem]
 have hsz2:W.heap.size+1 < W2.heap.size:=by rw [<- hW2]; simp
 have hA2:=hA.ext hx2;have hl:=hA2.look s;obtain ⟨W3,hp,hA3,ho3⟩:=hA2.put s (a s+1);have hA3':gac W3 Ma (bump a s):=by
  have:(fun t=>if t=s then a s+1 else a t)=bump a s:=by
   funext t; unfold bump; by_cases e:t=s
   · rw [if_pos e,if_pos e,e]
   · rw [if_neg e,if_neg e]
  rw [<- this]; exact hA3
 clear hx V hJ hA hb ih hA3;simp only [Fm.sz] at hbs;generalize hg:a s=q at *;have HG:=Lib.hid hg;have HC1:Hid (W3.cell? ⟨W.heap.size+1,1,none⟩=some (.string s)):=by
  have:W3.cell? ⟨W.heap.size+1,1,none⟩=some (.string s):=by rw [ho3.cell (p:=⟨W.heap.size+1,1,none⟩) (by simpa using hsz2) (by simp; omega)]; exact c1
  exact this
 have HJ3:Hid (J (b+(Fm.quant al s f).sz) W3 own acc):=by
  have:J (b+(Fm.quant al s f).sz) W3 own acc:=HV.out.map _ _ _ _ _ (HV.out.ext _ _ _ _ _ HJ.out hx2) ho3;exact this
 have HA3:=Lib.hid hA3';have HK3:Hid (yf (plus own Ma) W (plus own Ma) W3):=by
  have:yf (plus own Ma) W (plus own Ma) W3:=(yf.of_ext hx2).trans (yf.of_only ho3);exact this
 have hsz3:=ho3.size;clear hg hA3' ho3 hA2 hx2;go_enter Tryz.func31,Tryz.ntmps31;go_wp2_with fail;clear hl hp hW2 c1;refine (yae (Fm.quant al s f) H.out).mono ?_;rintro e w4 ⟨s4,rfl,hs,hf,hx⟩;obtain ⟨ks,hks⟩:=n_m ((Fm.quant al s f).kids);rw [hks] at hs;have hlen:ks.length<=2:=by rw [<- hks]; exact Fm.kids_len _
 have HKS:=Lib.hid hks;clear hks;obtain ⟨A,c,rfl⟩:=hs.len;have HS:=Lib.hid hs;have HF:=Lib.hid hf;have HX4:=Lib.hid hx;clear hs hf hx;go_wp2_with fail
 go_loopw [40] (fun iv wr=>∃ k:Nat,k<=ks.length/\iv=.int .i64 k/\Hid (∃ own',J (b+ul (ks.drop k)) wr own' (qap step (ks.take k) (bump a s) acc)/\gac wr Ma (bump a s)/\yf (plus own Ma) w4 (plus own' Ma) wr)) (fun iv _=>ks.length - (intOf iv).toNat)
 case atStart =>
  exact ⟨0,Nat.zero_le _,rfl,⟨own,HV.out.less _ _ _ _ _ (HV.out.ext _ _ _ _ _ HJ3.out HX4.out) (by have:=uar (Fm.quant al s f); rw [HKS.out] at this; simp only [List.drop_zero]; omega),HA3.out.ext HX4.out,yf.refl _ _⟩⟩
 case round =>
  obtain ⟨k,hk,rfl,⟨own',hJ',hA',hk'⟩⟩:=hrel;have HJ':=Lib.hid hJ';have HA':=Lib.hid hA';have HK':=Lib.hid hk';clear hJ' hA' hk'
  by_cases hlt:k < ks.length
  · obtain ⟨ad,y,rfl,hc,hp⟩:=SlR.get_ (SlR.keeps HS.out HK'.out (fun ad n c e=>fun ho=>by
     have h1:=HF.out ad n c e;rcases ho with ho | ho
     · have h2:=HLT.out _ ho;omega
     · omega)) k hlt
    have HP:=Lib.hid hp;obtain ⟨U,y,rfl⟩:=hp.iface;clear hp;go_wp2_with fail;have hkl:ks[k].sz < (Fm.quant al s f).sz:=Fm.kids_lt _ _ (by rw [HKS.out]; exact List.getElem_mem hlt);refine (IH.out (ks[k]) _ (by omega) HP.out _ _ _ _ _ (by rw [ua8 _ _ hlt,Nat.add_comm (ks[k]).sz,<- Nat.add_assoc] at HJ'; exact HJ'.out) HA'.out (fun t=>by have:=HB.out t; unfold bump; split <;> omega)).mono ?_;rintro e w5 ⟨⟨v2,rfl⟩,own2,hJ2,hA2,hk2⟩;have HJ2:=Lib.hid hJ2;have HA2:=Lib.hid hA2;have HK2:=Lib.hid hk2;clear hJ2 hA2 hk2 hc;go_wp2_with fail
    go_roundw
    case rel=>exact ⟨k+1,by omega,by go_num,⟨own2,by rw [va0 step _ _ _ _ hlt]; exact HJ2.out,HA2.out,HK'.out.trans HK2.out⟩⟩
    case measure=>simp [intOf]; omega
  · have HKE:Hid (k=ks.length):=by
     have:k=ks.length:=by omega
     exact this
    have c1:wr.cell? ⟨W.heap.size+1,1,none⟩=some (.string s):=by
     have hx4:=HX4.out;rw [HK'.out.cell (p:=⟨W.heap.size+1,1,none⟩) (by have:=hx4.size; simp; omega) (fun ho=>by
      rcases ho with ho | ho
      · have:=HLT.out _ ho; dsimp only at this; omega
      · simp at ho; omega),hx4.cell (p:=⟨W.heap.size+1,1,none⟩) (by simp; omega)]
     exact HC1.out
    have hb1:bump a s s=q+1:=by unfold bump; rw [if_pos rfl,HG.out]
    have hl:=HA'.out.look s;rw [hb1] at hl;obtain ⟨W6,hp,hA6,ho6⟩:=HA'.out.put s q;have HD:Hid (xau Ma b J a own W ((Fm.quant al s f).fold step a acc) (.returned (.tuple #[])) W6):=by
     have hJ6:J b W6 own' (Fm.fold step f (bump a s) acc):=by
      have:=HV.out.less _ b _ _ _ (HV.out.map _ _ _ _ _ HJ'.out ho6) (by omega);rw [HKE.out,List.take_length,<- HKS.out] at this;exact this
     have hA6':gac W6 Ma a:=by
      have:(fun t=>if t=s then q else bump a s t)=a:=by
       funext t; unfold bump; by_cases e:t=s
       · rw [if_pos e,e,HG.out]
       · rw [if_neg e,if_neg e]
      rw [<- this]; exact hA6
     exact ⟨⟨_,rfl⟩,own',hJ6,hA6',((HK3.out.trans (yf.of_ext HX4.out)).trans HK'.out).trans (yf.of_only ho6)⟩
    clear hb1 hA6 ho6 HG;go_wp2_with fail
    go_end0
    exact HD.out
theorem wbq (V:wau K caps Ma J step) (n:Nat):qbn K caps Ma J step w0 L n:=by
 induction n with
 | zero=>intro t v ht; omega
 | succ n ih =>
   intro t v ht h b W own a acc hJ hA hb;cases t with
   | atom l r k=>exact yb1 V h b W own a acc hJ hA
   | quant al s f=>exact zbu V ih ht h b W own a acc hJ hA hb
   | truth tb=>exact jak V ih _ v rfl ht h b W own a acc hJ hA hb
   | not f=>exact jak V ih _ v rfl ht h b W own a acc hJ hA hb
   | and f g=>exact jak V ih _ v rfl ht h b W own a acc hJ hA hb
   | or f g=>exact jak V ih _ v rfl ht h b W own a acc hJ hA hb
   | imp f g=>exact jak V ih _ v rfl ht h b W own a acc hJ hA hb
   | iff f g=>exact jak V ih _ v rfl ht h b W own a acc hJ hA hb
end
end Go.Proofs.YtheefiaoimbeiaaGreatDoor

/- Polynomials in four variables, plain: monomials, sums of terms, recursive polynomials, and their values. No program in sight. -/
namespace Go.Proofs.YtheefiaoimbeiaaGreatDoor
structure Mo where
 a:Int
 b:Int
 c:Int
 d:Int
deriving DecidableEq
def Mo.one:Mo:=⟨0,0,0,0⟩
def Mo.get (m:Mo) (i:Int):Int:=if i=1 then m.a else if i=2 then m.b else if i=3 then m.c else m.d
def Mo.put (m:Mo) (i e:Int):Mo:=if i=1 then { m with a:=e } else if i=2 then { m with b:=e } else if i=3 then { m with c:=e } else { m with d:=e }
def Mo.nonneg (m:Mo):Prop:=0<=m.a/\0<=m.b/\0<=m.c/\0<=m.d
instance (m:Mo):Decidable m.nonneg:=by unfold Mo.nonneg; infer_instance
def Mo.lt (m n:Mo):Prop:=m.d < n.d\/(m.d=n.d/\(m.c < n.c\/(m.c=n.c/\(m.b < n.b\/(m.b=n.b/\m.a < n.a)))))
instance (m n:Mo):Decidable (m.lt n):=by unfold Mo.lt; infer_instance
theorem Mo.ext_ {m n:Mo} (h1:m.a=n.a) (h2:m.b=n.b) (h3:m.c=n.c) (h4:m.d=n.d):m=n:=by cases m; cases n; simp_all
theorem Mo.lt_irrefl (m:Mo):¬ m.lt m:=by unfold Mo.lt; omega
theorem Mo.lt_trans {m n k:Mo} (h1:m.lt n) (h2:n.lt k):m.lt k:=by unfold Mo.lt at *; omega
theorem Mo.tri (m n:Mo):m.lt n\/m=n\/n.lt m:=by
 by_cases h:m=n
 · exact .inr (.inl h)
 · have:¬ (m.a=n.a/\m.b=n.b/\m.c=n.c/\m.d=n.d):=fun hh=>h (Mo.ext_ hh.1 hh.2.1 hh.2.2.1 hh.2.2.2)
   unfold Mo.lt; omega
abbrev Sp:=List (Int × Mo)
def jd : Sp -> Mo -> Int
 | [],_=>0
 | (c,n) :: r,m=>(if n=m then c else 0)+jd r m
theorem qan (l r:Sp) (m:Mo):jd (l ++ r) m=jd l m+jd r m:=by
 induction l with
 | nil=>simp [jd]
 | cons x l ih=>simp only [List.cons_append,jd,ih]; omega
def zao : Sp -> Prop
 | []=>True
 | (c,m) :: r=>c ≠ 0/\(∀ x ∈ r,x.2.lt m)/\zao r
theorem zae {l:Sp} {m:Mo} (h:∀ x ∈ l,x.2 ≠ m):jd l m=0:=by
 induction l with
 | nil=>rfl
 | cons x l ih =>
   rw [jd,if_neg (h x (by simp)),ih (fun y hy=>h y (by simp [hy]))]; rfl
theorem vbv {c:Int} {m:Mo} {r:Sp} (h:zao ((c,m) :: r)):jd ((c,m) :: r) m=c/\∀ n,m.lt n->jd ((c,m) :: r) n=0:=by
 have hlt:=h.2.1
 constructor
 · rw [jd,if_pos rfl,zae (m:=m) (fun x hx e=>Mo.lt_irrefl m (by have:=hlt x hx; rw [e] at this; exact this))]; omega
 · intro n hn;refine zae fun x hx e=>?_
   rcases List.mem_cons.1 hx with rfl | hx
   · exact Mo.lt_irrefl m (by rw [<- e] at hn; exact hn)
   · exact Mo.lt_irrefl m (Mo.lt_trans (by rw [<- e] at hn; exact hn) (hlt x hx))
def Mo.val (ρ:Int->Rat) (m:Mo):Rat:=ρ 1 ^ m.a.toNat * ρ 2 ^ m.b.toNat * ρ 3 ^ m.c.toNat * ρ 4 ^ m.d.toNat
def wu (ρ : Int -> Rat) : Sp -> Rat
 | []=>0
 | (c,m) :: r=>(c:Rat) * m.val ρ+wu ρ r
theorem jai (ρ:Int->Rat) (l r:Sp):wu ρ (l ++ r)=wu ρ l+wu ρ r:=by
 induction l with
 | nil=>simp [wu]; grind
 | cons x l ih=>obtain ⟨c,m⟩:=x; simp only [List.cons_append,wu,ih]; grind
theorem kbu (ρ:Int->Rat) (m:Mo) (l:Sp):wu ρ l=(jd l m:Rat) * m.val ρ+wu ρ (l.filter fun x=>decide (x.2 ≠ m)):=by
 induction l with
 | nil=>simp [wu,jd]; grind
 | cons x l ih =>
   obtain ⟨c,n⟩:=x
   by_cases h:n=m
   · subst h;simp only [wu,jd,if_true,List.filter_cons,ne_eq,not_true,decide_false,Bool.false_eq_true,if_false];rw [ih]
     push_cast
     grind
   · have:decide (n ≠ m)=true:=by simpa using h
     simp only [wu,jd,if_neg h,List.filter_cons,this,if_true];rw [ih]
     push_cast
     grind
theorem wbi (l:Sp) (m n:Mo):jd (l.filter fun x=>decide (x.2 ≠ m)) n=if n=m then 0 else jd l n:=by
 induction l with
 | nil=>simp [jd]
 | cons x l ih =>
   obtain ⟨c,k⟩:=x
   by_cases h:k=m
   · subst h;simp only [List.filter_cons,ne_eq,not_true,decide_false,Bool.false_eq_true,if_false,jd];rw [ih]
     by_cases h2:n=k
     · simp [h2]
     · rw [if_neg h2,if_neg h2,if_neg (fun e=>h2 e.symm)]; omega
   · have:decide (k ≠ m)=true:=by simpa using h
     simp only [List.filter_cons,this,if_true,jd,ih]
     by_cases h2:n=m
     · subst h2; simp [h]
     · simp [h2]
theorem jb2 (ρ:Int->Rat) (n:Nat):∀ l:Sp,l.length<=n->(∀ m,jd l m=0)->wu ρ l=0:=by
 induction n with
 | zero=>intro l h _; obtain rfl:l=[]:=List.eq_nil_of_length_eq_zero (by omega); rfl
 | succ n ih =>
   intro l h h0;cases l with
   | nil=>rfl
   | cons x l =>
     obtain ⟨c,m⟩:=x;rw [kbu ρ m,h0 m];have hl:(((c,m) :: l).filter fun x=>decide (x.2 ≠ m)).length<=n:=by
      rw [List.filter_cons];simp only [ne_eq,not_true,decide_false,Bool.false_eq_true,if_false];have:=List.length_filter_le (fun x:Int × Mo=>decide (x.2 ≠ m)) l;simp only [List.length_cons] at h;simp only [ne_eq] at this ⊢;omega
     rw [ih _ hl (fun k=>by rw [wbi]; split <;> simp [h0])];simp; grind
def qao (l:Sp):Sp:=l.map fun x=>(-x.1,x.2)
theorem xbd (l:Sp) (m:Mo):jd (qao l) m=- jd l m:=by
 induction l with
 | nil=>rfl
 | cons x l ih =>
   obtain ⟨c,n⟩:=x;simp only [qao,List.map_cons,jd];rw [show (List.map (fun x:Int × Mo=>(-x.1,x.2)) l)=qao l from rfl,ih]
   split <;> omega
theorem kbh (ρ:Int->Rat) (l:Sp):wu ρ (qao l)=- wu ρ l:=by
 induction l with
 | nil=>simp [qao,wu]
 | cons x l ih =>
   obtain ⟨c,n⟩:=x;simp only [qao,List.map_cons,wu];rw [show (List.map (fun x:Int × Mo=>(-x.1,x.2)) l)=qao l from rfl,ih]
   push_cast
   grind
theorem kaz (ρ:Int->Rat) {l l':Sp} (h:∀ m,jd l m=jd l' m):wu ρ l=wu ρ l':=by
 have h1:=jb2 ρ (l ++ qao l').length (l ++ qao l') (Nat.le_refl _) (fun m=>by rw [qan,xbd,h m]; omega);rw [jai,kbh] at h1
 grind
inductive Pl where
 | mk (lv:Int) (neg:Bool) (ds:List Nat) (cs:List Pl)
def Pl.lv : Pl -> Int
 | .mk l _ _ _=>l
def Pl.neg : Pl -> Bool
 | .mk _ n _ _=>n
def Pl.ds : Pl -> List Nat
 | .mk _ _ d _=>d
def Pl.cs : Pl -> List Pl
 | .mk _ _ _ c=>c
def Pl.z (p:Pl):Int:=sgn p.neg (val p.ds)
mutual
def Pl.terms (m : Mo) : Pl -> Sp
 | .mk l n d cs=>if l<=0 then [(sgn n (val d),m)] else if 4 < l then [] else jo m l (m.get l) cs
def jo (m : Mo) (l e : Int) : List Pl -> Sp
 | []=>[]
 | c :: r=>c.terms (m.put l e) ++ jo m l (e+1) r
end
mutual
def Pl.val (ρ : Int -> Rat) : Pl -> Rat
 | .mk l n d cs=>if l<=0 then ((sgn n (val d):Int):Rat) else if 4 < l then 0 else uf ρ l cs
def uf (ρ : Int -> Rat) (l : Int) : List Pl -> Rat
 | []=>0
 | c :: r=>c.val ρ+ρ l * uf ρ l r
end
theorem Mo.val_put (ρ:Int->Rat) (m:Mo) (l e:Int) (h1:0 < l) (h2:l<=4) (he:0<=e):(m.put l (e+1)).val ρ=ρ l * (m.put l e).val ρ:=by
 have ht:(e+1).toNat=e.toNat+1:=by omega
 rcases (show l=1\/l=2\/l=3\/l=4 by omega) with rfl | rfl | rfl | rfl
 · show ρ 1 ^ (e+1).toNat * ρ 2 ^ m.b.toNat * ρ 3 ^ m.c.toNat * ρ 4 ^ m.d.toNat=ρ 1 * (ρ 1 ^ e.toNat * ρ 2 ^ m.b.toNat * ρ 3 ^ m.c.toNat * ρ 4 ^ m.d.toNat);rw [ht,Rat.pow_succ]; grind
 · show ρ 1 ^ m.a.toNat * ρ 2 ^ (e+1).toNat * ρ 3 ^ m.c.toNat * ρ 4 ^ m.d.toNat=ρ 2 * (ρ 1 ^ m.a.toNat * ρ 2 ^ e.toNat * ρ 3 ^ m.c.toNat * ρ 4 ^ m.d.toNat);rw [ht,Rat.pow_succ]; grind
 · show ρ 1 ^ m.a.toNat * ρ 2 ^ m.b.toNat * ρ 3 ^ (e+1).toNat * ρ 4 ^ m.d.toNat=ρ 3 * (ρ 1 ^ m.a.toNat * ρ 2 ^ m.b.toNat * ρ 3 ^ e.toNat * ρ 4 ^ m.d.toNat);rw [ht,Rat.pow_succ]; grind
 · show ρ 1 ^ m.a.toNat * ρ 2 ^ m.b.toNat * ρ 3 ^ m.c.toNat * ρ 4 ^ (e+1).toNat=ρ 4 * (ρ 1 ^ m.a.toNat * ρ 2 ^ m.b.toNat * ρ 3 ^ m.c.toNat * ρ 4 ^ e.toNat);rw [ht,Rat.pow_succ]; grind
mutual
theorem Pl.terms_val (ρ : Int -> Rat) : ∀ (p : Pl) (m : Mo), m.nonneg -> wu ρ (p.terms m) = m.val ρ * p.val ρ
 | .mk l n d cs,m,hm=>by
   rw [Pl.terms,Pl.val]
   by_cases h1:l<=0
   · rw [if_pos h1,if_pos h1]; simp only [wu]; grind
   · rw [if_neg h1,if_neg h1]
     by_cases h2:4 < l
     · rw [if_pos h2,if_pos h2]; simp only [wu]; grind
     · rw [if_neg h2,if_neg h2];have hg:0<=m.get l:=by unfold Mo.nonneg at hm; unfold Mo.get; split <;> (try split) <;> (try split) <;> omega
       rw [ga3 ρ cs m l (m.get l) (by omega) (by omega) hg hm];have:m.put l (m.get l)=m:=by unfold Mo.put Mo.get; split <;> (try split) <;> (try split) <;> rfl
       rw [this]
theorem ga3 (ρ : Int -> Rat) : ∀ (cs : List Pl) (m : Mo) (l e : Int), 0 < l -> l <= 4 -> 0 <= e -> m.nonneg -> wu ρ (jo m l e cs) = (m.put l e).val ρ * uf ρ l cs
 | [],m,l,e,h1,h2,he,hm=>by rw [jo,uf]; simp only [wu]; grind
 | c :: r,m,l,e,h1,h2,he,hm=>by
   have hp:(m.put l e).nonneg:=by unfold Mo.nonneg at *; unfold Mo.put; split <;> (try split) <;> (try split) <;> simp_all
   rw [jo,uf,jai,Pl.terms_val ρ c _ hp,ga3 ρ r m l (e+1) h1 h2 (by omega) hm,Mo.val_put ρ m l e h1 h2 he]
   grind
end
theorem Mo.val_one (ρ:Int->Rat):Mo.one.val ρ=1:=by simp [Mo.one,Mo.val]
end Go.Proofs.YtheefiaoimbeiaaGreatDoor

/- The recursive form of a canonical sum, plain. -/
namespace Go.Proofs.YtheefiaoimbeiaaGreatDoor
def Pl.zero:Pl:=.mk 0 false [] []
def Pl.const (z:Int):Pl:=.mk 0 (decide (z < 0)) (dg z.natAbs) []
theorem Pl.const_terms (z:Int) (m:Mo):(Pl.const z).terms m=[(z,m)]:=by
 rw [Pl.const,Pl.terms,if_pos (by omega),je,wal]
def bld : Nat -> Sp -> Pl
 | _,[]=>Pl.zero
 | 0,(c,_) :: _=>Pl.const c
 | n+1,(c,m) :: r=>if m.get (n+1:Nat)=0 then bld n ((c,m) :: r) else .mk (n+1:Nat) false [] ((List.range ((m.get (n+1:Nat)).toNat+1)).map fun (i:Nat)=>bld n (((c,m) :: r).filter fun x=>decide (x.2.get (n+1:Nat)=Int.ofNat i)))
def wa9 (n:Nat) (m:Mo) (l:Sp):Prop:=∀ x ∈ l,∀ i:Nat,n < i->i<=4->x.2.get i=m.get i
theorem Mo.get_all {m k:Mo} (h:∀ i:Nat,0 < i->i<=4->m.get i=k.get i):m=k:=by
 have h1:=h 1 (by omega) (by omega);have h2:=h 2 (by omega) (by omega);have h3:=h 3 (by omega) (by omega);have h4:=h 4 (by omega) (by omega);simp [Mo.get] at h1 h2 h3 h4;exact Mo.ext_ h1 h2 h3 h4
theorem Mo.get_put (m:Mo) (i:Nat) (e:Int) (h1:0 < i) (h2:i<=4) (j:Nat) (h3:0 < j) (h4:j<=4):(m.put i e).get j=if j=i then e else m.get j:=by
 rcases (show i=1\/i=2\/i=3\/i=4 by omega) with rfl | rfl | rfl | rfl <;> rcases (show j=1\/j=2\/j=3\/j=4 by omega) with rfl | rfl | rfl | rfl <;> simp [Mo.put,Mo.get]
theorem Mo.lt_get {x m:Mo} {n:Nat} (hn:0 < n) (hn4:n<=4) (h:x.lt m) (ha:∀ i:Nat,n < i->i<=4->x.get i=m.get i):x.get n<=m.get n:=by
 unfold Mo.lt at h;have h2:=ha 2;have h3:=ha 3;have h4:=ha 4;rcases (show n=1\/n=2\/n=3\/n=4 by omega) with rfl | rfl | rfl | rfl <;> simp [Mo.get] at h2 h3 h4 ⊢ <;> omega
theorem zao.filter {l:Sp} (h:zao l) (f:Int × Mo->Bool):zao (l.filter f):=by
 induction l with
 | nil=>exact trivial
 | cons x l ih =>
   obtain ⟨c,m⟩:=x;rw [List.filter_cons]
   split
   · exact ⟨h.1,fun y hy=>h.2.1 y (List.mem_filter.1 hy).1,ih h.2.2⟩
   · exact ih h.2.2
theorem kbv (l:Sp) (m:Mo) (f g k:Int × Mo->Bool) (h:∀ x ∈ l,k x=(f x || g x)) (hd:∀ x ∈ l,¬ (f x=true/\g x=true)):jd (l.filter k) m=jd (l.filter f) m+jd (l.filter g) m:=by
 induction l with
 | nil=>rfl
 | cons x l ih =>
   have ihl:=ih (fun y hy=>h y (by simp [hy])) (fun y hy=>hd y (by simp [hy]));have hk:=h x (by simp);have hx:=hd x (by simp);rw [List.filter_cons,List.filter_cons,List.filter_cons];cases hf:f x <;> cases hg:g x <;> rw [hf,hg] at hk <;> simp only [Bool.or_false,Bool.or_true,Bool.true_or,Bool.false_or] at hk <;> rw [hk] <;> simp only [if_true,Bool.false_eq_true,if_false,jd]
   · exact ihl
   · rw [ihl]; omega
   · rw [ihl]; omega
   · exact absurd ⟨hf,hg⟩ hx
theorem ua5 (l:Sp) (m:Mo) (f:Int × Mo->Bool) (h:∀ x ∈ l,f x=true):l.filter f=l:=List.filter_eq_self.2 h
theorem ka6 (n:Nat) (hn:n<=4):∀ (l:Sp) (m:Mo),zao l->(∀ x ∈ l,x.2.nonneg)->wa9 n m l->(∀ i:Nat,0 < i->i<=n->m.get i=0)->∀ k,jd ((bld n l).terms m) k=jd l k:=by
 induction n with
 | zero =>
   intro l m hl hnn ha _ k;cases l with
   | nil=>simp [bld,Pl.zero,Pl.terms,jd,sgn,val]
   | cons x r =>
     obtain ⟨c,m'⟩:=x;have hm:m'=m:=Mo.get_all (fun i h1 h2=>ha (c,m') (by simp) i h1 h2);subst hm;have hr:r=[]:=by
      cases r with
      | nil=>rfl
      | cons y r =>
        have h1:=hl.2.1 y (by simp);have h2:y.2=m':=Mo.get_all (fun i h1 h2=>ha y (by simp) i h1 h2);rw [h2] at h1;exact absurd h1 (Mo.lt_irrefl _)
     subst hr;rw [bld,Pl.const_terms]
 | succ n ih =>
   intro l m hl hnn ha hz k;cases l with
   | nil=>simp [bld,Pl.zero,Pl.terms,jd,sgn,val]
   | cons x r =>
     obtain ⟨c,m'⟩:=x;have htop:∀ y ∈ ((c,m') :: r:Sp),y.2.get (n+1:Nat)<=m'.get (n+1:Nat):=by
      intro y hy;rcases List.mem_cons.1 hy with rfl | hy'
      · exact Int.le_refl _
      · exact Mo.lt_get (by omega) (by omega) (hl.2.1 y hy') (fun i h1 h2=>(ha y hy i (by omega) h2).trans (ha (c,m') (by simp) i (by omega) h2).symm)
     have hlow:∀ y ∈ ((c,m') :: r:Sp),0<=y.2.get (n+1:Nat):=by
      intro y hy;have:=hnn y hy;unfold Mo.nonneg at this;unfold Mo.get
      split <;> (try split) <;> (try split) <;> omega
     rw [bld]
     by_cases h0:m'.get (n+1:Nat)=0
     · rw [if_pos h0];refine ih (by omega) _ m hl hnn (fun y hy i h1 h2=>?_) (fun i h1 h2=>hz i h1 (by omega)) k
       by_cases hi:i=n+1
       · subst hi;rw [hz (n+1) (by omega) (by omega)];have h1:=htop y hy;have h2:=hlow y hy;omega
       · exact ha y hy i (by omega) h2
     · rw [if_neg h0];have hg0:m.get (n+1:Nat)=0:=hz (n+1) (by omega) (by omega);rw [Pl.terms,if_neg (by omega),if_neg (by omega),hg0];generalize hL:((c,m') :: r:Sp)=L at *;have key:∀ (cnt e:Nat),jd (jo m (n+1:Nat) (e:Int) ((List.range' e cnt).map fun (i:Nat)=>bld n (L.filter fun x=>decide (x.2.get (n+1:Nat)=Int.ofNat i)))) k=jd (L.filter fun x=>decide ((e:Int)<=x.2.get (n+1:Nat)) && decide (x.2.get (n+1:Nat) < (e:Int)+cnt)) k:=by
        intro cnt
        induction cnt with
        | zero =>
          intro e;have:(L.filter fun x=>decide ((e:Int)<=x.2.get (n+1:Nat)) && decide (x.2.get (n+1:Nat) < (e:Int)+(0:Nat)))=[]:=List.filter_eq_nil_iff.2 (fun x _=>by simp);rw [this]; rfl
        | succ cnt ihc =>
          intro e;rw [List.range'_succ,List.map_cons,jo,qan];have e1:((e:Int)+1)=((e+1:Nat):Int):=by omega
          rw [e1,ihc (e+1)];rw [ih (by omega) _ (m.put (n+1:Nat) e) (hl.filter _) (fun x hx=>hnn x (List.mem_filter.1 hx).1) (fun x hx i h1 h2=>?_) (fun i h1 h2=>?_)]
          · refine (kbv L k _ _ _ (fun x _=>?_) (fun x _=>?_)).symm
            · simp only [<- Bool.decide_and,<- Bool.decide_or,decide_eq_decide,Int.ofNat_eq_natCast];omega
            · simp only [Bool.and_eq_true,decide_eq_true_eq,Int.ofNat_eq_natCast];omega
          · obtain ⟨hx1,hx2⟩:=List.mem_filter.1 hx;rw [Mo.get_put m (n+1) e (by omega) (by omega) i (by omega) h2]
            by_cases hi:i=n+1
            · rw [if_pos hi,hi]; simpa using hx2
            · rw [if_neg hi]; exact ha x hx1 i (by omega) h2
          · rw [Mo.get_put m (n+1) e (by omega) (by omega) i h1 (by omega),if_neg (by omega)];exact hz i h1 (by omega)
       have h1:=key ((m'.get (n+1:Nat)).toNat+1) 0;rw [<- List.range_eq_range'] at h1;refine Eq.trans h1 ?_;rw [ua5 L k _ (fun x hx=>?_)];have h2:=htop x hx;have h3:=hlow x hx;simp only [Bool.and_eq_true,decide_eq_true_eq];omega
end Go.Proofs.YtheefiaoimbeiaaGreatDoor

/- Canonical recursive polynomials are known by their coefficients. -/
namespace Go.Proofs.YtheefiaoimbeiaaGreatDoor
mutual
def Pl.Can : Pl -> Prop
 | .mk l n d cs=>(l=0/\cs=[]/\d=dg (val d)/\(d=[]->n=false))\/(1<=l/\l<=4/\n=false/\d=[]/\2<=cs.length/\ku l cs/\cs.getLast? ≠ some Pl.zero)
def ku (l : Int) : List Pl -> Prop
 | []=>True
 | c :: r=>c.lv < l/\c.Can/\ku l r
end
theorem ku.mem {l : Int} : ∀ {cs : List Pl}, ku l cs -> ∀ c ∈ cs, c.lv < l /\ c.Can
 | c :: r,h,x,hx=>by
   unfold ku at h;rcases List.mem_cons.1 hx with rfl | hx
   · exact ⟨h.1,h.2.1⟩
   · exact ku.mem h.2.2 x hx
theorem Pl.zero_can:Pl.zero.Can:=by unfold Pl.zero Pl.Can; left; exact ⟨rfl,rfl,by simp [val,jm],fun _=>rfl⟩
theorem Pl.Can.lv_nonneg {p:Pl} (h:p.Can):0<=p.lv/\p.lv<=4:=by
 cases p with
 | mk l n d cs=>unfold Pl.Can at h; show 0<=l/\l<=4; rcases h with h | h <;> omega
mutual
theorem Pl.terms_above : ∀ (p : Pl) (m : Mo) (n : Nat), p.Can -> p.lv <= n -> ∀ x ∈ p.terms m, ∀ i : Nat, n < i -> i <= 4 -> x.2.get i = m.get i
 | .mk l ng d cs,m,n,h,hl,x,hx,i,h1,h2=>by
   rw [Pl.terms] at hx;unfold Pl.Can at h
   change l<=n at hl
   by_cases h0:l<=0
   · rw [if_pos h0] at hx;rw [(List.mem_singleton.1 hx)]
   · rw [if_neg h0] at hx
     by_cases h4:4 < l
     · rw [if_pos h4] at hx; cases hx
     · rw [if_neg h4] at hx;rcases h with h | h
       · omega
       · exact yaz cs m l (m.get l) n h.2.2.2.2.2.1 (by omega) (by omega) hl x hx i h1 h2
theorem yaz : ∀ (cs : List Pl) (m : Mo) (l e : Int) (n : Nat), ku l cs -> 0 < l -> l <= 4 -> l <= n -> ∀ x ∈ jo m l e cs, ∀ i : Nat, n < i -> i <= 4 -> x.2.get i = m.get i
 | [],m,l,e,n,h,hl0,hl4,hl,x,hx,i,h1,h2=>by rw [jo] at hx; cases hx
 | c :: r,m,l,e,n,h,hl0,hl4,hl,x,hx,i,h1,h2=>by
   rw [jo] at hx;unfold ku at h;rcases List.mem_append.1 hx with hx | hx
   · obtain ⟨ln,rfl⟩:∃ ln:Nat,l=ln:=⟨l.toNat,by omega⟩;rw [Pl.terms_above c _ n h.2.1 (by omega) x hx i h1 h2,Mo.get_put m ln e (by omega) (by omega) i (by omega) h2,if_neg (by omega)]
   · exact yaz r m l (e+1) n h.2.2 hl0 hl4 hl x hx i h1 h2
end
theorem kan (m : Mo) (l : Nat) (hl0 : 0 < l) (hl4 : l <= 4) (k : Mo) : ∀ (cs : List Pl) (e : Int), ku l cs -> jd (jo m l e cs) k = if h : e <= k.get l /\ (k.get l - e).toNat < cs.length then jd ((cs[(k.get l - e).toNat]'h.2).terms (m.put l (k.get l))) k else 0
 | [],e,_=>by rw [jo,dif_neg (by simp)]; rfl
 | c :: r,e,h=>by
   unfold ku at h;have hz:∀ (c:Pl) (e:Int),c.lv < l->c.Can->k.get l ≠ e->jd (c.terms (m.put l e)) k=0:=by
    intro c e hc1 hc2 hne;refine zae fun x hx he=>hne ?_
    have:=Pl.terms_above c (m.put l e) (l - 1) hc2 (by omega) x hx l (by omega) hl4;rw [he,Mo.get_put m l e hl0 hl4 l hl0 hl4,if_pos rfl] at this;exact this
   rw [jo,qan,kan m l hl0 hl4 k r (e+1) h.2.2]
   by_cases he:k.get l=e
   · rw [dif_neg (by omega),dif_pos (by constructor; omega; simp; omega)];have h0:(k.get l - e).toNat=0:=by omega
     have hc0:∀ (j:Nat) (hj:j < (c :: r).length),j=0->(c :: r)[j]=c:=by intro j hj h; subst h; rfl
     rw [hc0 _ _ h0,he];omega
   · rw [hz c e h.1 h.2.1 he]
     by_cases hlt:e<=k.get l/\(k.get l - e).toNat < (c :: r).length
     · have hs:(k.get l - e).toNat=(k.get l - (e+1)).toNat+1:=by omega
       have hlt':e+1<=k.get l/\(k.get l - (e+1)).toNat < r.length:=by
        have:=hlt.2;simp only [List.length_cons] at this;omega
       rw [dif_pos hlt,dif_pos hlt'];simp only [hs,List.getElem_cons_succ];omega
     · rw [dif_neg hlt,dif_neg (by
        simp only [List.length_cons] at hlt
        omega)]
       rfl
theorem Pl.Can.kids {l:Int} {n:Bool} {d:List Nat} {cs:List Pl} (h:(Pl.mk l n d cs).Can) (hl:0 < l):n=false/\d=[]/\2<=cs.length/\ku l cs/\cs.getLast? ≠ some Pl.zero:=by
 unfold Pl.Can at h;rcases h with h | h
 · omega
 · exact h.2.2
theorem Pl.zero_coef (m k:Mo):jd (Pl.zero.terms m) k=0:=by simp [Pl.zero,Pl.terms,jd,sgn,val]
theorem gcj (n:Nat) (hn:n<=4):∀ (p p':Pl) (m:Mo),p.Can->p'.Can->p.lv<=n->p'.lv<=n->(∀ i:Nat,0 < i->i<=n->m.get i=0)->(∀ k,jd (p.terms m) k=jd (p'.terms m) k)->p=p':=by
 induction n with
 | zero =>
   intro p p' m h h' hl hl' _ he;obtain ⟨l,ng,d,cs⟩:=p;obtain ⟨l',ng',d',cs'⟩:=p';unfold Pl.Can at h h'
   change l<=(0:Nat) at hl
   change l'<=(0:Nat) at hl'
   rcases h with ⟨rfl,rfl,hd,hng⟩ | h
   · rcases h' with ⟨rfl,rfl,hd',hng'⟩ | h'
     · have e1:=he m;simp only [Pl.terms,if_pos (show (0:Int)<=0 by omega),jd,if_true,Int.add_zero] at e1;have hv:val d=val d':=by
        have:=congrArg Int.natAbs e1;rw [uq,uq] at this;exact this
       have hdd:d=d':=by rw [hd,hv,<- hd']
       subst hdd;have hnn:ng=ng':=by
        by_cases hz:d=[]
        · rw [hng hz,hng' hz]
        · have hvz:val d ≠ 0:=fun e=>hz (by rw [hd,e,jm])
          cases ng <;> cases ng' <;> first | rfl | (exfalso; simp [sgn] at e1; omega)
       rw [hnn]
     · omega
   · omega
 | succ n ih =>
   have low:∀ (p p':Pl) (m:Mo),p.Can->p'.Can->p.lv<=n->p'.lv=(n+1:Nat)->(∀ i:Nat,0 < i->i<=n+1->m.get i=0)->(∀ k,jd (p.terms m) k=jd (p'.terms m) k)->False:=by
    intro p p' m h h' hl hl' hm he;obtain ⟨l',ng',d',cs'⟩:=p'
    change l'=(n+1:Nat) at hl'
    subst hl';obtain ⟨-,-,hlen,hcs,hlast⟩:=h'.kids (by omega);have hL:cs'.length - 1 < cs'.length:=by omega
    have hc:=hcs.mem cs'[cs'.length - 1] (List.getElem_mem hL);apply hlast;rw [List.getLast?_eq_getElem?,List.getElem?_eq_getElem hL]
    congr 1
    refine ih (by omega) _ _ (m.put (n+1:Nat) ((cs'.length - 1:Nat):Int)) hc.2 Pl.zero_can (by omega) (by show (0:Int)<=_; omega) (fun i h1 h2=>?_) (fun k=>?_)
    · rw [Mo.get_put m (n+1) _ (by omega) (by omega) i h1 (by omega),if_neg (by omega)];exact hm i h1 (by omega)
    · rw [Pl.zero_coef]
      by_cases hk:k.get (n+1:Nat)=((cs'.length - 1:Nat):Int)
      · have e1:=he k;rw [zae (l:=p.terms m) (fun x hx e=>by
         have:=Pl.terms_above p m n h hl x hx (n+1) (by omega) (by omega);rw [e,hm (n+1) (by omega) (by omega),hk] at this
         omega)] at e1
        rw [Pl.terms,if_neg (by omega),if_neg (by omega),hm (n+1) (by omega) (by omega),kan m (n+1) (by omega) (by omega) k cs' 0 hcs,dif_pos (by omega)] at e1;have hi:(k.get (n+1:Nat) - 0).toNat=cs'.length - 1:=by omega
        have hc0:∀ (j:Nat) (hj:j < cs'.length),j=cs'.length - 1->cs'[j]=cs'[cs'.length - 1]:=by intro j hj h; subst h; rfl
        rw [hc0 _ _ hi] at e1;rw [<- hk];exact e1.symm
      · refine zae fun x hx e=>hk ?_
        have:=Pl.terms_above cs'[cs'.length - 1] _ n hc.2 (by omega) x hx (n+1) (by omega) (by omega);rw [e,Mo.get_put m (n+1) _ (by omega) (by omega) (n+1) (by omega) (by omega),if_pos rfl] at this;exact this
   intro p p' m h h' hl hl' hm he
   by_cases hp:p.lv=(n+1:Nat)
   · by_cases hp':p'.lv=(n+1:Nat)
     · obtain ⟨l,ng,d,cs⟩:=p;obtain ⟨l',ng',d',cs'⟩:=p'
       change l=(n+1:Nat) at hp
       change l'=(n+1:Nat) at hp'
       subst hp hp';obtain ⟨rfl,rfl,hlen,hcs,hlast⟩:=h.kids (by omega);obtain ⟨rfl,rfl,hlen',hcs',hlast'⟩:=h'.kids (by omega);have hg:m.get (n+1:Nat)=0:=hm (n+1) (by omega) (by omega);have hco:∀ k,jd (jo m (n+1:Nat) 0 cs) k=jd (jo m (n+1:Nat) 0 cs') k:=by
        intro k;have:=he k;rw [Pl.terms,if_neg (by omega),if_neg (by omega),Pl.terms,if_neg (by omega),if_neg (by omega),hg] at this;exact this
       have hput:∀ (i:Nat) (e:Int),0 < i->i<=n->(m.put (n+1:Nat) e).get i=0:=fun i e h1 h2=>by
        rw [Mo.get_put m (n+1) _ (by omega) (by omega) i h1 (by omega),if_neg (by omega)];exact hm i h1 (by omega)
       have hout:∀ (c:Pl) (e:Int) (k:Mo),c.Can->c.lv < (n+1:Nat)->k.get (n+1:Nat) ≠ e->jd (c.terms (m.put (n+1:Nat) e)) k=0:=by
        intro c e k hc1 hc2 hne;refine zae fun x hx he'=>hne ?_
        have:=Pl.terms_above c _ n hc1 (by omega) x hx (n+1) (by omega) (by omega);rw [he',Mo.get_put m (n+1) _ (by omega) (by omega) (n+1) (by omega) (by omega),if_pos rfl] at this;exact this
       have hin:∀ (cs:List Pl) (i:Nat) (hi:i < cs.length) (k:Mo),ku (n+1:Nat) cs->k.get (n+1:Nat)=(i:Int)->jd (jo m (n+1:Nat) 0 cs) k=jd (cs[i].terms (m.put (n+1:Nat) (i:Int))) k:=by
        intro cs i hi k hcs hk;rw [kan m (n+1) (by omega) (by omega) k cs 0 hcs,dif_pos (by omega)];have hi':(k.get (n+1:Nat) - 0).toNat=i:=by omega
        have hc0:∀ (j:Nat) (hj:j < cs.length),j=i->cs[j]=cs[i]:=by intro j hj h; subst h; rfl
        rw [hc0 _ _ hi',hk]
       have hno:∀ (cs:List Pl) (i:Nat) (k:Mo),cs.length<=i->ku (n+1:Nat) cs->k.get (n+1:Nat)=(i:Int)->jd (jo m (n+1:Nat) 0 cs) k=0:=by
        intro cs i k hi hcs hk;rw [kan m (n+1) (by omega) (by omega) k cs 0 hcs,dif_neg (by omega)]
       have nol:∀ (cs cs':List Pl),ku (n+1:Nat) cs->ku (n+1:Nat) cs'->2<=cs.length->cs.getLast? ≠ some Pl.zero->(∀ k,jd (jo m (n+1:Nat) 0 cs) k=jd (jo m (n+1:Nat) 0 cs') k)->cs.length<=cs'.length:=by
        intro cs cs' hcs hcs' hlen hlast hco;rcases Nat.lt_or_ge cs'.length cs.length with hlt | hge
        · exfalso
          apply hlast;have hL:cs.length - 1 < cs.length:=by omega
          rw [List.getLast?_eq_getElem?,List.getElem?_eq_getElem hL]
          congr 1
          have hc:=hcs.mem cs[cs.length - 1] (List.getElem_mem hL);refine ih (by omega) _ _ (m.put (n+1:Nat) ((cs.length - 1:Nat):Int)) hc.2 Pl.zero_can (by omega) (by show (0:Int)<=_; omega) (fun i h1 h2=>hput i _ h1 h2) (fun k=>?_);rw [Pl.zero_coef]
          by_cases hk:k.get (n+1:Nat)=((cs.length - 1:Nat):Int)
          · rw [<- hin cs (cs.length - 1) hL k hcs hk,hco k];exact hno cs' _ k (by omega) hcs' hk
          · exact hout _ _ k hc.2 hc.1 hk
        · exact hge
       have hll:cs.length=cs'.length:=Nat.le_antisymm (nol cs cs' hcs hcs' hlen hlast hco) (nol cs' cs hcs' hcs hlen' hlast' (fun k=>(hco k).symm));have hcc:cs=cs':=by
        refine List.ext_getElem hll fun i hi hi'=>?_
        have hc:=hcs.mem cs[i] (List.getElem_mem hi);have hc':=hcs'.mem cs'[i] (List.getElem_mem hi');refine ih (by omega) _ _ (m.put (n+1:Nat) (i:Int)) hc.2 hc'.2 (by omega) (by omega) (fun j h1 h2=>hput j _ h1 h2) (fun k=>?_)
        by_cases hk:k.get (n+1:Nat)=(i:Int)
        · rw [<- hin cs i hi k hcs hk,<- hin cs' i hi' k hcs' hk]; exact hco k
        · rw [hout _ _ k hc.2 hc.1 hk,hout _ _ k hc'.2 hc'.1 hk]
       rw [hcc]
     · exact (low p' p m h' h (by omega) hp hm (fun k=>(he k).symm)).elim
   · by_cases hp':p'.lv=(n+1:Nat)
     · exact (low p p' m h h' (by omega) hp' hm he).elim
     · exact ih (by omega) p p' m h h' (by omega) (by omega) (fun i h1 h2=>hm i h1 (by omega)) he
theorem Pl.can_eq {p p':Pl} (h:p.Can) (h':p'.Can) (he:∀ k,jd (p.terms Mo.one) k=jd (p'.terms Mo.one) k):p=p':=
 gcj 4 (Nat.le_refl _) p p' Mo.one h h' h.lv_nonneg.2 h'.lv_nonneg.2 (fun i h1 h2=>by
  rcases (show i=1\/i=2\/i=3\/i=4 by omega) with rfl | rfl | rfl | rfl <;> rfl) he
end Go.Proofs.YtheefiaoimbeiaaGreatDoor
