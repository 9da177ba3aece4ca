/- Layer 34: the names that occur in terms and formulas, passed to a function. -/
import Derived.Test.YtheefiaoimbeiaaGreatDoorMp7
set_option linter.unusedSimpArgs false
set_option linter.unusedVariables false

set_option maxRecDepth 100000
set_option maxHeartbeats 8000000
namespace Go.Proofs.YtheefiaoimbeiaaGreatDoor
open Lib (hid)
open Go.RowKit
attribute [local go_sem] uds ydr qdt kds zdt wds vds ydp xdr gds xdt udv qdn ydt xdp
structure qdk (own : Nat -> Prop) (W : World) (own' : Nat -> Prop) (W' : World) : Prop where
 os:W'.os=W.os
 tape:W'.tape=W.tape
 output:W'.output=W.output
 size:W.heap.size<=W'.heap.size
 block:∀ i,i < W.heap.size->¬ own i->W'.heap[i]?=W.heap[i]?
 own:∀ i,i < W.heap.size->own' i->own i
theorem qdk.refl (own:Nat->Prop) (W:World):qdk own W own W:=⟨rfl,rfl,rfl,pf _,fun _ _ _=>rfl,fun _ _ h=>h⟩
theorem qdk.trans {o1 o2 o3:Nat->Prop} {a b c:World} (h:qdk o1 a o2 b) (k:qdk o2 b o3 c):qdk o1 a o3 c:=
 ⟨k.os.trans h.os,k.tape.trans h.tape,k.output.trans h.output,po h.size k.size,
   fun i hi hn=>(k.block i (pr hi h.size) (fun ho=>hn (h.own i hi ho))).trans (h.block i hi hn),
   fun i hi ho=>h.own i hi (k.own i (pr hi h.size) ho)⟩
theorem qdk.qo {o:Nat->Prop} {a b:World} (h:Ext a b):qdk o a o b:=
 ⟨h.below.os,h.below.tape,h.below.output,h.size,fun i hi _=>h.below.block i hi,fun _ _ h=>h⟩
theorem qdk.ext {w0 a b:World} {o1 o2:Nat->Prop} (h:qdk o1 a o2 b) (hx:Ext w0 a) (ho:∀ i,o1 i->w0.heap.size<=i):Ext w0 b:=
 ⟨h.os.trans hx.below.os,h.tape.trans hx.below.tape,h.output.trans hx.below.output,po hx.size h.size,
   fun i hi=>(h.block i (pr hi hx.size) (fun hh=>by have:=ho i hh; omega)).trans (hx.below.block i hi)⟩
theorem qdk.cell {o1 o2:Nat->Prop} {a b:World} (h:qdk o1 a o2 b) {p:Addr} (hp:p.block < a.heap.size) (hn:¬ o1 p.block):b.cell? p=a.cell? p:=ph (h.block _ hp hn)
theorem SlR.keeps {α:Type} {P:α->Value->Prop} {w w':World} {v:Value} {l:List α} {o1 o2:Nat->Prop} (h:SlR (fun _=>P) w v l) (k:qdk o1 w o2 w') (hn:∀ ad n c,v=.slice (some ad) n c->¬ o1 ad.block):SlR (fun _=>P) w' v l:=by
 obtain ⟨A,c,e,h1,h2,h3⟩:=h;refine ⟨A,c,e,h1,h2,fun j hj=>?_⟩;obtain ⟨ad,x,rfl,hb,hc,hp⟩:=h3 j hj;exact ⟨ad,x,rfl,pr hb k.size,(k.cell (by rw [zc1]; exact hb) (by rw [zc1]; exact hn _ _ _ e)).trans hc,hp⟩
theorem SlR.qt {α:Type} {P:α->Value->Prop} {w:World} {A:Option Addr} {n c:Nat} {l:List α} (h:SlR (fun _=>P) w (.slice A n c) l) (j:Nat) (hj:j < l.length):∃ ad x,A=some ad/\w.cell? (ad.add j)=some x/\P l[j] x:=by
 obtain ⟨A',c',e,-,-,h3⟩:=h;obtain ⟨ad,x,rfl,-,hc,hp⟩:=h3 j hj;injection e with e1 e2 e3
 exact ⟨ad,x,e1,hc,hp⟩
theorem SlR.len {α:Type} {P:World->α->Value->Prop} {w:World} {v:Value} {l:List α} (h:SlR P w v l):∃ A c,v=.slice A l.length c:=by
 obtain ⟨A',c',e,-⟩:=h;exact ⟨A',c',e⟩
structure qfu {α : Type} (K : Nat) (caps : Array Value) (I : Nat -> World -> (Nat -> Prop) -> α -> Prop) (step : ByteArray -> α -> α) : Prop where
 enter:∀ args W,(callFunc K args).run Tryz.prog W=.ok (.enter K args) W
 ext:∀ b W W' own acc,I b W own acc->Ext W W'->I b W' own acc
 less:∀ b b' W own acc,I b W own acc->b'<=b->I b' W own acc
 lt:∀ b W own acc,I b W own acc->∀ i,own i->i < W.heap.size
 call:∀ b W own acc s,I (b+1) W own acc->Calls Tryz.prog K (#[.string s] ++ caps) W fun e W'=>(∃ v,e=.returned v)/\∃ own',I b W' own' (step s acc)/\qdk own W own' W'
def Tm.fold {α : Type} (st : ByteArray -> α -> α) : Tm -> α -> α
 | .num _,x=>x
 | .name s,x=>st s x
 | .add a b,x=>b.fold st (a.fold st x)
 | .sub a b,x=>b.fold st (a.fold st x)
 | .mul a b,x=>b.fold st (a.fold st x)
 | .neg a,x=>a.fold st x
 | .pow a _,x=>a.fold st x
def ueb {α:Type} (st:ByteArray->α->α) (l:List Tm) (x:α):α:=l.foldl (fun acc k=>k.fold st acc) x
theorem je1 {α:Type} (st:ByteArray->α->α) (l:List Tm) (x:α) (k:Nat) (h:k < l.length):ueb st (l.take (k+1)) x=(l[k]).fold st (ueb st (l.take k) x):=by
 unfold ueb;rw [pg h,List.foldl_append]; rfl
def Tm.xu : Tm -> Bool
 | .name _=>true
 | _=>false
theorem Tm.xL {α:Type} (st:ByteArray->α->α) (t:Tm) (x:α) (h:t.xu=false):t.fold st x=ueb st t.kids x:=by
 cases t <;> simp_all [Tm.fold,Tm.kids,ueb,Tm.xu]
def Tm.sz : Tm -> Nat
 | .num _=>1
 | .name _=>1
 | .add a b=>a.sz+b.sz+1
 | .sub a b=>a.sz+b.sz+1
 | .mul a b=>a.sz+b.sz+1
 | .neg a=>a.sz+1
 | .pow a _=>a.sz+1
theorem Tm.qD (t k:Tm) (h:k ∈ t.kids):k.sz < t.sz:=by
 cases t <;> simp [Tm.kids] at h
 · rcases h with rfl | rfl <;> simp [Tm.sz] <;> omega
 · rcases h with rfl | rfl <;> simp [Tm.sz] <;> omega
 · rcases h with rfl | rfl <;> simp [Tm.sz] <;> omega
 · subst h; simp [Tm.sz]
 · subst h; simp [Tm.sz]
def gdw (l:List Tm):Nat:=(l.map Tm.sz).sum
theorem xer (t:Tm):gdw t.kids+1=t.sz:=by cases t <;> simp [Tm.kids,gdw,Tm.sz] <;> omega
theorem vff (l:List Tm) (k:Nat) (h:k < l.length):gdw (l.drop k)=l[k].sz+gdw (l.drop (k+1)):=by
 unfold gdw;rw [pY h,rL,List.sum_cons]
theorem Tm.qz (t:Tm):t.kids.length<=2:=by cases t <;> simp [Tm.kids]
theorem TmV.yK {w:World} {L:Nat} {t:Tm} {v:Value} (h:TmV w L t v) (hn:t.xu=false):∃ T x,v=.iface T x/\¬ T=73:=by
 cases t <;> (simp only [TmV] at h) <;> first | (cases hn; done) | (obtain ⟨_,e,_⟩:=h; exact ⟨_,_,e,by decide⟩) | (obtain ⟨_,_,e,_⟩:=h; exact ⟨_,_,e,by decide⟩)
theorem xfd {α:Type} {K:Nat} {caps:Array Value} {I:Nat->World->(Nat->Prop)->α->Prop} {step:ByteArray->α->α} (V:qfu K caps I step) {w0:World} {L:Nat} (n:Nat) :
 ∀ (t:Tm) (v:Value),t.sz < n->TmV w0 L t v->∀ (b:Nat) (W:World) (own:Nat->Prop) (acc:α),I (b+t.sz) W own acc ->
 Calls Tryz.prog 69 #[v,.func (.func K) #[] caps] W fun e W'=>(∃ v,e=.returned v)/\∃ own',I b W' own' (t.fold step acc)/\qdk own W own' W':=by
 induction n with
 | zero=>intro t v ht; omega
 | succ n ih =>
 intro t v ht h b W own acc hI;have IH:=hid ih;have hK:=V.enter;have HV:=hid V;have HI:=hid hI;have H:=hid h;clear ih V hI
 by_cases hn:t.xu=true
 · cases t with
   | name s =>
     obtain rfl:=h;go_enter Tryz.func69,Tryz.ntmps69;go_wp2_with fail;refine (HV.out.call b _ _ _ s (HV.out.ext _ _ _ _ _ HI.out ((Ext.refl W).alloc _))).mono ?_;rintro e w1 ⟨⟨v1,rfl⟩,acr,hI1,hk1⟩;have HI1:=hid hI1;have HK1:=hid (qdk.trans (qdk.qo ((Ext.refl W).alloc _)) hk1);clear hI1 hk1;go_wp2_with fail;refine (qd6 (.name s) H.out).mono ?_;rintro e w2 ⟨s2,rfl,hs,-,hx⟩;obtain ⟨A,c,rfl⟩:=hs.len;have HX:=hid hx;clear hs hx;simp only [Tm.kids,pQ];go_wp2_with fail;refine wp_loop_rounds 1 ?_;rw [rounds_succ];go_wp2_with fail
     go_end0
     exact ⟨⟨_,rfl⟩,acr,HV.out.ext _ _ _ _ _ HI1.out HX.out,HK1.out.trans (qdk.qo HX.out)⟩
   | _=>simp [Tm.xu] at hn
 · obtain ⟨T,x,rfl,hT⟩:=h.yK (by simpa using hn);have HN:Hid (t.xu=false):=by
    have:t.xu=false:=by simpa using hn
    exact this
   clear h hn;have hlen:=t.qz;go_enter Tryz.func69,Tryz.ntmps69;go_wp2_with fail;refine (qd6 t H.out).mono ?_;rintro e w1 ⟨s,rfl,hs,hf,hx⟩;obtain ⟨A,c,rfl⟩:=hs.len;have HX:Hid (Ext W w1):=by
    have:Ext W w1:=((Ext.refl W).alloc _).trans hx;exact this
   have HS:=hid hs;have HF:=hid hf;clear hs hf hx;go_wp2_with fail
   go_loopw [21] (fun iv wr=>∃ k:Nat,k<=t.kids.length/\iv=.int .i64 k/\Hid (∃ own',I (b+gdw (t.kids.drop k)) wr own' (ueb step (t.kids.take k) acc)/\qdk own w1 own' wr)) (fun iv _=>t.kids.length - (intOf iv).toNat)
   case atStart =>
    exact ⟨0,pM _,rfl,⟨own,HV.out.less _ _ _ _ _ (HV.out.ext _ _ _ _ _ HI.out HX.out) (by have:=xer t; simp only [rU]; omega),qdk.refl _ _⟩⟩
   case round =>
    obtain ⟨k,hk,rfl,⟨own',hI',hk'⟩⟩:=hrel;have HI':=hid hI';have HK':=hid hk';clear hI' hk'
    by_cases hlt:k < t.kids.length
    · obtain ⟨ad,y,rfl,hc,hp⟩:=SlR.qt (SlR.keeps HS.out HK'.out (fun ad n c e=>fun ho=>by
       have h1:=HF.out ad n c e;have h2:=HV.out.lt _ _ _ _ HI.out _ ho
       simp at h1; omega)) k hlt
      have HP:=hid hp;obtain ⟨U,y,rfl⟩:=hp.iface;clear hp;go_wp2_with fail;refine (IH.out (t.kids[k]) _ (by have:=t.qD _ (pt hlt); omega) HP.out _ _ _ _ (by rw [vff _ _ hlt,Nat.add_comm (t.kids[k]).sz,<- ts] at HI'; exact HI'.out)).mono ?_;rintro e w2 ⟨⟨v2,rfl⟩,acp,hI2,hk2⟩;have HI2:=hid hI2;have HK2:=hid hk2;clear hI2 hk2 hc;go_wp2_with fail
      go_roundw
      case rel=>exact ⟨k+1,by omega,by go_num,⟨acp,by rw [je1 step _ _ _ hlt]; exact HI2.out,HK'.out.trans HK2.out⟩⟩
      case measure=>simp [intOf]; omega
    · have hke:k=t.kids.length:=by omega
      have HD:Hid (I b wr own' (t.fold step acc)):=by
       have:=HV.out.less _ b _ _ _ HI'.out (by omega);rw [hke,pw,<- Tm.xL step t acc HN.out] at this;exact this
      clear hke;go_wp2_with fail
      go_end0
      exact ⟨⟨_,rfl⟩,own',HD.out,(qdk.qo HX.out).trans HK'.out⟩
end Go.Proofs.YtheefiaoimbeiaaGreatDoor

namespace Go.Proofs.YtheefiaoimbeiaaGreatDoor
open Lib (hid)
open Go.RowKit
attribute [local go_sem] uds ydr qdt kds zdt wds vds ydp xdr gds xdt udv qdn ydt xdp
def Fm.sz : Fm -> Nat
 | .truth _=>1
 | .atom a _ b=>a.sz+b.sz+1
 | .not f=>f.sz+1
 | .and f g=>f.sz+g.sz+1
 | .or f g=>f.sz+g.sz+1
 | .imp f g=>f.sz+g.sz+1
 | .iff f g=>f.sz+g.sz+1
 | .quant _ _ f=>f.sz+1
theorem Fm.qD (t k:Fm) (h:k ∈ t.kids):k.sz < t.sz:=by
 cases t <;> simp [Fm.kids] at h
 · subst h; simp [Fm.sz]
 · rcases h with rfl | rfl <;> simp [Fm.sz] <;> omega
 · rcases h with rfl | rfl <;> simp [Fm.sz] <;> omega
 · rcases h with rfl | rfl <;> simp [Fm.sz] <;> omega
 · rcases h with rfl | rfl <;> simp [Fm.sz] <;> omega
 · subst h; simp [Fm.sz]
def xdn (l:List Fm):Nat:=(l.map Fm.sz).sum
theorem zeb (t:Fm):xdn t.kids+1<=t.sz:=by cases t <;> simp [Fm.kids,xdn,Fm.sz] <;> omega
theorem ges (l:List Fm) (k:Nat) (h:k < l.length):xdn (l.drop k)=l[k].sz+xdn (l.drop (k+1)):=by
 unfold xdn;rw [pY h,rL,List.sum_cons]
theorem Fm.qz (t:Fm):t.kids.length<=2:=by cases t <;> simp [Fm.kids]
def bump (a:ByteArray->Int) (s:ByteArray):ByteArray->Int:=fun t=>if t=s then a t+1 else a t
def Fm.fold {α : Type} (st : (ByteArray -> Int) -> ByteArray -> α -> α) : Fm -> (ByteArray -> Int) -> α -> α
 | .truth _,_,x=>x
 | .atom l _ r,a,x=>r.fold (st a) (l.fold (st a) x)
 | .not f,a,x=>f.fold st a x
 | .and f g,a,x=>g.fold st a (f.fold st a x)
 | .or f g,a,x=>g.fold st a (f.fold st a x)
 | .imp f g,a,x=>g.fold st a (f.fold st a x)
 | .iff f g,a,x=>g.fold st a (f.fold st a x)
 | .quant _ s f,a,x=>f.fold st (bump a s) x
def vd8 {α:Type} (st:(ByteArray->Int)->ByteArray->α->α) (l:List Fm) (a:ByteArray->Int) (x:α):α:=l.foldl (fun acc k=>k.fold st a acc) x
theorem kek {α:Type} (st:(ByteArray->Int)->ByteArray->α->α) (l:List Fm) (a:ByteArray->Int) (x:α) (k:Nat) (h:k < l.length):vd8 st (l.take (k+1)) a x=(l[k]).fold st a (vd8 st (l.take k) a x):=by
 unfold vd8;rw [pg h,List.foldl_append]; rfl
def Fm.cls : Fm -> Nat
 | .atom _ _ _=>1
 | .quant _ _ _=>2
 | _=>0
theorem Fm.xL {α:Type} (st:(ByteArray->Int)->ByteArray->α->α) (t:Fm) (a:ByteArray->Int) (x:α) (h:t.cls=0):t.fold st a x=vd8 st t.kids a x:=by
 cases t <;> simp_all [Fm.fold,Fm.kids,vd8,Fm.cls]
theorem FmV.plain {w:World} {L:Nat} {t:Fm} {v:Value} (h:FmV w L t v) (hn:t.cls=0):∃ T x,v=.iface T x/\¬ T=77/\¬ T=79:=by
 cases t <;> (simp only [FmV] at h) <;> first | (cases hn; done) | exact ⟨_,_,h,by decide,by decide⟩ | (obtain ⟨_,e,_⟩:=h; exact ⟨_,_,e,by decide,by decide⟩) | (obtain ⟨_,_,e,_⟩:=h; exact ⟨_,_,e,by decide,by decide⟩)
def jdv (w:World) (b:Nat) (a:ByteArray->Int):Prop:=∃ l,jdp w b l/\∀ s,(xds l s).getD (.int .i64 0)=.int .i64 (a s)
theorem jdv.ext {w w':World} {b:Nat} {a:ByteArray->Int} (h:jdv w b a) (hx:Ext w w'):jdv w' b a:=by
 obtain ⟨l,h1,h2⟩:=h;exact ⟨l,h1.ext hx,h2⟩
theorem jdp.block {w w':World} {b:Nat} {l:List (ByteArray × Value)} (h:jdp w b l) (hx:w'.heap[b]?=w.heap[b]?):jdp w' b l:=by
 obtain ⟨es,clock,hb,he⟩:=h;exact ⟨es,clock,hx.trans hb,he⟩
theorem jdv.block {w w':World} {b:Nat} {a:ByteArray->Int} (h:jdv w b a) (hx:w'.heap[b]?=w.heap[b]?):jdv w' b a:=by
 obtain ⟨l,h1,h2⟩:=h;exact ⟨l,h1.block hx,h2⟩
theorem jdv.lt {w:World} {b:Nat} {a:ByteArray->Int} (h:jdv w b a):b < w.heap.size:=by
 obtain ⟨l,h1,h2⟩:=h;exact h1.lt
theorem jf4:(Tryz.prog.info? 3).map (·.zero)=some (some (.int .i64 0)):=by kernel_rfl
theorem jdv.look {w:World} {b:Nat} {a:ByteArray->Int} (h:jdv w b a) (s:ByteArray):(Instr.lookup 90 (.map (some b)) (.string s) false).run Tryz.prog w=.ok (.int .i64 (a s)) w:=by
 obtain ⟨l,h1,h2⟩:=h;have:=h1.look Tryz.underlying90 ss jf4 s false;rw [this]; simp [h2]
theorem jdv.put {w:World} {b:Nat} {a:ByteArray->Int} (h:jdv w b a) (s:ByteArray) (n:Int):∃ w',(Instr.mapUpdate 90 (.map (some b)) (.string s) (.int .i64 n)).run Tryz.prog w=.ok () w'/\jdv w' b (fun t=>if t=s then n else a t)/\Only b w w':=by
 obtain ⟨l,h1,h2⟩:=h;obtain ⟨w',e,h3,h4⟩:=h1.put (P:=Tryz.prog) Tryz.underlying90 ss s (.int .i64 n);refine ⟨w',e,⟨_,h3,fun t=>?_⟩,h4⟩;rw [yee]
 by_cases ht:t=s
 · simp [ht]
 · simp [ht,h2]
structure kee {α : Type} (K : Nat) (caps : Array Value) (Ma : Nat) (J : Nat -> World -> (Nat -> Prop) -> α -> Prop) (step : (ByteArray -> Int) -> ByteArray -> α -> α) : Prop where
 enter:∀ args W,(callFunc K args).run Tryz.prog W=.ok (.enter K args) W
 ext:∀ b W W' own acc,J b W own acc->Ext W W'->J b W' own acc
 less:∀ b b' W own acc,J b W own acc->b'<=b->J b' W own acc
 map:∀ b W W' own acc,J b W own acc->Only Ma W W'->J b W' own acc
 lt:∀ b W own acc,J b W own acc->∀ i,own i->i < W.heap.size
 ne:∀ b W own acc,J b W own acc->¬ own Ma
 call:∀ b a W own acc s,J (b+1) W own acc->jdv W Ma a->Calls Tryz.prog K (#[.string s] ++ caps) W fun e W'=>(∃ v,e=.returned v)/\∃ own',J b W' own' (step a s acc)/\qdk own W own' W'
theorem kee.yk {α:Type} {K:Nat} {caps:Array Value} {Ma:Nat} {J:Nat->World->(Nat->Prop)->α->Prop} {step:(ByteArray->Int)->ByteArray->α->α} (V:kee K caps Ma J step) (a:ByteArray->Int) :
 qfu K caps (fun b W own acc=>J b W own acc/\jdv W Ma a) (step a) where
 enter:=V.enter
 ext:=fun b W W' own acc h hx=>⟨V.ext b W W' own acc h.1 hx,h.2.ext hx⟩
 less:=fun b b' W own acc h hb=>⟨V.less b b' W own acc h.1 hb,h.2⟩
 lt:=fun b W own acc h=>V.lt b W own acc h.1
 call:=fun b W own acc s h=>(V.call b a W own acc s h.1 h.2).mono fun e W' ⟨h1,own',h2,h3⟩=>⟨h1,own',⟨h2,h.2.block (h3.block _ h.2.lt (V.ne _ _ _ _ h.1))⟩,h3⟩
def plus (own:Nat->Prop) (b:Nat):Nat->Prop:=fun i=>own i\/i=b
theorem qdk.plus {o1 o2:Nat->Prop} {a b:World} (h:qdk o1 a o2 b) (m:Nat):qdk (plus o1 m) a (plus o2 m) b:=
 ⟨h.os,h.tape,h.output,h.size,fun i hi hn=>h.block i hi (fun ho=>hn (.inl ho)),fun i hi ho=>ho.elim (fun k=>.inl (h.own i hi k)) .inr⟩
theorem qdk.zQ {o:Nat->Prop} {a b:World} {m:Nat} (h:Only m a b):qdk (Go.Proofs.YtheefiaoimbeiaaGreatDoor.plus o m) a (Go.Proofs.YtheefiaoimbeiaaGreatDoor.plus o m) b:=
 ⟨rR h,rK h,rE h,h.size,fun i hi hn=>h.block hi (fun e=>hn (.inr e)),fun _ _ h=>h⟩
def qed {α:Type} (Ma b:Nat) (J:Nat->World->(Nat->Prop)->α->Prop) (a:ByteArray->Int) (own:Nat->Prop) (W:World) (acc:α) (e:Ending) (W':World):Prop:=
 (∃ v,e=.returned v)/\∃ own',J b W' own' acc/\jdv W' Ma a/\qdk (plus own Ma) W (plus own' Ma) W'
section
variable {α:Type} {K:Nat} {caps:Array Value} {Ma:Nat} {J:Nat->World->(Nat->Prop)->α->Prop} {step:(ByteArray->Int)->ByteArray->α->α} {w0:World} {L:Nat}
def ye8 (K:Nat) (caps:Array Value) (Ma:Nat) (J:Nat->World->(Nat->Prop)->α->Prop) (step:(ByteArray->Int)->ByteArray->α->α) (w0:World) (L n:Nat):Prop:=
 ∀ (t:Fm) (v:Value),t.sz < n->FmV w0 L t v->∀ (b:Nat) (W:World) (own:Nat->Prop) (a:ByteArray->Int) (acc:α),J (b+t.sz) W own acc->jdv W Ma a->(∀ s,0<=a s/\a s+t.sz<=4611686018427387904) ->
   Calls Tryz.prog 31 #[v,.map (some Ma),.func (.func K) #[] caps] W (qed Ma b J a own W (t.fold step a acc))
theorem jfm (V:kee K caps Ma J step) {l k:Tm} {r:Int} {v:Value} (h:FmV w0 L (.atom l r k) v) (b:Nat) (W:World) (own:Nat->Prop) (a:ByteArray->Int) (acc:α) (hJ:J (b+(Fm.atom l r k).sz) W own acc) (hA:jdv W Ma a) :
 Calls Tryz.prog 31 #[v,.map (some Ma),.func (.func K) #[] caps] W (qed Ma b J a own W ((Fm.atom l r k).fold step a acc)):=by
 have H:=hid h;have HV:=hid V;have HJ:=hid hJ;have HA:=hid hA;clear V hJ hA;obtain ⟨x,y,rfl,hx,hy⟩:=h;have HX:=hid hx;have HY:=hid hy;obtain ⟨T,x,rfl⟩:=hx.iface;obtain ⟨U,y,rfl⟩:=hy.iface;clear hx hy;go_enter Tryz.func31,Tryz.ntmps31;go_wp2_with fail;have hlt:=HV.out.lt _ _ _ _ HJ.out;have HLT:=hid hlt;clear hlt;refine (xfd (HV.out.yk a) _ l _ (pO _) HX.out (b+k.sz) _ own acc ⟨HV.out.less _ _ _ _ _ (HV.out.ext _ _ _ _ _ HJ.out ((Ext.refl W).alloc _)) (by simp only [Fm.sz]; omega),HA.out.ext ((Ext.refl W).alloc _)⟩).mono ?_;rintro e w1 ⟨⟨v1,rfl⟩,acr,⟨hJ1,hA1⟩,hk1⟩;have c2:w1.cell? ⟨W.heap.size,2,none⟩=some (.iface U y):=by
  rw [hk1.cell (p:=⟨W.heap.size,2,none⟩) (by simp) (fun ho=>by have:=HLT.out _ ho; simp at this)];simp [go_sem]
 have HJ1:=hid hJ1;have HA1:=hid hA1;have HK1:=hid (qdk.trans (qdk.qo ((Ext.refl W).alloc _)) hk1);clear hJ1 hA1 hk1;go_wp2_with fail;clear c2;refine (xfd (HV.out.yk a) _ k _ (pO _) HY.out b _ acr _ ⟨HJ1.out,HA1.out⟩).mono ?_;rintro e w2 ⟨⟨v2,rfl⟩,acp,⟨hJ2,hA2⟩,hk2⟩;have HJ2:=hid hJ2;have HA2:=hid hA2;have HK2:=hid (HK1.out.trans hk2);clear hJ2 hA2 hk2 HJ1 HA1 HK1;go_wp2_with fail;refine (ydw (Fm.atom l r k) H.out).mono ?_;rintro e w3 ⟨s2,rfl,hs,-,hx⟩;obtain ⟨A,c,rfl⟩:=hs.len;have HX3:=hid (Ext.trans ((Ext.refl w2).alloc _) hx);clear hs hx;simp only [Fm.kids,pQ];go_wp2_with fail;refine wp_loop_rounds 1 ?_;rw [rounds_succ];go_wp2_with fail
 go_end0
 exact ⟨⟨_,rfl⟩,acp,HV.out.ext _ _ _ _ _ HJ2.out HX3.out,HA2.out.ext HX3.out,(HK2.out.trans (qdk.qo HX3.out)).plus Ma⟩
theorem gd3 (V:kee K caps Ma J step) {n:Nat} (ih:ye8 K caps Ma J step w0 L n) (t:Fm) (v:Value) (hcl:t.cls=0) (hsz:t.sz < n+1) (h:FmV w0 L t v) (b:Nat) (W:World) (own:Nat->Prop) (a:ByteArray->Int) (acc:α) (hJ:J (b+t.sz) W own acc) (hA:jdv W Ma a) (hb:∀ s,0<=a s/\a s+t.sz<=4611686018427387904) :
 Calls Tryz.prog 31 #[v,.map (some Ma),.func (.func K) #[] caps] W (qed Ma b J a own W (t.fold step a acc)):=by
 have H:=hid h;have HV:=hid V;have HJ:=hid hJ;have HA:=hid hA;have HB:=hid hb;have HC:=hid hcl;have IH:=hid ih;have HLT:=hid (V.lt _ _ _ _ hJ);obtain ⟨T,x,rfl,hT,hT'⟩:=h.plain hcl;have hlen:=t.qz;clear h V hJ hA hb hcl ih;go_enter Tryz.func31,Tryz.ntmps31;go_wp2_with fail;refine (ydw t H.out).mono ?_;rintro e w1 ⟨s,rfl,hs,hf,hx⟩;obtain ⟨A,c,rfl⟩:=hs.len;have HX:Hid (Ext W w1):=by
  have:Ext W w1:=(((Ext.refl W).alloc _).alloc _).trans hx;exact this
 have HS:=hid hs;have HF:=hid hf;clear hs hf hx;go_wp2_with fail
 go_loopw [40] (fun iv wr=>∃ k:Nat,k<=t.kids.length/\iv=.int .i64 k/\Hid (∃ own',J (b+xdn (t.kids.drop k)) wr own' (vd8 step (t.kids.take k) a acc)/\jdv wr Ma a/\qdk (plus own Ma) w1 (plus own' Ma) wr)) (fun iv _=>t.kids.length - (intOf iv).toNat)
 case atStart =>
  exact ⟨0,pM _,rfl,⟨own,HV.out.less _ _ _ _ _ (HV.out.ext _ _ _ _ _ HJ.out HX.out) (by have:=zeb t; simp only [rU]; omega),HA.out.ext HX.out,qdk.refl _ _⟩⟩
 case round =>
  obtain ⟨k,hk,rfl,⟨own',hJ',hA',hk'⟩⟩:=hrel;have HJ':=hid hJ';have HA':=hid hA';have HK':=hid hk';clear hJ' hA' hk'
  by_cases hlt:k < t.kids.length
  · obtain ⟨ad,y,rfl,hc,hp⟩:=SlR.qt (SlR.keeps HS.out HK'.out (fun ad n c e=>fun ho=>by
     have h1:=HF.out ad n c e;have h3:=HA.out.lt;rcases ho with ho | ho
     · have h2:=HLT.out _ ho;simp at h1; omega
     · simp at h1; omega)) k hlt
    have HP:=hid hp;obtain ⟨U,y,rfl⟩:=hp.iface;clear hp;go_wp2_with fail;have hkl:=t.qD _ (pt hlt);refine (IH.out (t.kids[k]) _ (by omega) HP.out _ _ _ _ _ (by rw [ges _ _ hlt,Nat.add_comm (t.kids[k]).sz,<- ts] at HJ'; exact HJ'.out) HA'.out (fun s=>by have:=HB.out s; omega)).mono ?_;rintro e w2 ⟨⟨v2,rfl⟩,acp,hJ2,hA2,hk2⟩;have HJ2:=hid hJ2;have HA2:=hid hA2;have HK2:=hid hk2;clear hJ2 hA2 hk2 hc;go_wp2_with fail
    go_roundw
    case rel=>exact ⟨k+1,by omega,by go_num,⟨acp,by rw [kek step _ _ _ _ hlt]; exact HJ2.out,HA2.out,HK'.out.trans HK2.out⟩⟩
    case measure=>simp [intOf]; omega
  · have hke:k=t.kids.length:=by omega
    have HD:Hid (J b wr own' (t.fold step a acc)):=by
     have:=HV.out.less _ b _ _ _ HJ'.out (by omega);rw [hke,pw,<- Fm.xL step t a acc HC.out] at this;exact this
    clear hke;go_wp2_with fail
    go_end0
    exact ⟨⟨_,rfl⟩,own',HD.out,HA'.out,(qdk.qo HX.out).trans HK'.out⟩
theorem xff (V:kee K caps Ma J step) {n:Nat} (ih:ye8 K caps Ma J step w0 L n) {al:Bool} {s:ByteArray} {f:Fm} {v:Value} (hsz:(Fm.quant al s f).sz < n+1) (h:FmV w0 L (.quant al s f) v) (b:Nat) (W:World) (own:Nat->Prop) (a:ByteArray->Int) (acc:α) (hJ:J (b+(Fm.quant al s f).sz) W own acc) (hA:jdv W Ma a) (hb:∀ t,0<=a t/\a t+(Fm.quant al s f).sz<=4611686018427387904) :
 Calls Tryz.prog 31 #[v,.map (some Ma),.func (.func K) #[] caps] W (qed Ma b J a own W ((Fm.quant al s f).fold step a acc)):=by
 have H:=hid h;have HV:=hid V;have HJ:=hid hJ;have HA:=hid hA;have HB:=hid hb;have IH:=hid ih;have HLT:=hid (V.lt _ _ _ _ hJ);obtain ⟨x,rfl,hx⟩:=h;have HX:=hid hx;obtain ⟨T,x,rfl⟩:=hx.iface;have hbs:=hb s;have aAV:=hA.lt;obtain ⟨W2,hW2⟩:=n_m ((W.alloc (Obj.cells #[.nilIface,.int .i64 0,.nilIface] 77)).alloc (Obj.cells #[.bool al,.string s,.iface T x] 79));have hx2:Ext W W2:=by rw [<- hW2]; exact ((Ext.refl W).alloc _).alloc _
 have c1:W2.cell? ⟨W.heap.size+1,1,none⟩=some (.string s):=by rw [<- hW2]; simp [go_sem]
 have alk:W.heap.size+1 < W2.heap.size:=by rw [<- hW2]; simp
 have hA2:=hA.ext hx2;have hl:=hA2.look s;obtain ⟨W3,hp,hA3,ho3⟩:=hA2.put s (a s+1);have asu:jdv W3 Ma (bump a s):=by
  have:(fun t=>if t=s then a s+1 else a t)=bump a s:=by
   funext t; unfold bump; by_cases e:t=s
   · rw [if_pos e,if_pos e,e]
   · rw [if_neg e,if_neg e]
  rw [<- this]; exact hA3
 clear hx V hJ hA hb ih hA3;simp only [Fm.sz] at hbs;generalize hg:a s=q at *;have HG:=hid hg;have HC1:Hid (W3.cell? ⟨W.heap.size+1,1,none⟩=some (.string s)):=by
  have:W3.cell? ⟨W.heap.size+1,1,none⟩=some (.string s):=by rw [ho3.cell (p:=⟨W.heap.size+1,1,none⟩) (by simpa using alk) (by simp; omega)]; exact c1
  exact this
 have HJ3:Hid (J (b+(Fm.quant al s f).sz) W3 own acc):=by
  have:J (b+(Fm.quant al s f).sz) W3 own acc:=HV.out.map _ _ _ _ _ (HV.out.ext _ _ _ _ _ HJ.out hx2) ho3;exact this
 have HA3:=hid asu;have HK3:Hid (qdk (plus own Ma) W (plus own Ma) W3):=by
  have:qdk (plus own Ma) W (plus own Ma) W3:=(qdk.qo hx2).trans (qdk.zQ ho3);exact this
 have aoB:=ho3.size;clear hg asu ho3 hA2 hx2;go_enter Tryz.func31,Tryz.ntmps31;go_wp2_with fail;clear hl hp hW2 c1;refine (ydw (Fm.quant al s f) H.out).mono ?_;rintro e w4 ⟨s4,rfl,hs,hf,hx⟩;obtain ⟨ks,hks⟩:=n_m ((Fm.quant al s f).kids);rw [hks] at hs;have hlen:ks.length<=2:=by rw [<- hks]; exact Fm.qz _
 have HKS:=hid hks;clear hks;obtain ⟨A,c,rfl⟩:=hs.len;have HS:=hid hs;have HF:=hid hf;have HX4:=hid hx;clear hs hf hx;go_wp2_with fail
 go_loopw [40] (fun iv wr=>∃ k:Nat,k<=ks.length/\iv=.int .i64 k/\Hid (∃ own',J (b+xdn (ks.drop k)) wr own' (vd8 step (ks.take k) (bump a s) acc)/\jdv wr Ma (bump a s)/\qdk (plus own Ma) w4 (plus own' Ma) wr)) (fun iv _=>ks.length - (intOf iv).toNat)
 case atStart =>
  exact ⟨0,pM _,rfl,⟨own,HV.out.less _ _ _ _ _ (HV.out.ext _ _ _ _ _ HJ3.out HX4.out) (by have:=zeb (Fm.quant al s f); rw [HKS.out] at this; simp only [rU]; omega),HA3.out.ext HX4.out,qdk.refl _ _⟩⟩
 case round =>
  obtain ⟨k,hk,rfl,⟨own',hJ',hA',hk'⟩⟩:=hrel;have HJ':=hid hJ';have HA':=hid hA';have HK':=hid hk';clear hJ' hA' hk'
  by_cases hlt:k < ks.length
  · obtain ⟨ad,y,rfl,hc,hp⟩:=SlR.qt (SlR.keeps HS.out HK'.out (fun ad n c e=>fun ho=>by
     have h1:=HF.out ad n c e;rcases ho with ho | ho
     · have h2:=HLT.out _ ho;omega
     · omega)) k hlt
    have HP:=hid hp;obtain ⟨U,y,rfl⟩:=hp.iface;clear hp;go_wp2_with fail;have hkl:ks[k].sz < (Fm.quant al s f).sz:=Fm.qD _ _ (by rw [HKS.out]; exact pt hlt);refine (IH.out (ks[k]) _ (by omega) HP.out _ _ _ _ _ (by rw [ges _ _ hlt,Nat.add_comm (ks[k]).sz,<- ts] at HJ'; exact HJ'.out) HA'.out (fun t=>by have:=HB.out t; unfold bump; split <;> omega)).mono ?_;rintro e w5 ⟨⟨v2,rfl⟩,acp,hJ2,hA2,hk2⟩;have HJ2:=hid hJ2;have HA2:=hid hA2;have HK2:=hid hk2;clear hJ2 hA2 hk2 hc;go_wp2_with fail
    go_roundw
    case rel=>exact ⟨k+1,by omega,by go_num,⟨acp,by rw [kek step _ _ _ _ hlt]; exact HJ2.out,HA2.out,HK'.out.trans HK2.out⟩⟩
    case measure=>simp [intOf]; omega
  · have HKE:Hid (k=ks.length):=by
     have:k=ks.length:=by omega
     exact this
    have c1:wr.cell? ⟨W.heap.size+1,1,none⟩=some (.string s):=by
     have hx4:=HX4.out;rw [HK'.out.cell (p:=⟨W.heap.size+1,1,none⟩) (by have:=hx4.size; simp; omega) (fun ho=>by
      rcases ho with ho | ho
      · have:=HLT.out _ ho; dsimp only at this; omega
      · simp at ho; omega),hx4.cell (p:=⟨W.heap.size+1,1,none⟩) (by simp; omega)]
     exact HC1.out
    have hb1:bump a s s=q+1:=by unfold bump; rw [if_pos rfl,HG.out]
    have hl:=HA'.out.look s;rw [hb1] at hl;obtain ⟨W6,hp,hA6,ho6⟩:=HA'.out.put s q;have HD:Hid (qed Ma b J a own W ((Fm.quant al s f).fold step a acc) (.returned (.tuple #[])) W6):=by
     have hJ6:J b W6 own' (Fm.fold step f (bump a s) acc):=by
      have:=HV.out.less _ b _ _ _ (HV.out.map _ _ _ _ _ HJ'.out ho6) (by omega);rw [HKE.out,pw,<- HKS.out] at this;exact this
     have awq:jdv W6 Ma a:=by
      have:(fun t=>if t=s then q else bump a s t)=a:=by
       funext t; unfold bump; by_cases e:t=s
       · rw [if_pos e,e,HG.out]
       · rw [if_neg e,if_neg e]
      rw [<- this]; exact hA6
     exact ⟨⟨_,rfl⟩,own',hJ6,awq,((HK3.out.trans (qdk.qo HX4.out)).trans HK'.out).trans (qdk.zQ ho6)⟩
    clear hb1 hA6 ho6 HG;go_wp2_with fail
    go_end0
    exact HD.out
theorem xfc (V:kee K caps Ma J step) (n:Nat):ye8 K caps Ma J step w0 L n:=by
 induction n with
 | zero=>intro t v ht; omega
 | succ n ih =>
   intro t v ht h b W own a acc hJ hA hb;cases t with
   | atom l r k=>exact jfm V h b W own a acc hJ hA
   | quant al s f=>exact xff V ih ht h b W own a acc hJ hA hb
   | truth tb=>exact gd3 V ih _ v rfl ht h b W own a acc hJ hA hb
   | not f=>exact gd3 V ih _ v rfl ht h b W own a acc hJ hA hb
   | and f g=>exact gd3 V ih _ v rfl ht h b W own a acc hJ hA hb
   | or f g=>exact gd3 V ih _ v rfl ht h b W own a acc hJ hA hb
   | imp f g=>exact gd3 V ih _ v rfl ht h b W own a acc hJ hA hb
   | iff f g=>exact gd3 V ih _ v rfl ht h b W own a acc hJ hA hb
end
end Go.Proofs.YtheefiaoimbeiaaGreatDoor

namespace Go.Proofs.YtheefiaoimbeiaaGreatDoor
open Lib (hid)
open Go.RowKit
def Fm.qe (P : Tm -> Prop) : Fm -> Prop
 | .truth _=>True
 | .atom l _ k=>P l/\P k
 | .not f=>f.qe P
 | .and f g=>f.qe P/\g.qe P
 | .or f g=>f.qe P/\g.qe P
 | .imp f g=>f.qe P/\g.qe P
 | .iff f g=>f.qe P/\g.qe P
 | .quant _ _ f=>f.qe P
theorem Fm.zx {P:Tm->Prop} (f:Fm) (h:f.qe P):∀ g ∈ f.kids,g.qe P:=by
 cases f with
 | truth b=>intro g hg; cases hg
 | atom l r k=>intro g hg; cases hg
 | not f=>intro g hg; obtain rfl:=rb.1 hg; exact h
 | and f k =>
   intro g hg;simp only [Fm.kids,pI,rM,or_false] at hg;rcases hg with rfl | rfl
   · exact h.1
   · exact h.2
 | or f k =>
   intro g hg;simp only [Fm.kids,pI,rM,or_false] at hg;rcases hg with rfl | rfl
   · exact h.1
   · exact h.2
 | imp f k =>
   intro g hg;simp only [Fm.kids,pI,rM,or_false] at hg;rcases hg with rfl | rfl
   · exact h.1
   · exact h.2
 | iff f k =>
   intro g hg;simp only [Fm.kids,pI,rM,or_false] at hg;rcases hg with rfl | rfl
   · exact h.1
   · exact h.2
 | quant a s f=>intro g hg; obtain rfl:=rb.1 hg; exact h
theorem Fm.zq {P:Tm->Prop} (hP:∀ t,P t) (f:Fm):f.qe P:=by
 induction f <;> simp_all [Fm.qe]
end Go.Proofs.YtheefiaoimbeiaaGreatDoor
