/- prenex.Of for formulas without quantifiers, within the limits. -/
import Derived.Test.YtheefiaoimbeiaaGreatDoorMt23
import Derived.Test.YtheefiaoimbeiaaGreatDoorMt24
import Derived.Test.YtheefiaoimbeiaaGreatDoorMt27
import Derived.Test.YtheefiaoimbeiaaGreatDoorMt18
import Derived.Test.YtheefiaoimbeiaaGreatDoorMt30
import Derived.Test.YtheefiaoimbeiaaGreatDoorMt6
set_option linter.unusedSimpArgs false
set_option linter.unusedVariables false

namespace Go.Proofs.YtheefiaoimbeiaaGreatDoor
open Go.RowKit
theorem Fm.terms_true (f:Fm):f.terms (fun _=>True):=by
 induction f <;> simp_all [Fm.terms]
theorem qce {w0 w:World} {L:Nat} (hs:L<=1000000000000) (f:Fm) {v:Value} (hx0:Ext w0 w) (h:FmV w0 L f v) (hl:f.sz<=400) (hpl:f.okB false=true) (hok:f.nmE=0) :
 Calls Tryz.prog 9 #[v] w fun e w'=>∃ u,e=.returned (.tuple #[u,.int .i64 0])/\Ext w w'/\PxV w' (fun b=>w.heap.size<=b) f.free.length (yc f true f.st).2.all (yc f true f.st).2.names (yc f true f.st).1 u:=
 qcp hs f hx0 h (by omega) hpl hok (f.chk_light hok) (by
  have h1:=f.bound_len;have h2:=f.free_len (fun _=>0) [];have h3:f.free.length=(f.fold zi (fun _=>0) []).length:=rfl;simp only [List.length_nil] at h2
  omega) (xbs hs f) (ucg (P:=fun _=>True) f (fun w gb bl t _ g=>xb8 hs t) f.terms_true)
theorem wb5 {f:Fm} (hb:f.bound=[]) (hc:f.chk=0) (hsz:f.sz<=120) (hi:f.iffN<=4) :
 (yc f true f.st).2=f.st/\(yc f true f.st).1.sz<=1000000/\(yc f true f.st).1.each wc0/\(yc f true f.st).1.each (fun p=>p.eb 3<=1099511627776)/\(yc f true f.st).1.lvl<=4/\f.free.length<=4:=by
 obtain ⟨h4,hlim,-⟩:=kay hb hc;have ho:=(uan f hb).1;have hf:=vcg f true f.st hlim;have hz:∀ p:Pl,Fit p 8 323->p.sz<=10000:=fun p hp=>hp.sz
 refine ⟨(vac f ho).2.1 true f.st,?_,Mx.each_mono (fun p hp=>jck hp.can (by have:=hz p hp; omega) (by have:=hp.dm; omega)) _ hf,Mx.each_mono (fun p hp=>jc2 hp.dm (by have:=hz p hp; omega)) _ hf,Mx.lvl_4 _ _ (Nat.lt_succ_self _),h4⟩;have h1:=jcg f true f.st ho;have h2:3 ^ f.iffN<=3 ^ 4:=Nat.pow_le_pow_right (by decide) hi;have h3:=Nat.mul_le_mul hsz h2;have h5:120 * 3 ^ 4=9720:=rfl;omega
theorem qb8 (w:World) (T:TypeId) (v0 v1 v2 v3 v4 v5 v6 v7 v8 v9:Value):∀ W,w.alloc (.cells #[v0,v1,v2,v3,v4,v5,v6,v7,v8,v9] T)=W->Ext w W/\W.heap.size=w.heap.size+1/\(W.cell? ⟨w.heap.size,0,none⟩=some v0/\W.cell? ⟨w.heap.size,1,none⟩=some v1/\W.cell? ⟨w.heap.size,2,none⟩=some v2/\W.cell? ⟨w.heap.size,3,none⟩=some v3/\W.cell? ⟨w.heap.size,4,none⟩=some v4/\W.cell? ⟨w.heap.size,5,none⟩=some v5/\W.cell? ⟨w.heap.size,6,none⟩=some v6/\W.cell? ⟨w.heap.size,7,none⟩=some v7/\W.cell? ⟨w.heap.size,8,none⟩=some v8/\W.cell? ⟨w.heap.size,9,none⟩=some v9):=by
 rintro W rfl;refine ⟨(Ext.refl w).alloc _,by simp,?_,?_,?_,?_,?_,?_,?_,?_,?_,?_⟩ <;> simp [go_sem]
end Go.Proofs.YtheefiaoimbeiaaGreatDoor

/- Plain: terms and formulas at integers. -/
namespace Go.Proofs.YtheefiaoimbeiaaGreatDoor
def Tm.ival (g : ByteArray -> Int) : Tm -> Int
 | .num z=>z
 | .name s=>g s
 | .add a b=>a.ival g+b.ival g
 | .sub a b=>a.ival g - b.ival g
 | .mul a b=>a.ival g * b.ival g
 | .neg a=>-a.ival g
 | .pow a e=>a.ival g ^ e.toNat
def jcj (a b:Int):Int:=if a < b then -1 else if b < a then 1 else 0
def Fm.itv (g : ByteArray -> Int) : Fm -> Bool
 | .truth b=>b
 | .atom l r k=>jac r (jcj (l.ival g) (k.ival g))
 | .not f=>!f.itv g
 | .and f h=>f.itv g && h.itv g
 | .or f h=>f.itv g || h.itv g
 | .imp f h=>!f.itv g || h.itv g
 | .iff f h=>f.itv g == h.itv g
 | .quant _ _ _=>false
theorem zb8 (a b:Int):ya1 (a:Rat) (b:Rat)=jcj a b:=by
 unfold ya1 jcj;simp only [Rat.intCast_lt_intCast]
section
variable {v:ByteArray->Option Rat} {g:ByteArray->Int} (hg:∀ s q,v s=some q->q=(g s:Rat))
include hg
theorem gaf : ∀ t : Tm, t.covered v -> t.val v = ((t.ival g : Int) : Rat)
 | .num z,_=>rfl
 | .name s,h=>by
   obtain ⟨q,hq⟩:=Option.isSome_iff_exists.1 (show (v s).isSome=true from h);rw [Tm.val,hq,Tm.ival,Option.getD_some,hg s q hq]
 | .add a b,h=>by rw [Tm.val,gaf a h.1,gaf b h.2,Tm.ival,Rat.intCast_add]
 | .sub a b,h=>by rw [Tm.val,gaf a h.1,gaf b h.2,Tm.ival,Rat.intCast_sub]
 | .mul a b,h=>by rw [Tm.val,gaf a h.1,gaf b h.2,Tm.ival,Rat.intCast_mul]
 | .neg a,h=>by rw [Tm.val,gaf a h,Tm.ival,Rat.intCast_neg]
 | .pow a e,h=>by rw [Tm.val,gaf a h,Tm.ival,Rat.intCast_pow]
theorem jcz (f:Fm):f.bound=[]->f.cov v->f.tv v=f.itv g:=by
 induction f with
 | truth b=>exact fun _ _=>rfl
 | atom l r k=>intro _ h; simp only [Fm.tv,Fm.itv]; rw [gaf hg l h.1,gaf hg k h.2,zb8]
 | not f ih=>intro hb h; simp only [Fm.tv,Fm.itv]; rw [ih hb h]
 | and f k ihf ihk=>intro hb h; simp only [Fm.tv,Fm.itv]; rw [ihf (List.append_eq_nil_iff.1 hb).1 h.1,ihk (List.append_eq_nil_iff.1 hb).2 h.2]
 | or f k ihf ihk=>intro hb h; simp only [Fm.tv,Fm.itv]; rw [ihf (List.append_eq_nil_iff.1 hb).1 h.1,ihk (List.append_eq_nil_iff.1 hb).2 h.2]
 | imp f k ihf ihk=>intro hb h; simp only [Fm.tv,Fm.itv]; rw [ihf (List.append_eq_nil_iff.1 hb).1 h.1,ihk (List.append_eq_nil_iff.1 hb).2 h.2]
 | iff f k ihf ihk=>intro hb h; simp only [Fm.tv,Fm.itv]; rw [ihf (List.append_eq_nil_iff.1 hb).1 h.1,ihk (List.append_eq_nil_iff.1 hb).2 h.2]
 | quant a s f ih=>intro hb; cases hb
end
def uh : List ByteArray -> List Int -> ByteArray -> Int
 | [],_,_=>0
 | n :: r,x,s=>if n=s then x.getD 0 0 else uh r x.tail s
theorem gbs : ∀ (l : List ByteArray) (x : List Int), l.Nodup -> ∀ i (hi : i < l.length), uh l x l[i] = x.getD i 0
 | [],_,_,i,hi=>by simp at hi
 | n :: r,x,hn,0,_=>by simp [uh]
 | n :: r,x,hn,i+1,hi=>by
   have h1:=List.nodup_cons.1 hn;have hi':i < r.length:=by simpa using hi
   have hne:n ≠ r[i]:=fun e=>h1.1 (e ▸ List.getElem_mem hi')
   simp only [List.getElem_cons_succ,uh];rw [if_neg hne,gbs r x.tail h1.2 i hi'];cases x with
   | nil=>simp
   | cons y t=>simp
theorem xbo {f:Fm} (x:List Int) (hb:f.bound=[]) (hc:f.chk=0):(yc f true f.st).1.tv (rho (x.map fun z:Int=>(z:Rat)))=f.itv (uh f.free x):=by
 obtain ⟨h1,h2⟩:=gb5 (x.map fun z:Int=>(z:Rat)) hb hc;rw [h2];refine jcz (fun s q hq=>?_) f hb h1;obtain ⟨i,hi,rfl,rfl⟩:=ya5 _ _ _ _ _ hq;have hm:f.free.getD i ByteArray.empty=f.free[i]:=by rw [List.getD_eq_getElem?_getD,List.getElem?_eq_getElem hi]; rfl
 rw [hm,gbs f.free x f.free_nodup i hi,List.getD_eq_getElem?_getD,List.getD_eq_getElem?_getD,List.getElem?_map];cases x[i]? <;> rfl
end Go.Proofs.YtheefiaoimbeiaaGreatDoor

/- Law 38: the value of a term's tree at integers. -/
set_option maxRecDepth 100000
set_option maxHeartbeats 8000000
namespace Go.Proofs.YtheefiaoimbeiaaGreatDoor
open Go.RowKit
theorem ja2 {z:Int} {M:Nat} (h:jr (z:Rat)<=M):(dg z.natAbs).length<=M:=Nat.le_trans (by have:=yax (z:Rat); rwa [Rat.num_intCast] at this) h
section
variable {a b:Int} {A B:Nat} (ha:(dg a.natAbs).length<=A) (hb:(dg b.natAbs).length<=B) (h1:1<=A) (h2:1<=B)
include ha hb h1 h2
theorem jci:(dg (a+b).natAbs).length<=A+B+1:=ja2 (by
 have e1:=gab a ha h1;have e2:=gab b hb h2;have e3:=ga5 (a:Rat) (b:Rat)
 rw [Rat.intCast_add]; omega)
theorem yci:(dg (a - b).natAbs).length<=A+B+1:=ja2 (by
 have e1:=gab a ha h1;have e2:=gab b hb h2;have e3:=ycc (a:Rat) (b:Rat)
 rw [Rat.intCast_sub]; omega)
theorem qci:(dg (a * b).natAbs).length<=A+B:=ja2 (by
 have e1:=gab a ha h1;have e2:=gab b hb h2;have e3:=xax (a:Rat) (b:Rat)
 rw [Rat.intCast_mul]; omega)
end
theorem xci {a:Int} {A:Nat} (n:Nat) (ha:(dg a.natAbs).length<=A) (h1:1<=A):(dg (a ^ n).natAbs).length<=max n 1 * A:=ja2 (by
 rw [Rat.intCast_pow]
 exact Nat.le_trans (xcc _ _) (Nat.mul_le_mul_left _ (gab a ha h1)))
def zal (w:World) (g:Nat):Prop:=(w.cell? ⟨g,0,none⟩=some (.bool false)/\w.cell? ⟨g,1,none⟩=some (.slice none 0 0))/\w.frozen? ⟨g,0,none⟩=false/\w.frozen? ⟨g,1,none⟩=false
theorem zal.ext {w w':World} {g:Nat} (h:zal w g) (hx:Ext w w') (hg:g < w.heap.size):zal w' g:=by
 obtain ⟨⟨h0,h1⟩,f0,f1⟩:=h;have k:∀ i,w'.cell? ⟨g,i,none⟩=w.cell? ⟨g,i,none⟩:=fun i=>hx.cell (p:=⟨g,i,none⟩) hg
 have f:∀ i,w'.frozen? ⟨g,i,none⟩=w.frozen? ⟨g,i,none⟩:=fun i=>hx.frozen (p:=⟨g,i,none⟩) hg
 exact ⟨⟨(k _).trans h0,(k _).trans h1⟩,(f _).trans f0,(f _).trans f1⟩
theorem xaj (w:World) (t:TypeId):zal (w.alloc (.cells #[.bool false,.slice none 0 0] t)) w.heap.size:=by
 refine ⟨⟨?_,?_⟩,?_,?_⟩ <;> simp [go_sem]
def ycl (z:Int) (M:Nat) (w:World) (e:Ending) (w':World):Prop:=∃ x,e=.returned x/\jg w' x z M/\Ext w w'
theorem gam {w W:World} {g M:Nat} {z:Int} {b s:Value} (hx:Ext w W) (hg:w.heap.size<=g) (hz:zal W g) (hr:jg W (.agg #[b,s]) z M) :
 ycl z M w (.returned (.agg #[b,s])) ((W.setCell ⟨g,0,none⟩ b).setCell ⟨g,1,none⟩ s):=by
 obtain ⟨⟨h0,h1⟩,-,-⟩:=hz;refine ⟨_,rfl,(hr.box h0 rfl b).box (u:=.slice none 0 0) ?_ rfl s,(hx.setCell (by simpa using hg) _).setCell (by simpa using hg) _⟩;rw [World.cell?_setCell_other _ _ _ _ (by simp),h1]
def NxV (w:World) (sn sx:Value) (ns:List ByteArray) (xs:List Int):Prop:=Strs w sn ns/\IsV w sx xs
theorem NxV.ext {w w':World} {sn sx:Value} {ns:List ByteArray} {xs:List Int} (h:NxV w sn sx ns xs) (hx:Ext w w'):NxV w' sn sx ns xs:=⟨h.1.ext hx,h.2.ext hx⟩
theorem qbl : ∀ (l : List ByteArray) (x : List Int) (s : ByteArray) (k : Nat) (hk : k < l.length), (∀ j (hj : j < l.length), j < k -> l[j] ≠ s) -> l[k] = s -> uh l x s = x.getD k 0
 | [],_,_,k,hk,_,_=>by simp at hk
 | n :: r,x,s,0,_,_,he=>by simp only [List.getElem_cons_zero] at he; simp [uh,he]
 | n :: r,x,s,k+1,hk,h,he=>by
   have h0:=h 0 (by simp) (by omega);simp only [List.getElem_cons_zero] at h0;simp only [List.getElem_cons_succ] at he;simp only [uh];rw [if_neg h0,qbl r x.tail s k (by simpa using hk) (fun j hj hjk=>by have:=h (j+1) (by simpa using hj) (by omega); simpa using this) he];cases x with
   | nil=>simp
   | cons y t=>simp
theorem ubs : ∀ (l : List ByteArray) (x : List Int) (s : ByteArray), (∀ j (hj : j < l.length), l[j] ≠ s) -> uh l x s = 0
 | [],_,_,_=>rfl
 | n :: r,x,s,h=>by
   have h0:=h 0 (by simp);simp only [List.getElem_cons_zero] at h0;simp only [uh];rw [if_neg h0];exact ubs r x.tail s (fun j hj=>by have:=h (j+1) (by simpa using hj); simpa using this)
def wai (L:Nat) (p:Nat->Prop) (sn sx:Value) (ns:List ByteArray) (xs:List Int) (m:Tm):Prop:=∀ (t:Tr) (v:Value) (w:World),zy L m t->TrV w p t v->NxV w sn sx ns xs->Calls Tryz.prog 42 #[v,sn,sx] w (ycl (m.ival (uh ns xs)) (m.bt L) w)
section
variable {L:Nat} {p:Nat->Prop} {sn sx:Value} {ns:List ByteArray} {xs:List Int}
theorem ucu {z:Int}:wai L p sn sx ns xs (.num z):=by
 intro t v w h hv hvs;obtain ⟨⟨kind,neg,ds,name,exp,rel,truth,all⟩,ks⟩:=t;obtain ⟨hkind,hks,hz,hl⟩:=h;simp only [Tr.d] at hkind hz hl;simp only [Tr.ks] at hks;subst hkind hks;obtain ⟨A0,n0,c0,A,c,rfl,hnat,hc1,hc2,hat⟩:=hv.open_;clear hv hat;unfold ndV;simp only [Tr.d,Tr.ks,List.length_nil] at hc1 hnat ⊢;have HVS:=Lib.hid hvs;obtain ⟨⟨An,cn,rfl,hn1,hn2,-⟩,⟨Ax,cx,rfl,hx1,hx2,-⟩⟩:=hvs;obtain ⟨W,hW⟩:=n_m ((w.alloc (.cells #[.int .i64 1,.bool neg,.slice A0 n0 c0,.string name,.int .i64 exp,.int .i64 rel,.bool truth,.bool all,.slice A 0 c] 29)).alloc (.cells #[.bool false,.slice none 0 0] 25));have hWx:Ext w W:=by rw [<- hW]; exact ((Ext.refl w).alloc _).alloc _
 have hWs:W.heap.size=w.heap.size+1+1:=by rw [<- hW]; simp
 have hbx:W.heap[w.heap.size]?=some (.cells #[.int .i64 1,.bool neg,.slice A0 n0 c0,.string name,.int .i64 exp,.int .i64 rel,.bool truth,.bool all,.slice A 0 c] 29):=by rw [<- hW,Below.heap_alloc _ _ _ (by simp)]; exact heap_alloc_new w _
 have hZ:zal W (w.heap.size+1):=by
  rw [<- hW];have:=xaj (w.alloc (.cells #[.int .i64 1,.bool neg,.slice A0 n0 c0,.string name,.int .i64 exp,.int .i64 rel,.bool truth,.bool all,.slice A 0 c] 29)) 25
  rwa [World.size_alloc] at this
 have HZ:=Lib.hid hZ;have HWX:=Lib.hid hWx;have HI:Hid (jg W (.agg #[.bool neg,.slice A0 n0 c0]) z L):=⟨neg,_,ds,rfl,hnat.ext hWx,hz,hl⟩;have b0:W.cell? ⟨w.heap.size,0,none⟩=some (.int .i64 1):=by simp [World.cell?,hbx]
 have b1:W.cell? ⟨w.heap.size,1,none⟩=some (.bool neg):=by simp [World.cell?,hbx]
 have b2:W.cell? ⟨w.heap.size,2,none⟩=some (.slice A0 n0 c0):=by simp [World.cell?,hbx]
 have HF:=Lib.hid (gam (g:=w.heap.size+1) HWX.out (by omega) HZ.out HI.out);obtain ⟨⟨r0,r1⟩,g0,g1⟩:=HZ.out;clear hnat hz hWx hZ hbx HVS;go_enter Tryz.func42,Tryz.ntmps42;go_wp2_with fail;clear hW;exact bodyPost_ret (v:=.agg #[.bool neg,.slice A0 n0 c0]) (by simp [results,Tryz.results42,go_sem,r0,r1]) rfl HF.out
theorem wcl {nm:ByteArray} (hL:∀ z ∈ xs,(dg z.natAbs).length<=L) (hnx:ns.length<=xs.length):wai L p sn sx ns xs (.name nm):=by
 intro t v w h hv hvs;obtain ⟨⟨kind,neg,ds,name,exp,rel,truth,all⟩,ks⟩:=t;obtain ⟨hkind,hks,hnm⟩:=h;simp only [Tr.d] at hkind hnm;simp only [Tr.ks] at hks;subst hkind hks hnm
 change Calls _ _ _ _ (ycl (uh ns xs name) L w)
 obtain ⟨A0,n0,c0,A,c,rfl,hnat,hc1,hc2,hat⟩:=hv.open_;clear hv hat;unfold ndV;simp only [Tr.d,Tr.ks,List.length_nil] at hc1 hnat ⊢;have HVS:=Lib.hid hvs;obtain ⟨⟨An,cn,rfl,hn1,hn2,-⟩,⟨Ax,cx,rfl,hx1,hx2,-⟩⟩:=hvs;obtain ⟨W,hW⟩:=n_m ((w.alloc (.cells #[.int .i64 2,.bool neg,.slice A0 n0 c0,.string name,.int .i64 exp,.int .i64 rel,.bool truth,.bool all,.slice A 0 c] 29)).alloc (.cells #[.bool false,.slice none 0 0] 25));have hWx:Ext w W:=by rw [<- hW]; exact ((Ext.refl w).alloc _).alloc _
 have hWs:W.heap.size=w.heap.size+1+1:=by rw [<- hW]; simp
 have hbx:W.heap[w.heap.size]?=some (.cells #[.int .i64 2,.bool neg,.slice A0 n0 c0,.string name,.int .i64 exp,.int .i64 rel,.bool truth,.bool all,.slice A 0 c] 29):=by rw [<- hW,Below.heap_alloc _ _ _ (by simp)]; exact heap_alloc_new w _
 have hZ:zal W (w.heap.size+1):=by
  rw [<- hW];have:=xaj (w.alloc (.cells #[.int .i64 2,.bool neg,.slice A0 n0 c0,.string name,.int .i64 exp,.int .i64 rel,.bool truth,.bool all,.slice A 0 c] 29)) 25
  rwa [World.size_alloc] at this
 have HZ:=Lib.hid hZ;have HWX:=Lib.hid hWx;have b0:W.cell? ⟨w.heap.size,0,none⟩=some (.int .i64 2):=by simp [World.cell?,hbx]
 have b3:W.cell? ⟨w.heap.size,3,none⟩=some (.string name):=by simp [World.cell?,hbx]
 have HB3:=Lib.hid b3;have HL:=Lib.hid hL;clear hnat hWx hZ hbx hL;go_enter Tryz.func42,Tryz.ntmps42;go_wp2_with fail;clear hW b0 b3
 go_loopw [21] (fun iv wr=>∃ k:Nat,k<=ns.length/\iv=.int .i64 k/\Hid ((∀ j (hj:j < ns.length),j < k->ns[j] ≠ name)/\Ext W wr)) (fun iv _=>ns.length - (intOf iv).toNat)
 case atStart=>exact ⟨0,Nat.zero_le _,rfl,⟨fun j _ hj=>absurd hj (by omega),Ext.refl W⟩⟩
 case round =>
  obtain ⟨k,hk,rfl,⟨hno,hx⟩⟩:=hrel;have HNO:=Lib.hid hno;have HX:=Lib.hid hx;have b3:=(hx.cell (p:=⟨w.heap.size,3,none⟩) (by show w.heap.size < _; omega)).trans HB3.out;clear hno hx
  by_cases hlt:k < ns.length
  · obtain ⟨ad,x,rfl,hc,e2⟩:=SlR.get_ (HVS.out.ext (HWX.out.trans HX.out)).1 k hlt;subst e2;generalize hq:ns[k]=q at *;have HQ:=Lib.hid hq;have hqq:Ext wr wr.drew/\wr.drew.cell? (ad.add k)=some (.string q)/\wr.drew.cell? ⟨w.heap.size,3,none⟩=some (.string name):=⟨(Ext.refl wr).drew,hc,b3⟩;have HX2:=Lib.hid (HX.out.drew);clear hq
    by_cases hs:q=name
    · have hb:(q == name)=true:=(MapKept.bytes_beq q name).2 hs;have hb2:(q.toList == name.toList)=true:=by rw [hs]; simp
      have HIG:Hid (uh ns xs name=xs.getD k 0):=by
       have:uh ns xs name=xs.getD k 0:=qbl ns xs name k hlt HNO.out (by rw [HQ.out]; exact hs);exact this
      obtain ⟨A',c',e',-,-,h3⟩:=(HVS.out.ext (HWX.out.trans HX2.out)).2;injection e' with e1 e2 e3
      obtain ⟨ad',B,m,d,e4,hb4,a0,a1,hn⟩:=h3 k (by omega);obtain rfl:Ax=some ad':=e1.trans e4;have hgd:xs.getD k 0=xs[k]'(by omega):=by rw [List.getD_eq_getElem?_getD,List.getElem?_eq_getElem (by omega)]; rfl
      have hkx:(k:Int) < xs.length:=by omega
      have hk0:(0:Int)<=(k:Int):=by omega
      have hr:jg wr.drew (.agg #[.bool (decide (xs[k]'(by omega) < 0)),.slice B m d]) (xs[k]'(by omega)) L:=(show vae wr.drew _ (xs[k]'(by omega)) from ⟨_,rfl,hn⟩).raw.mono (HL.out _ (List.getElem_mem _));have hz8:=HZ.out.ext HX2.out (by omega);rw [<- hgd] at hr a0;rw [<- HIG.out] at hr a0;have HF:=Lib.hid (gam (g:=w.heap.size+1) (HWX.out.trans HX2.out) (by omega) hz8 hr);generalize uh ns xs name=zk at *;obtain ⟨⟨r0,r1⟩,g0,g1⟩:=hz8;have r0':wr.cell? ⟨w.heap.size+1,0,none⟩=some (.bool false):=r0;have r1':wr.cell? ⟨w.heap.size+1,1,none⟩=some (.slice none 0 0):=r1;have g0':wr.frozen? ⟨w.heap.size+1,0,none⟩=false:=g0;have g1':wr.frozen? ⟨w.heap.size+1,1,none⟩=false:=g1;clear hr h3 e1 e2 e3 e4 hgd hn HQ HIG HL HNO hc b3 hs r0 r1 g0 g1;go_upto_region 8 with fail
      go_region_held3 (fun W2 => Ext wr W2 /\ W2.cell? (ad.add k) = some (.string q) /\ W2.cell? ⟨w.heap.size, 3, none⟩ = some (.string name))
       (first | with_reducible exact hqq)
       (fail)
      all_goals
       clear hqq;go_wp2_with fail;exact bodyPost_ret (v:=.agg #[.bool (decide (zk < 0)),.slice B m d]) (by simp [results,Tryz.results42,go_sem,r0',r1']) rfl HF.out
    · have hb:(q == name)=false:=by rw [Bool.eq_false_iff]; exact fun e=>hs ((MapKept.bytes_beq q name).1 e)
      have hb2:(q.toList == name.toList)=false:=by rw [<- beq_toListBytes]; exact hb
      have HN:Hid (∀ j (hj:j < ns.length),j < k+1->ns[j] ≠ name):=by
       intro j hj hjk
       by_cases hjk':j < k
       · exact HNO.out j hj hjk'
       · obtain rfl:j=k:=by omega
         rw [HQ.out]; exact hs
      clear hc b3 HQ;go_upto_region 8 with fail
      go_region_held3 (fun W2 => Ext wr W2 /\ W2.cell? (ad.add k) = some (.string q) /\ W2.cell? ⟨w.heap.size, 3, none⟩ = some (.string name))
       (first | with_reducible exact hqq)
       (fail)
      all_goals
       clear hqq;go_wp2_with fail
       go_roundw
       case rel=>exact ⟨k+1,by omega,by go_num,⟨HN.out,HX2.out⟩⟩
       case measure=>simp [intOf]; omega
  · have HIG:Hid (uh ns xs name=0):=by
     have hke:k=ns.length:=by omega
     have:uh ns xs name=0:=ubs ns xs name (fun j hj=>HNO.out j hj (by omega));exact this
    have hz8:=HZ.out.ext HX.out (by omega);have hr:jg wr (.agg #[.bool false,.slice none 0 0]) (uh ns xs name) L:=by rw [HIG.out]; exact ⟨false,_,[],rfl,ja.nil _,rfl,Nat.zero_le _⟩
    have HF:=Lib.hid (gam (g:=w.heap.size+1) (HWX.out.trans HX.out) (by omega) hz8 hr);obtain ⟨⟨r0,r1⟩,g0,g1⟩:=hz8;clear hr HIG HL HNO;go_wp2_with fail;exact bodyPost_ret (v:=.agg #[.bool false,.slice none 0 0]) (by simp [results,Tryz.results42,go_sem,r0,r1]) rfl HF.out
theorem gcu {a:Tm} (hL:1<=L) (hbt:(Tm.neg a).bt L<=1000000000000) (iha:wai L p sn sx ns xs a):wai L p sn sx ns xs (.neg a):=by
 intro t v w h hv hvs;have IHA:=Lib.hid iha;have hb1:=a.bt_pos L hL;have hbt2:a.bt L<=1000000000000:=by simp only [Tm.bt] at hbt; omega
 clear iha hbt;obtain ⟨⟨kind,neg,ds,name,exp,rel,truth,all⟩,ks⟩:=t;obtain ⟨hkind,t0,hks,h0⟩:=h;simp only [Tr.d] at hkind;simp only [Tr.ks] at hks;subst hkind hks;have H0:=Lib.hid h0;clear h0;obtain ⟨A0,n0,c0,A,c,rfl,hnat,hc1,hc2,hat⟩:=hv.open_
 change ug w p [t0] A 0 at hat
 clear hv hnat;unfold ndV;simp only [Tr.d,Tr.ks,List.length_cons,List.length_nil,Nat.zero_add,Nat.reduceAdd] at hc1 ⊢;have HVS:=Lib.hid hvs;obtain ⟨⟨An,cn,rfl,hn1,hn2,-⟩,⟨Ax,cx,rfl,hx1,hx2,-⟩⟩:=hvs;obtain ⟨W,hW⟩:=n_m ((w.alloc (.cells #[.int .i64 6,.bool neg,.slice A0 n0 c0,.string name,.int .i64 exp,.int .i64 rel,.bool truth,.bool all,.slice A 1 c] 29)).alloc (.cells #[.bool false,.slice none 0 0] 25));have hWx:Ext w W:=by rw [<- hW]; exact ((Ext.refl w).alloc _).alloc _
 have hWs:W.heap.size=w.heap.size+1+1:=by rw [<- hW]; simp
 have hbx:W.heap[w.heap.size]?=some (.cells #[.int .i64 6,.bool neg,.slice A0 n0 c0,.string name,.int .i64 exp,.int .i64 rel,.bool truth,.bool all,.slice A 1 c] 29):=by rw [<- hW,Below.heap_alloc _ _ _ (by simp)]; exact heap_alloc_new w _
 have hZ:zal W (w.heap.size+1):=by
  rw [<- hW];have:=xaj (w.alloc (.cells #[.int .i64 6,.bool neg,.slice A0 n0 c0,.string name,.int .i64 exp,.int .i64 rel,.bool truth,.bool all,.slice A 1 c] 29)) 25
  rwa [World.size_alloc] at this
 have HBX:=Lib.hid hbx;have HZ:=Lib.hid hZ;have HWX:=Lib.hid hWx;have HAT:=Lib.hid hat;obtain ⟨ad,B0,m0,d0,B1,m1,d1,hA,hadb,⟨e0,e1,e2,e3,e4,e5,e6,e7,e8⟩,hkt⟩:=(hat.ext hWx).kid0 (by simp);subst hA;have HK0:=Lib.hid hkt;simp only [List.getElem_cons_zero] at e0 e1 e3 e4 e5 e6 e7;have b0:W.cell? ⟨w.heap.size,0,none⟩=some (.int .i64 6):=by simp [World.cell?,hbx]
 have b4:W.cell? ⟨w.heap.size,4,none⟩=some (.int .i64 exp):=by simp [World.cell?,hbx]
 have b8:W.cell? ⟨w.heap.size,8,none⟩=some (.slice (some ad) 1 c):=by simp [World.cell?,hbx]
 clear hkt hat hWx hZ hbx;go_enter Tryz.func42,Tryz.ntmps42;go_wp2_with fail;clear hW;refine (IHA.out t0 _ _ H0.out HK0.out (HVS.out.ext HWX.out)).mono ?_;rintro e v1 ⟨z1,rfl,r1,x1⟩;obtain ⟨b1,A1,n1,c1,rfl⟩:=r1.unpack;clear b0 b4 b8 e0 e1 e2 e3 e4 e5 e6 e7 e8;obtain ⟨W5,hW5⟩:=n_m (v1.alloc (.cells #[.bool b1,.slice A1 n1 c1] 25));have x5:Ext v1 W5:=by rw [<- hW5]; exact (Ext.refl v1).alloc _
 have hq5:W5.heap[v1.heap.size]?=some (.cells #[.bool b1,.slice A1 n1 c1] 25 (0,0)):=by rw [<- hW5]; exact heap_alloc_new v1 _
 have hs1:=x1.size;have hs5:W5.heap.size=v1.heap.size+1:=by rw [<- hW5]; simp
 have hbx:=((x1.trans x5).below.block _ (by omega)).trans HBX.out;have b0:W5.cell? ⟨w.heap.size,0,none⟩=some (.int .i64 6):=by simp [World.cell?,hbx]
 have b4:W5.cell? ⟨w.heap.size,4,none⟩=some (.int .i64 exp):=by simp [World.cell?,hbx]
 have b8:W5.cell? ⟨w.heap.size,8,none⟩=some (.slice (some ad) 1 c):=by simp [World.cell?,hbx]
 have R1:=Lib.hid (r1.ext x5);have X5:=Lib.hid (HWX.out.trans (x1.trans x5));have Z5:=Lib.hid (HZ.out.ext (x1.trans x5) (by omega));have f10:W5.cell? ⟨v1.heap.size,0,none⟩=some (.bool b1):=by simp [World.cell?,hq5]
 have f11:W5.cell? ⟨v1.heap.size,1,none⟩=some (.slice A1 n1 c1):=by simp [World.cell?,hq5]
 clear r1 x1 x5 hq5 hbx;go_wp2_with fail;clear hW5;refine (vcp _ _ _ _ R1.out (by omega)).mono ?_;rintro e v8 ⟨z8,rfl,m8,x8⟩;have r8:=m8.raw;obtain ⟨b8',A8,n8,c8,rfl⟩:=m8.unpack;have hz8:=Z5.out.ext x8 (by omega);have hlen:(dg (-a.ival (uh ns xs)).natAbs).length<=(Tm.neg a).bt L:=by
  rw [Int.natAbs_neg];exact R1.out.len
 have HF:=Lib.hid (gam (g:=w.heap.size+1) (X5.out.trans x8) (by omega) hz8 (r8.mono hlen));obtain ⟨⟨r0,r1⟩,g0,g1⟩:=hz8;clear r8 m8 x8 b0 b4 b8 hlen f10 f11;go_wp2_with fail;exact bodyPost_ret (v:=.agg #[.bool b8',.slice A8 n8 c8]) (by simp [results,Tryz.results42,go_sem,r0,r1]) rfl HF.out
def yaj (w:World) (gb:Nat) (z:Int) (M:Nat):Prop:=∃ bb A n c,w.heap[gb]?=some (.cells #[.bool bb,.slice A n c] 25 (0,0))/\jg w (.agg #[.bool bb,.slice A n c]) z M
theorem yaj.ext {w w':World} {gb M:Nat} {z:Int} (h:yaj w gb z M) (hx:Ext w w'):yaj w' gb z M:=by
 obtain ⟨bb,A,n,c,h1,h2⟩:=h;exact ⟨bb,A,n,c,(hx.below.block _ (Array.getElem?_eq_some_iff.1 h1).1).trans h1,h2.ext hx⟩
theorem yaj.put {w:World} {gb M M':Nat} {z z':Int} {bb:Bool} {A:Option Addr} {n c:Nat} (h:yaj w gb z M) (k:jg w (.agg #[.bool bb,.slice A n c]) z' M') :
 yaj ((w.setCell ⟨gb,0,none⟩ (.bool bb)).setCell ⟨gb,1,none⟩ (.slice A n c)) gb z' M'/\(∀ {x z M},jg w x z M->jg ((w.setCell ⟨gb,0,none⟩ (.bool bb)).setCell ⟨gb,1,none⟩ (.slice A n c)) x z M):=by
 obtain ⟨b',B,m,d,h1,h2⟩:=h;have c0:w.cell? ⟨gb,0,none⟩=some (.bool b'):=by simp [World.cell?,h1]
 have c1':(w.setCell ⟨gb,0,none⟩ (.bool bb)).cell? ⟨gb,1,none⟩=some (.slice B m d):=by
  rw [World.cell?_setCell_other _ _ _ _ (by simp)]; simp [World.cell?,h1]
 have key:∀ {x z M},jg w x z M->jg ((w.setCell ⟨gb,0,none⟩ (.bool bb)).setCell ⟨gb,1,none⟩ (.slice A n c)) x z M:=fun {x z M} h=>(h.box c0 rfl _).box c1' rfl _
 exact ⟨⟨bb,A,n,c,by simp [World.setCell,Array.getElem?_modify,h1],key k⟩,fun h=>key h⟩
theorem yaj.far {w:World} {gb gp M:Nat} {z:Int} (h:yaj w gb z M) (hne:gb ≠ gp) {u0 u1:Value} (hk:∀ {x z M},jg w x z M->jg ((w.setCell ⟨gp,0,none⟩ u0).setCell ⟨gp,1,none⟩ u1) x z M):yaj ((w.setCell ⟨gp,0,none⟩ u0).setCell ⟨gp,1,none⟩ u1) gb z M:=by
 obtain ⟨b',B,m,d,h1,h2⟩:=h;refine ⟨b',B,m,d,?_,hk h2⟩;rw [Below.heap_setCell _ _ _ _ hne,Below.heap_setCell _ _ _ _ hne];exact h1
def xb0 (w:World) (gr gp gb:Nat) (z:Int) (M B k:Nat) (wr:World):Prop:=Ext w wr/\zal wr gr/\gr < wr.heap.size/\yaj wr gp (z ^ k) (max k 1 * B)/\yaj wr gb z M
theorem vcu {a:Tm} {n:Int} (hL:1<=L) (hbt:(Tm.pow a n).bt L<=1000000000000) (iha:wai L p sn sx ns xs a):wai L p sn sx ns xs (.pow a n):=by
 intro t v w h hv hvs;have IHA:=Lib.hid iha;have hb1:=a.bt_pos L hL;obtain ⟨⟨kind,neg,ds,name,exp,rel,truth,all⟩,ks⟩:=t;obtain ⟨hkind,hexp,hn0,t0,hks,h0⟩:=h;simp only [Tr.d] at hkind hexp;simp only [Tr.ks] at hks;subst hkind hks hexp;have H0:=Lib.hid h0;obtain ⟨N,hN⟩:∃ N:Nat,exp=N:=⟨exp.toNat,by omega⟩;subst hN;have hMB:max N 1 * a.bt L<=1000000000000:=by
  simp only [Tm.bt,Int.toNat_natCast] at hbt;exact hbt
 have hNB:max N 1<=max N 1 * a.bt L:=Nat.le_mul_of_pos_right _ hb1;have hbt2:a.bt L<=max N 1 * a.bt L:=Nat.le_mul_of_pos_left _ (by omega);have hbe:(Tm.pow a N).bt L=max N 1 * a.bt L:=by simp only [Tm.bt,Int.toNat_natCast]
 have hmid:∀ k,k < N->max k 1 * a.bt L<=max N 1 * a.bt L:=fun k hk=>Nat.mul_le_mul_right _ (by omega)
 have HMID:=Lib.hid hmid;have hvv:(Tm.pow a N).ival (uh ns xs)=a.ival (uh ns xs) ^ N:=by simp [Tm.ival]
 rw [hvv,hbe];clear hvv hbe hmid h0 iha hbt hn0;have hnx:=Lib.hid (rfl:max N 1 * a.bt L=max N 1 * a.bt L);obtain ⟨A0,n0,c0,A,c,rfl,hnat,hc1,hc2,hat⟩:=hv.open_
 change ug w p [t0] A 0 at hat
 clear hv hnat;unfold ndV;simp only [Tr.d,Tr.ks,List.length_cons,List.length_nil,Nat.zero_add,Nat.reduceAdd] at hc1 ⊢;have HVS:=Lib.hid hvs;obtain ⟨⟨An,cn,rfl,hn1,hn2,-⟩,⟨Ax,cx,rfl,hx1,hx2,-⟩⟩:=hvs;obtain ⟨W,hW⟩:=n_m ((w.alloc (.cells #[.int .i64 7,.bool neg,.slice A0 n0 c0,.string name,.int .i64 (N:Int),.int .i64 rel,.bool truth,.bool all,.slice A 1 c] 29)).alloc (.cells #[.bool false,.slice none 0 0] 25));have hWx:Ext w W:=by rw [<- hW]; exact ((Ext.refl w).alloc _).alloc _
 have hWs:W.heap.size=w.heap.size+1+1:=by rw [<- hW]; simp
 have hbx:W.heap[w.heap.size]?=some (.cells #[.int .i64 7,.bool neg,.slice A0 n0 c0,.string name,.int .i64 (N:Int),.int .i64 rel,.bool truth,.bool all,.slice A 1 c] 29):=by rw [<- hW,Below.heap_alloc _ _ _ (by simp)]; exact heap_alloc_new w _
 have hZ:zal W (w.heap.size+1):=by
  rw [<- hW];have:=xaj (w.alloc (.cells #[.int .i64 7,.bool neg,.slice A0 n0 c0,.string name,.int .i64 (N:Int),.int .i64 rel,.bool truth,.bool all,.slice A 1 c] 29)) 25
  rwa [World.size_alloc] at this
 have HBX:=Lib.hid hbx;have HZ:=Lib.hid hZ;have HWX:=Lib.hid hWx;have HAT:=Lib.hid hat;obtain ⟨ad,B0,m0,d0,B1,m1,d1,hA,hadb,⟨e0,e1,e2,e3,e4,e5,e6,e7,e8⟩,hkt⟩:=(hat.ext hWx).kid0 (by simp);subst hA;have HK0:=Lib.hid hkt;simp only [List.getElem_cons_zero] at e0 e1 e3 e4 e5 e6 e7;have b0:W.cell? ⟨w.heap.size,0,none⟩=some (.int .i64 7):=by simp [World.cell?,hbx]
 have b4:W.cell? ⟨w.heap.size,4,none⟩=some (.int .i64 (N:Int)):=by simp [World.cell?,hbx]
 have b8:W.cell? ⟨w.heap.size,8,none⟩=some (.slice (some ad) 1 c):=by simp [World.cell?,hbx]
 clear hkt hat hWx hZ hbx;go_enter Tryz.func42,Tryz.ntmps42;go_wp2_with fail;clear hW;refine (IHA.out t0 _ _ H0.out HK0.out (HVS.out.ext HWX.out)).mono ?_;rintro e v1 ⟨z1,rfl,r1,x1⟩;obtain ⟨b1,A1,n1,c1,rfl⟩:=r1.unpack;clear b0 b4 b8 e0 e1 e2 e3 e4 e5 e6 e7 e8;obtain ⟨W5,hW5⟩:=n_m (v1.alloc (.cells #[.bool b1,.slice A1 n1 c1] 25));have x5:Ext v1 W5:=by rw [<- hW5]; exact (Ext.refl v1).alloc _
 have hq5:W5.heap[v1.heap.size]?=some (.cells #[.bool b1,.slice A1 n1 c1] 25 (0,0)):=by rw [<- hW5]; exact heap_alloc_new v1 _
 have hs1:=x1.size;have hs5:W5.heap.size=v1.heap.size+1:=by rw [<- hW5]; simp
 have hbx:=((x1.trans x5).below.block _ (by omega)).trans HBX.out;have b0:W5.cell? ⟨w.heap.size,0,none⟩=some (.int .i64 7):=by simp [World.cell?,hbx]
 have b4:W5.cell? ⟨w.heap.size,4,none⟩=some (.int .i64 (N:Int)):=by simp [World.cell?,hbx]
 have b8:W5.cell? ⟨w.heap.size,8,none⟩=some (.slice (some ad) 1 c):=by simp [World.cell?,hbx]
 have R1:=Lib.hid (r1.ext x5);have X5:=Lib.hid (HWX.out.trans (x1.trans x5));have Z5:=Lib.hid (HZ.out.ext (x1.trans x5) (by omega));have HB5:=Lib.hid hbx;have HR1:Hid (yaj W5 v1.heap.size (a.ival (uh ns xs)) (a.bt L)):=⟨b1,A1,n1,c1,hq5,R1.out⟩;have HAL:=Lib.hid R1.out.len;clear r1 x1 x5 hbx hq5;go_wp2_with fail;clear hW5 b0 b4 b8;refine (of_int 1 _ (by omega) (by omega)).mono ?_;rintro e w3 ⟨z3,rfl,m3,x3⟩;obtain ⟨b3,A3,n3,c3,rfl⟩:=m3.unpack;have m3l:jg w3 (.agg #[.bool b3,.slice A3 n3 c3]) 1 (max 0 1 * a.bt L):=m3.raw.mono (by
  have:(dg (1:Int).natAbs).length<=1:=by show (dg 1).length<=1; rw [jay]; exact Nat.le_refl _
  simp only [Nat.zero_le,Nat.max_eq_right,Nat.one_mul]; omega)
 obtain ⟨W4,hW4⟩:=n_m (w3.alloc (.cells #[.bool b3,.slice A3 n3 c3] 25));have x4:Ext w3 W4:=by rw [<- hW4]; exact (Ext.refl w3).alloc _
 have hs3:=x3.size;have hb4:=((x3.trans x4).below.block _ (by omega)).trans HB5.out;have b0:W4.cell? ⟨w.heap.size,0,none⟩=some (.int .i64 7):=by simp [World.cell?,hb4]
 have b4:W4.cell? ⟨w.heap.size,4,none⟩=some (.int .i64 N):=by simp [World.cell?,hb4]
 have b8:W4.cell? ⟨w.heap.size,8,none⟩=some (.slice (some ad) 1 c):=by simp [World.cell?,hb4]
 have hs4:w3.heap.size < W4.heap.size:=by rw [<- hW4]; simp
 have HINV:Hid (xb0 w (w.heap.size+1) w3.heap.size v1.heap.size (a.ival (uh ns xs)) (a.bt L) (a.bt L) 0 W4):=by
  have:xb0 w (w.heap.size+1) w3.heap.size v1.heap.size (a.ival (uh ns xs)) (a.bt L) (a.bt L) 0 W4:=by
   refine ⟨X5.out.trans (x3.trans x4),Z5.out.ext (x3.trans x4) (by omega),by omega,?_,HR1.out.ext (x3.trans x4)⟩;rw [Int.pow_zero];exact ⟨b3,A3,n3,c3,by rw [<- hW4]; exact heap_alloc_new w3 _,m3l.ext x4⟩
  exact this
 clear hb4 m3 m3l x3 x4 HR1 R1 X5 Z5 HZ HBX HAT HK0 HVS IHA H0;go_wp2_with fail;clear hW4 b0 b4 b8
 go_loopw [55] (fun iv wr=>∃ k:Nat,k<=N/\iv=.int .i64 k/\Hid (xb0 w (w.heap.size+1) w3.heap.size v1.heap.size (a.ival (uh ns xs)) (a.bt L) (a.bt L) k wr)) (fun iv _=>N - (intOf iv).toNat)
 case atStart=>exact ⟨0,Nat.zero_le _,rfl,HINV⟩
 case round =>
  clear HINV;obtain ⟨k,hk,rfl,⟨hxw,hz,hgr,⟨p1,P1,pn,pc,hp,mp⟩,⟨q1,Q1,qn,qc,hq,mq⟩⟩⟩:=hrel;have g0:wr.cell? ⟨w3.heap.size,0,none⟩=some (.bool p1):=by simp [World.cell?,hp]
  have g1:wr.cell? ⟨w3.heap.size,1,none⟩=some (.slice P1 pn pc):=by simp [World.cell?,hp]
  by_cases hlt:k < N
  · have j0:wr.cell? ⟨v1.heap.size,0,none⟩=some (.bool q1):=by simp [World.cell?,hq]
    have j1:wr.cell? ⟨v1.heap.size,1,none⟩=some (.slice Q1 qn qc):=by simp [World.cell?,hq]
    have HP:=Lib.hid (show yaj wr w3.heap.size (a.ival (uh ns xs) ^ k) _ from ⟨p1,P1,pn,pc,hp,mp⟩);have HQ:=Lib.hid (show yaj wr v1.heap.size (a.ival (uh ns xs)) _ from ⟨q1,Q1,qn,qc,hq,mq⟩);have MP:=Lib.hid mp;have MQ:=Lib.hid mq;have HXW:=Lib.hid hxw;have HZ:=Lib.hid hz;have hpl:=HMID.out k hlt;have HPL:Hid (max k 1 * a.bt L+a.bt L<=35184372088000):=by
     have:max k 1 * a.bt L+a.bt L<=35184372088000:=by omega
     exact this
    clear hp hq mp mq hxw hz hpl;go_wp2_with fail;refine (kam _ _ (a.ival (uh ns xs) ^ k) (a.ival (uh ns xs)) _ _ _ MP.out MQ.out HPL.out).mono ?_;rintro e w5 ⟨z5,rfl,m5,x5⟩;obtain ⟨b5,A5,n5,c5,rfl⟩:=m5.unpack;have hP5:=HP.out.ext x5;have hQ5:=HQ.out.ext x5;have hlm:(dg (a.ival (uh ns xs) ^ k * a.ival (uh ns xs)).natAbs).length<=max (k+1) 1 * a.bt L:=by
     have:=xci (k+1) HAL.out hb1
     rwa [Int.pow_succ] at this
    obtain ⟨hP6,hkp⟩:=hP5.put (m5.raw.mono hlm);have hQ6:=hQ5.far (gp:=w3.heap.size) (by omega) hkp;obtain ⟨p1',P1',pn',pc',hp',-⟩:=hP5;have g0:w5.cell? ⟨w3.heap.size,0,none⟩=some (.bool p1'):=by simp [World.cell?,hp']
    have g1:w5.cell? ⟨w3.heap.size,1,none⟩=some (.slice P1' pn' pc'):=by simp [World.cell?,hp']
    have gf0:w5.frozen? ⟨w3.heap.size,0,none⟩=false:=by simp [World.frozen?,hp']
    have gf1:w5.frozen? ⟨w3.heap.size,1,none⟩=false:=by simp [World.frozen?,hp']
    have HN:Hid (xb0 w (w.heap.size+1) w3.heap.size v1.heap.size (a.ival (uh ns xs)) (a.bt L) (a.bt L) (k+1) ((w5.setCell ⟨w3.heap.size,0,none⟩ (.bool b5)).setCell ⟨w3.heap.size,1,none⟩ (.slice A5 n5 c5))):=by
     have hz5:=HZ.out.ext x5 hgr;have hsz5:=x5.size;have hlw:w.heap.size<=w3.heap.size:=by omega
     refine ⟨((HXW.out.trans x5).setCell hlw _).setCell hlw _,?_,by simp; omega,by rw [Int.pow_succ]; exact hP6,hQ6⟩;have hne:w.heap.size+1 ≠ w3.heap.size:=by omega
     have hblk:(((w5.setCell ⟨w3.heap.size,0,none⟩ (.bool b5)).setCell ⟨w3.heap.size,1,none⟩ (.slice A5 n5 c5))).heap[w.heap.size+1]?=w5.heap[w.heap.size+1]?:=by
      rw [Below.heap_setCell _ _ _ _ hne,Below.heap_setCell _ _ _ _ hne]
     obtain ⟨⟨r0,r1⟩,f0,f1⟩:=hz5;exact ⟨⟨(World.cell?_of_block (a:=⟨w.heap.size+1,0,none⟩) hblk).trans r0,(World.cell?_of_block (a:=⟨w.heap.size+1,1,none⟩) hblk).trans r1⟩,(World.frozen?_of_block (a:=⟨w.heap.size+1,0,none⟩) hblk).trans f0,(World.frozen?_of_block (a:=⟨w.heap.size+1,1,none⟩) hblk).trans f1⟩
    clear m5 x5 hP6 hkp hQ5 hQ6 hp' HP HQ MP MQ HXW HZ j0 j1 hlm;go_wp2_with fail
    go_roundw
    case rel=>exact ⟨k+1,by omega,by go_num,HN⟩
    case measure=>simp [intOf]; omega
  · have hke:k=N:=by omega
    rw [hke] at mp;have HF:=Lib.hid (gam (g:=w.heap.size+1) hxw (by omega) hz mp);obtain ⟨⟨r0,r1⟩,f0,f1⟩:=hz;clear hke hp hq mp mq hxw;go_wp2_with fail;exact bodyPost_ret (v:=.agg #[.bool p1,.slice P1 pn pc]) (by simp [results,Tryz.results42,go_sem,r0,r1]) rfl HF.out
theorem zcv {a b:Tm} (hL:1<=L) (hbt:(Tm.add a b).bt L<=1000000000000) (iha:wai L p sn sx ns xs a) (ihb:wai L p sn sx ns xs b):wai L p sn sx ns xs (.add a b):=by
 intro t v w h hv hvs;have IHA:=Lib.hid iha;have IHB:=Lib.hid ihb;have hb1:=a.bt_pos L hL;have hb2:=b.bt_pos L hL;have hbt2:a.bt L+b.bt L<=1000000000000:=by simp only [Tm.bt] at hbt; omega
 clear iha ihb hbt;obtain ⟨⟨kind,neg,ds,name,exp,rel,truth,all⟩,ks⟩:=t;obtain ⟨hkind,t0,t1,hks,h0,h1⟩:=h;simp only [Tr.d] at hkind;simp only [Tr.ks] at hks;subst hkind hks;have H0:=Lib.hid h0;have H1:=Lib.hid h1;clear h0 h1;obtain ⟨A0,n0,c0,A,c,rfl,hnat,hc1,hc2,hat⟩:=hv.open_
 change ug w p [t0,t1] A 0 at hat
 clear hv hnat;unfold ndV;simp only [Tr.d,Tr.ks,List.length_cons,List.length_nil,Nat.zero_add,Nat.reduceAdd] at hc1 ⊢;have HVS:=Lib.hid hvs;obtain ⟨⟨An,cn,rfl,hn1,hn2,-⟩,⟨Ax,cx,rfl,hx1,hx2,-⟩⟩:=hvs;obtain ⟨W,hW⟩:=n_m ((w.alloc (.cells #[.int .i64 3,.bool neg,.slice A0 n0 c0,.string name,.int .i64 exp,.int .i64 rel,.bool truth,.bool all,.slice A 2 c] 29)).alloc (.cells #[.bool false,.slice none 0 0] 25));have hWx:Ext w W:=by rw [<- hW]; exact ((Ext.refl w).alloc _).alloc _
 have hWs:W.heap.size=w.heap.size+1+1:=by rw [<- hW]; simp
 have hbx:W.heap[w.heap.size]?=some (.cells #[.int .i64 3,.bool neg,.slice A0 n0 c0,.string name,.int .i64 exp,.int .i64 rel,.bool truth,.bool all,.slice A 2 c] 29):=by rw [<- hW,Below.heap_alloc _ _ _ (by simp)]; exact heap_alloc_new w _
 have hZ:zal W (w.heap.size+1):=by
  rw [<- hW];have:=xaj (w.alloc (.cells #[.int .i64 3,.bool neg,.slice A0 n0 c0,.string name,.int .i64 exp,.int .i64 rel,.bool truth,.bool all,.slice A 2 c] 29)) 25
  rwa [World.size_alloc] at this
 have HBX:=Lib.hid hbx;have HZ:=Lib.hid hZ;have HWX:=Lib.hid hWx;have HAT:=Lib.hid hat;obtain ⟨ad,B0,m0,d0,B1,m1,d1,hA,hadb,⟨e0,e1,e2,e3,e4,e5,e6,e7,e8⟩,hkt⟩:=(hat.ext hWx).kid0 (by simp);subst hA;have HK0:=Lib.hid hkt;simp only [List.getElem_cons_zero] at e0 e1 e3 e4 e5 e6 e7;have b0:W.cell? ⟨w.heap.size,0,none⟩=some (.int .i64 3):=by simp [World.cell?,hbx]
 have b4:W.cell? ⟨w.heap.size,4,none⟩=some (.int .i64 exp):=by simp [World.cell?,hbx]
 have b8:W.cell? ⟨w.heap.size,8,none⟩=some (.slice (some ad) 2 c):=by simp [World.cell?,hbx]
 clear hkt hat hWx hZ hbx;go_enter Tryz.func42,Tryz.ntmps42;go_wp2_with fail;clear hW;refine (IHA.out t0 _ _ H0.out HK0.out (HVS.out.ext HWX.out)).mono ?_;rintro e v1 ⟨z1,rfl,r1,x1⟩;obtain ⟨b1,A1,n1,c1,rfl⟩:=r1.unpack;clear b0 b4 b8 e0 e1 e2 e3 e4 e5 e6 e7 e8;obtain ⟨W5,hW5⟩:=n_m (v1.alloc (.cells #[.bool b1,.slice A1 n1 c1] 25));have x5:Ext v1 W5:=by rw [<- hW5]; exact (Ext.refl v1).alloc _
 have hq5:W5.heap[v1.heap.size]?=some (.cells #[.bool b1,.slice A1 n1 c1] 25 (0,0)):=by rw [<- hW5]; exact heap_alloc_new v1 _
 have hs1:=x1.size;have hs5:W5.heap.size=v1.heap.size+1:=by rw [<- hW5]; simp
 have hbx:=((x1.trans x5).below.block _ (by omega)).trans HBX.out;have b0:W5.cell? ⟨w.heap.size,0,none⟩=some (.int .i64 3):=by simp [World.cell?,hbx]
 have b4:W5.cell? ⟨w.heap.size,4,none⟩=some (.int .i64 exp):=by simp [World.cell?,hbx]
 have b8:W5.cell? ⟨w.heap.size,8,none⟩=some (.slice (some ad) 2 c):=by simp [World.cell?,hbx]
 obtain ⟨ad',C0,p0,q0,C1,p1,q1,hA,-,hnd,hkt⟩:=(HAT.out.ext (HWX.out.trans (x1.trans x5))).kid 1 (by simp);injection hA with hA
 subst hA;obtain ⟨e0,e1,e2,e3,e4,e5,e6,e7,e8⟩:=hnd.nine;simp only [List.getElem_cons_succ,List.getElem_cons_zero] at e0 e1 e3 e4 e5 e6 e7;have HK1:=Lib.hid hkt;have R1:=Lib.hid (r1.ext x5);have X5:=Lib.hid (x1.trans x5);have HQ5:=Lib.hid hq5;have HB5:=Lib.hid hbx;clear r1 x1 x5 hnd hkt hbx hq5;go_wp2_with fail;clear hW5 b0 b4 b8 e0 e1 e2 e3 e4 e5 e6 e7 e8;refine (IHB.out t1 _ _ H1.out HK1.out (HVS.out.ext (HWX.out.trans X5.out))).mono ?_;rintro e v2 ⟨z2,rfl,r2,x2⟩;obtain ⟨b2,A2,n2,c2,rfl⟩:=r2.unpack;obtain ⟨W7,hW7⟩:=n_m (v2.alloc (.cells #[.bool b2,.slice A2 n2 c2] 25));have x7:Ext v2 W7:=by rw [<- hW7]; exact (Ext.refl v2).alloc _
 have hq7:W7.heap[v2.heap.size]?=some (.cells #[.bool b2,.slice A2 n2 c2] 25 (0,0)):=by rw [<- hW7]; exact heap_alloc_new v2 _
 have hs2:=x2.size;have hq5:=((x2.trans x7).below.block _ (by omega)).trans HQ5.out;have hbx:=((x2.trans x7).below.block _ (by omega)).trans HB5.out;have b0:W7.cell? ⟨w.heap.size,0,none⟩=some (.int .i64 3):=by simp [World.cell?,hbx]
 have b4:W7.cell? ⟨w.heap.size,4,none⟩=some (.int .i64 exp):=by simp [World.cell?,hbx]
 have b8:W7.cell? ⟨w.heap.size,8,none⟩=some (.slice (some ad) 2 c):=by simp [World.cell?,hbx]
 have f10:W7.cell? ⟨v1.heap.size,0,none⟩=some (.bool b1):=by simp [World.cell?,hq5]
 have f11:W7.cell? ⟨v1.heap.size,1,none⟩=some (.slice A1 n1 c1):=by simp [World.cell?,hq5]
 have f20:W7.cell? ⟨v2.heap.size,0,none⟩=some (.bool b2):=by simp [World.cell?,hq7]
 have f21:W7.cell? ⟨v2.heap.size,1,none⟩=some (.slice A2 n2 c2):=by simp [World.cell?,hq7]
 have R1':=Lib.hid (R1.out.ext (x2.trans x7));have R2:=Lib.hid (r2.ext x7);have X7:=Lib.hid (HWX.out.trans (X5.out.trans (x2.trans x7)));have Z7:=Lib.hid (HZ.out.ext (X5.out.trans (x2.trans x7)) (by omega));have hs7:=x7.size;clear r2 x2 x7 hq5 hq7 hbx R1;go_wp2_with fail;clear hW7;refine (ga2 _ _ _ _ _ _ _ R1'.out R2.out (by omega)).mono ?_;rintro e v8 ⟨z8,rfl,m8,x8⟩;have r8:=m8.raw;obtain ⟨b8',A8,n8,c8,rfl⟩:=m8.unpack;have hz8:=Z7.out.ext x8 (by omega);have hlen:(dg (a.ival (uh ns xs)+b.ival (uh ns xs)).natAbs).length<=(Tm.add a b).bt L:=jci R1'.out.len R2.out.len hb1 hb2;have HF:=Lib.hid (gam (g:=w.heap.size+1) (X7.out.trans x8) (by omega) hz8 (r8.mono hlen));obtain ⟨⟨r0,r1⟩,g0,g1⟩:=hz8;clear r8 m8 x8 b0 b4 b8 hlen f10 f11 f20 f21;go_wp2_with fail;exact bodyPost_ret (v:=.agg #[.bool b8',.slice A8 n8 c8]) (by simp [results,Tryz.results42,go_sem,r0,r1]) rfl HF.out
theorem kcu {a b:Tm} (hL:1<=L) (hbt:(Tm.sub a b).bt L<=1000000000000) (iha:wai L p sn sx ns xs a) (ihb:wai L p sn sx ns xs b):wai L p sn sx ns xs (.sub a b):=by
 intro t v w h hv hvs;have IHA:=Lib.hid iha;have IHB:=Lib.hid ihb;have hb1:=a.bt_pos L hL;have hb2:=b.bt_pos L hL;have hbt2:a.bt L+b.bt L<=1000000000000:=by simp only [Tm.bt] at hbt; omega
 clear iha ihb hbt;obtain ⟨⟨kind,neg,ds,name,exp,rel,truth,all⟩,ks⟩:=t;obtain ⟨hkind,t0,t1,hks,h0,h1⟩:=h;simp only [Tr.d] at hkind;simp only [Tr.ks] at hks;subst hkind hks;have H0:=Lib.hid h0;have H1:=Lib.hid h1;clear h0 h1;obtain ⟨A0,n0,c0,A,c,rfl,hnat,hc1,hc2,hat⟩:=hv.open_
 change ug w p [t0,t1] A 0 at hat
 clear hv hnat;unfold ndV;simp only [Tr.d,Tr.ks,List.length_cons,List.length_nil,Nat.zero_add,Nat.reduceAdd] at hc1 ⊢;have HVS:=Lib.hid hvs;obtain ⟨⟨An,cn,rfl,hn1,hn2,-⟩,⟨Ax,cx,rfl,hx1,hx2,-⟩⟩:=hvs;obtain ⟨W,hW⟩:=n_m ((w.alloc (.cells #[.int .i64 4,.bool neg,.slice A0 n0 c0,.string name,.int .i64 exp,.int .i64 rel,.bool truth,.bool all,.slice A 2 c] 29)).alloc (.cells #[.bool false,.slice none 0 0] 25));have hWx:Ext w W:=by rw [<- hW]; exact ((Ext.refl w).alloc _).alloc _
 have hWs:W.heap.size=w.heap.size+1+1:=by rw [<- hW]; simp
 have hbx:W.heap[w.heap.size]?=some (.cells #[.int .i64 4,.bool neg,.slice A0 n0 c0,.string name,.int .i64 exp,.int .i64 rel,.bool truth,.bool all,.slice A 2 c] 29):=by rw [<- hW,Below.heap_alloc _ _ _ (by simp)]; exact heap_alloc_new w _
 have hZ:zal W (w.heap.size+1):=by
  rw [<- hW];have:=xaj (w.alloc (.cells #[.int .i64 4,.bool neg,.slice A0 n0 c0,.string name,.int .i64 exp,.int .i64 rel,.bool truth,.bool all,.slice A 2 c] 29)) 25
  rwa [World.size_alloc] at this
 have HBX:=Lib.hid hbx;have HZ:=Lib.hid hZ;have HWX:=Lib.hid hWx;have HAT:=Lib.hid hat;obtain ⟨ad,B0,m0,d0,B1,m1,d1,hA,hadb,⟨e0,e1,e2,e3,e4,e5,e6,e7,e8⟩,hkt⟩:=(hat.ext hWx).kid0 (by simp);subst hA;have HK0:=Lib.hid hkt;simp only [List.getElem_cons_zero] at e0 e1 e3 e4 e5 e6 e7;have b0:W.cell? ⟨w.heap.size,0,none⟩=some (.int .i64 4):=by simp [World.cell?,hbx]
 have b4:W.cell? ⟨w.heap.size,4,none⟩=some (.int .i64 exp):=by simp [World.cell?,hbx]
 have b8:W.cell? ⟨w.heap.size,8,none⟩=some (.slice (some ad) 2 c):=by simp [World.cell?,hbx]
 clear hkt hat hWx hZ hbx;go_enter Tryz.func42,Tryz.ntmps42;go_wp2_with fail;clear hW;refine (IHA.out t0 _ _ H0.out HK0.out (HVS.out.ext HWX.out)).mono ?_;rintro e v1 ⟨z1,rfl,r1,x1⟩;obtain ⟨b1,A1,n1,c1,rfl⟩:=r1.unpack;clear b0 b4 b8 e0 e1 e2 e3 e4 e5 e6 e7 e8;obtain ⟨W5,hW5⟩:=n_m (v1.alloc (.cells #[.bool b1,.slice A1 n1 c1] 25));have x5:Ext v1 W5:=by rw [<- hW5]; exact (Ext.refl v1).alloc _
 have hq5:W5.heap[v1.heap.size]?=some (.cells #[.bool b1,.slice A1 n1 c1] 25 (0,0)):=by rw [<- hW5]; exact heap_alloc_new v1 _
 have hs1:=x1.size;have hs5:W5.heap.size=v1.heap.size+1:=by rw [<- hW5]; simp
 have hbx:=((x1.trans x5).below.block _ (by omega)).trans HBX.out;have b0:W5.cell? ⟨w.heap.size,0,none⟩=some (.int .i64 4):=by simp [World.cell?,hbx]
 have b4:W5.cell? ⟨w.heap.size,4,none⟩=some (.int .i64 exp):=by simp [World.cell?,hbx]
 have b8:W5.cell? ⟨w.heap.size,8,none⟩=some (.slice (some ad) 2 c):=by simp [World.cell?,hbx]
 obtain ⟨ad',C0,p0,q0,C1,p1,q1,hA,-,hnd,hkt⟩:=(HAT.out.ext (HWX.out.trans (x1.trans x5))).kid 1 (by simp);injection hA with hA
 subst hA;obtain ⟨e0,e1,e2,e3,e4,e5,e6,e7,e8⟩:=hnd.nine;simp only [List.getElem_cons_succ,List.getElem_cons_zero] at e0 e1 e3 e4 e5 e6 e7;have HK1:=Lib.hid hkt;have R1:=Lib.hid (r1.ext x5);have X5:=Lib.hid (x1.trans x5);have HQ5:=Lib.hid hq5;have HB5:=Lib.hid hbx;clear r1 x1 x5 hnd hkt hbx hq5;go_wp2_with fail;clear hW5 b0 b4 b8 e0 e1 e2 e3 e4 e5 e6 e7 e8;refine (IHB.out t1 _ _ H1.out HK1.out (HVS.out.ext (HWX.out.trans X5.out))).mono ?_;rintro e v2 ⟨z2,rfl,r2,x2⟩;obtain ⟨b2,A2,n2,c2,rfl⟩:=r2.unpack;obtain ⟨W7,hW7⟩:=n_m (v2.alloc (.cells #[.bool b2,.slice A2 n2 c2] 25));have x7:Ext v2 W7:=by rw [<- hW7]; exact (Ext.refl v2).alloc _
 have hq7:W7.heap[v2.heap.size]?=some (.cells #[.bool b2,.slice A2 n2 c2] 25 (0,0)):=by rw [<- hW7]; exact heap_alloc_new v2 _
 have hs2:=x2.size;have hq5:=((x2.trans x7).below.block _ (by omega)).trans HQ5.out;have hbx:=((x2.trans x7).below.block _ (by omega)).trans HB5.out;have b0:W7.cell? ⟨w.heap.size,0,none⟩=some (.int .i64 4):=by simp [World.cell?,hbx]
 have b4:W7.cell? ⟨w.heap.size,4,none⟩=some (.int .i64 exp):=by simp [World.cell?,hbx]
 have b8:W7.cell? ⟨w.heap.size,8,none⟩=some (.slice (some ad) 2 c):=by simp [World.cell?,hbx]
 have f10:W7.cell? ⟨v1.heap.size,0,none⟩=some (.bool b1):=by simp [World.cell?,hq5]
 have f11:W7.cell? ⟨v1.heap.size,1,none⟩=some (.slice A1 n1 c1):=by simp [World.cell?,hq5]
 have f20:W7.cell? ⟨v2.heap.size,0,none⟩=some (.bool b2):=by simp [World.cell?,hq7]
 have f21:W7.cell? ⟨v2.heap.size,1,none⟩=some (.slice A2 n2 c2):=by simp [World.cell?,hq7]
 have R1':=Lib.hid (R1.out.ext (x2.trans x7));have R2:=Lib.hid (r2.ext x7);have X7:=Lib.hid (HWX.out.trans (X5.out.trans (x2.trans x7)));have Z7:=Lib.hid (HZ.out.ext (X5.out.trans (x2.trans x7)) (by omega));have hs7:=x7.size;clear r2 x2 x7 hq5 hq7 hbx R1;go_wp2_with fail;clear hW7;refine (kcm _ _ _ _ _ _ _ R1'.out R2.out (by omega)).mono ?_;rintro e v8 ⟨z8,rfl,m8,x8⟩;have r8:=m8.raw;obtain ⟨b8',A8,n8,c8,rfl⟩:=m8.unpack;have hz8:=Z7.out.ext x8 (by omega);have hlen:(dg (a.ival (uh ns xs) - b.ival (uh ns xs)).natAbs).length<=(Tm.sub a b).bt L:=yci R1'.out.len R2.out.len hb1 hb2;have HF:=Lib.hid (gam (g:=w.heap.size+1) (X7.out.trans x8) (by omega) hz8 (r8.mono hlen));obtain ⟨⟨r0,r1⟩,g0,g1⟩:=hz8;clear r8 m8 x8 b0 b4 b8 hlen f10 f11 f20 f21;go_wp2_with fail;exact bodyPost_ret (v:=.agg #[.bool b8',.slice A8 n8 c8]) (by simp [results,Tryz.results42,go_sem,r0,r1]) rfl HF.out
theorem wcu {a b:Tm} (hL:1<=L) (hbt:(Tm.mul a b).bt L<=1000000000000) (iha:wai L p sn sx ns xs a) (ihb:wai L p sn sx ns xs b):wai L p sn sx ns xs (.mul a b):=by
 intro t v w h hv hvs;have IHA:=Lib.hid iha;have IHB:=Lib.hid ihb;have hb1:=a.bt_pos L hL;have hb2:=b.bt_pos L hL;have hbt2:a.bt L+b.bt L<=1000000000000:=by simp only [Tm.bt] at hbt; omega
 clear iha ihb hbt;obtain ⟨⟨kind,neg,ds,name,exp,rel,truth,all⟩,ks⟩:=t;obtain ⟨hkind,t0,t1,hks,h0,h1⟩:=h;simp only [Tr.d] at hkind;simp only [Tr.ks] at hks;subst hkind hks;have H0:=Lib.hid h0;have H1:=Lib.hid h1;clear h0 h1;obtain ⟨A0,n0,c0,A,c,rfl,hnat,hc1,hc2,hat⟩:=hv.open_
 change ug w p [t0,t1] A 0 at hat
 clear hv hnat;unfold ndV;simp only [Tr.d,Tr.ks,List.length_cons,List.length_nil,Nat.zero_add,Nat.reduceAdd] at hc1 ⊢;have HVS:=Lib.hid hvs;obtain ⟨⟨An,cn,rfl,hn1,hn2,-⟩,⟨Ax,cx,rfl,hx1,hx2,-⟩⟩:=hvs;obtain ⟨W,hW⟩:=n_m ((w.alloc (.cells #[.int .i64 5,.bool neg,.slice A0 n0 c0,.string name,.int .i64 exp,.int .i64 rel,.bool truth,.bool all,.slice A 2 c] 29)).alloc (.cells #[.bool false,.slice none 0 0] 25));have hWx:Ext w W:=by rw [<- hW]; exact ((Ext.refl w).alloc _).alloc _
 have hWs:W.heap.size=w.heap.size+1+1:=by rw [<- hW]; simp
 have hbx:W.heap[w.heap.size]?=some (.cells #[.int .i64 5,.bool neg,.slice A0 n0 c0,.string name,.int .i64 exp,.int .i64 rel,.bool truth,.bool all,.slice A 2 c] 29):=by rw [<- hW,Below.heap_alloc _ _ _ (by simp)]; exact heap_alloc_new w _
 have hZ:zal W (w.heap.size+1):=by
  rw [<- hW];have:=xaj (w.alloc (.cells #[.int .i64 5,.bool neg,.slice A0 n0 c0,.string name,.int .i64 exp,.int .i64 rel,.bool truth,.bool all,.slice A 2 c] 29)) 25
  rwa [World.size_alloc] at this
 have HBX:=Lib.hid hbx;have HZ:=Lib.hid hZ;have HWX:=Lib.hid hWx;have HAT:=Lib.hid hat;obtain ⟨ad,B0,m0,d0,B1,m1,d1,hA,hadb,⟨e0,e1,e2,e3,e4,e5,e6,e7,e8⟩,hkt⟩:=(hat.ext hWx).kid0 (by simp);subst hA;have HK0:=Lib.hid hkt;simp only [List.getElem_cons_zero] at e0 e1 e3 e4 e5 e6 e7;have b0:W.cell? ⟨w.heap.size,0,none⟩=some (.int .i64 5):=by simp [World.cell?,hbx]
 have b4:W.cell? ⟨w.heap.size,4,none⟩=some (.int .i64 exp):=by simp [World.cell?,hbx]
 have b8:W.cell? ⟨w.heap.size,8,none⟩=some (.slice (some ad) 2 c):=by simp [World.cell?,hbx]
 clear hkt hat hWx hZ hbx;go_enter Tryz.func42,Tryz.ntmps42;go_wp2_with fail;clear hW;refine (IHA.out t0 _ _ H0.out HK0.out (HVS.out.ext HWX.out)).mono ?_;rintro e v1 ⟨z1,rfl,r1,x1⟩;obtain ⟨b1,A1,n1,c1,rfl⟩:=r1.unpack;clear b0 b4 b8 e0 e1 e2 e3 e4 e5 e6 e7 e8;obtain ⟨W5,hW5⟩:=n_m (v1.alloc (.cells #[.bool b1,.slice A1 n1 c1] 25));have x5:Ext v1 W5:=by rw [<- hW5]; exact (Ext.refl v1).alloc _
 have hq5:W5.heap[v1.heap.size]?=some (.cells #[.bool b1,.slice A1 n1 c1] 25 (0,0)):=by rw [<- hW5]; exact heap_alloc_new v1 _
 have hs1:=x1.size;have hs5:W5.heap.size=v1.heap.size+1:=by rw [<- hW5]; simp
 have hbx:=((x1.trans x5).below.block _ (by omega)).trans HBX.out;have b0:W5.cell? ⟨w.heap.size,0,none⟩=some (.int .i64 5):=by simp [World.cell?,hbx]
 have b4:W5.cell? ⟨w.heap.size,4,none⟩=some (.int .i64 exp):=by simp [World.cell?,hbx]
 have b8:W5.cell? ⟨w.heap.size,8,none⟩=some (.slice (some ad) 2 c):=by simp [World.cell?,hbx]
 obtain ⟨ad',C0,p0,q0,C1,p1,q1,hA,-,hnd,hkt⟩:=(HAT.out.ext (HWX.out.trans (x1.trans x5))).kid 1 (by simp);injection hA with hA
 subst hA;obtain ⟨e0,e1,e2,e3,e4,e5,e6,e7,e8⟩:=hnd.nine;simp only [List.getElem_cons_succ,List.getElem_cons_zero] at e0 e1 e3 e4 e5 e6 e7;have HK1:=Lib.hid hkt;have R1:=Lib.hid (r1.ext x5);have X5:=Lib.hid (x1.trans x5);have HQ5:=Lib.hid hq5;have HB5:=Lib.hid hbx;clear r1 x1 x5 hnd hkt hbx hq5;go_wp2_with fail;clear hW5 b0 b4 b8 e0 e1 e2 e3 e4 e5 e6 e7 e8;refine (IHB.out t1 _ _ H1.out HK1.out (HVS.out.ext (HWX.out.trans X5.out))).mono ?_;rintro e v2 ⟨z2,rfl,r2,x2⟩;obtain ⟨b2,A2,n2,c2,rfl⟩:=r2.unpack;obtain ⟨W7,hW7⟩:=n_m (v2.alloc (.cells #[.bool b2,.slice A2 n2 c2] 25));have x7:Ext v2 W7:=by rw [<- hW7]; exact (Ext.refl v2).alloc _
 have hq7:W7.heap[v2.heap.size]?=some (.cells #[.bool b2,.slice A2 n2 c2] 25 (0,0)):=by rw [<- hW7]; exact heap_alloc_new v2 _
 have hs2:=x2.size;have hq5:=((x2.trans x7).below.block _ (by omega)).trans HQ5.out;have hbx:=((x2.trans x7).below.block _ (by omega)).trans HB5.out;have b0:W7.cell? ⟨w.heap.size,0,none⟩=some (.int .i64 5):=by simp [World.cell?,hbx]
 have b4:W7.cell? ⟨w.heap.size,4,none⟩=some (.int .i64 exp):=by simp [World.cell?,hbx]
 have b8:W7.cell? ⟨w.heap.size,8,none⟩=some (.slice (some ad) 2 c):=by simp [World.cell?,hbx]
 have f10:W7.cell? ⟨v1.heap.size,0,none⟩=some (.bool b1):=by simp [World.cell?,hq5]
 have f11:W7.cell? ⟨v1.heap.size,1,none⟩=some (.slice A1 n1 c1):=by simp [World.cell?,hq5]
 have f20:W7.cell? ⟨v2.heap.size,0,none⟩=some (.bool b2):=by simp [World.cell?,hq7]
 have f21:W7.cell? ⟨v2.heap.size,1,none⟩=some (.slice A2 n2 c2):=by simp [World.cell?,hq7]
 have R1':=Lib.hid (R1.out.ext (x2.trans x7));have R2:=Lib.hid (r2.ext x7);have X7:=Lib.hid (HWX.out.trans (X5.out.trans (x2.trans x7)));have Z7:=Lib.hid (HZ.out.ext (X5.out.trans (x2.trans x7)) (by omega));have hs7:=x7.size;clear r2 x2 x7 hq5 hq7 hbx R1;go_wp2_with fail;clear hW7;refine (kam _ _ _ _ _ _ _ R1'.out R2.out (by omega)).mono ?_;rintro e v8 ⟨z8,rfl,m8,x8⟩;have r8:=m8.raw;obtain ⟨b8',A8,n8,c8,rfl⟩:=m8.unpack;have hz8:=Z7.out.ext x8 (by omega);have hlen:(dg (a.ival (uh ns xs) * b.ival (uh ns xs)).natAbs).length<=(Tm.mul a b).bt L:=qci R1'.out.len R2.out.len hb1 hb2;have HF:=Lib.hid (gam (g:=w.heap.size+1) (X7.out.trans x8) (by omega) hz8 (r8.mono hlen));obtain ⟨⟨r0,r1⟩,g0,g1⟩:=hz8;clear r8 m8 x8 b0 b4 b8 hlen f10 f11 f20 f21;go_wp2_with fail;exact bodyPost_ret (v:=.agg #[.bool b8',.slice A8 n8 c8]) (by simp [results,Tryz.results42,go_sem,r0,r1]) rfl HF.out
theorem qcl (hL:1<=L) (hxs:∀ z ∈ xs,(dg z.natAbs).length<=L) (hnx:ns.length<=xs.length) (m:Tm) (hbt:m.bt L<=1000000000000):wai L p sn sx ns xs m:=by
 induction m with
 | num z=>exact ucu
 | name n=>exact wcl hxs hnx
 | add a c iha ihc=>exact zcv hL hbt (iha (by simp only [Tm.bt] at hbt; omega)) (ihc (by simp only [Tm.bt] at hbt; omega))
 | sub a c iha ihc=>exact kcu hL hbt (iha (by simp only [Tm.bt] at hbt; omega)) (ihc (by simp only [Tm.bt] at hbt; omega))
 | mul a c iha ihc=>exact wcu hL hbt (iha (by simp only [Tm.bt] at hbt; omega)) (ihc (by simp only [Tm.bt] at hbt; omega))
 | neg a iha=>exact gcu hL hbt (iha hbt)
 | pow a n iha =>
   exact vcu hL hbt (iha (by
    simp only [Tm.bt] at hbt
    exact Nat.le_trans (Nat.le_mul_of_pos_left _ (by omega)) hbt))
end
end Go.Proofs.YtheefiaoimbeiaaGreatDoor
