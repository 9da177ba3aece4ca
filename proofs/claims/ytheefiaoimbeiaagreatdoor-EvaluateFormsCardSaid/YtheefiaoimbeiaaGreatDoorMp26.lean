/- Layer 38: prenex.quantifiers, Names. -/
import Derived.Test.YtheefiaoimbeiaaGreatDoorMp25
set_option linter.unusedSimpArgs false
set_option linter.unusedVariables false

set_option maxRecDepth 100000
set_option maxHeartbeats 8000000
namespace Go.Proofs.YtheefiaoimbeiaaGreatDoor
open Lib (hid)
open Go.RowKit
attribute [local go_sem] uds ydr qdt kds zdt wds vds ydp xdr gds xdt udv qdn ydt xdp
def Fm.qn : Fm -> Int
 | .truth _=>0
 | .atom _ _ _=>0
 | .not f=>min f.qn 2147483647
 | .and f g=>min (f.qn+g.qn) 2147483647
 | .or f g=>min (f.qn+g.qn) 2147483647
 | .imp f g=>min (f.qn+g.qn) 2147483647
 | .iff f g=>min (2 * (f.qn+g.qn)) 2147483647
 | .quant _ _ f=>min (1+f.qn) 2147483647
theorem Fm.xj (f:Fm):0<=f.qn/\f.qn<=2147483647:=by induction f <;> simp only [Fm.qn] <;> omega
def udz (w0:World) (L:Nat) (f:Fm):Prop:=∀ (v:Value) (W:World),FmV w0 L f v->Calls Tryz.prog 60 #[v] W (zdn f.qn W)
theorem xfy {w0:World} {L:Nat} {b:Bool}:udz w0 L (.truth b):=by
 intro v W h;obtain rfl:=h;go_enter uD,tZ;go_wp2_with fail;go_ret;exact ⟨rfl,Ext.refl _⟩
theorem uga {w0:World} {L:Nat} {l k:Tm} {r:Int}:udz w0 L (.atom l r k):=by
 intro v W h;obtain ⟨x,y,rfl,hx,hy⟩:=h;obtain ⟨T,x,rfl⟩:=hx.iface;obtain ⟨U,y,rfl⟩:=hy.iface;clear hx hy;go_enter uD,tZ;go_wp2_with fail;go_ret;exact ⟨rfl,Ext.refl _⟩
theorem jgk {w0:World} {L:Nat} {f:Fm}  (ih:udz w0 L f):udz w0 L (.not f):=by
 intro v W h;obtain ⟨x,rfl,hx⟩:=h;have IH:=hid (fun W'=>ih x W' hx);obtain ⟨T,x,rfl⟩:=hx.iface;have hb:=f.xj;unfold Fm.qn;clear hx ih;generalize f.qn=a at *;go_enter uD,tZ;go_wp2_with fail;refine (IH.out _).mono ?_;rintro e w1 ⟨rfl,x1⟩;have X1:=hid (Ext.trans ((Ext.refl W).alloc _) x1);clear x1;go_wp2_with fail;go_ret;exact ⟨rfl,X1.out⟩
theorem qfy {w0:World} {L:Nat} {f:Fm} {al:Bool} {s:ByteArray} (ih:udz w0 L f):udz w0 L (.quant al s f):=by
 intro v W h;obtain ⟨x,rfl,hx⟩:=h;have IH:=hid (fun W'=>ih x W' hx);obtain ⟨T,x,rfl⟩:=hx.iface;have hb:=f.xj;unfold Fm.qn;clear hx ih;generalize f.qn=a at *;have hw:IntKind.i64.wrap (1+a)=1+a:=so _ (by omega);go_enter uD,tZ;go_wp2_with fail;refine (IH.out _).mono ?_;rintro e w1 ⟨rfl,x1⟩;have X1:=hid (Ext.trans ((Ext.refl W).alloc _) x1);clear x1;go_wp2_with fail;go_ret;exact ⟨rfl,X1.out⟩
theorem wgk {w0:World} {L:Nat} {f g:Fm} (ihf:udz w0 L f) (ihg:udz w0 L g):udz w0 L (.and f g):=by
 intro v W h;obtain ⟨x,y,rfl,hx,hy⟩:=h;have IHF:=hid (fun W'=>ihf x W' hx);have IHG:=hid (fun W'=>ihg y W' hy);obtain ⟨T,x,rfl⟩:=hx.iface;obtain ⟨U,y,rfl⟩:=hy.iface;have hb:=f.xj;have hb2:=g.xj;unfold Fm.qn;clear hx hy ihf ihg;generalize f.qn=a at *;generalize g.qn=b at *;obtain ⟨c,hc⟩:=n_m (a+b);have hw:IntKind.i64.wrap (a+b)=c:=by rw [hc]; exact so _ (by omega)
 have hcb:0<=c/\c<=4294967294:=by omega
 rw [hc];clear hc;obtain ⟨W1,hW⟩:=n_m (W.alloc (.cells #[.iface T x,.iface U y] 136));have HB:Hid (∀ W',Ext W1 W'->(Ext W1 W'/\W'.cell? ⟨W.heap.size,0,none⟩=some (.iface T x)/\W'.cell? ⟨W.heap.size,1,none⟩=some (.iface U y))):=by
  intro W' hx;obtain ⟨hc,hf⟩:=hx.cells;refine ⟨hx,?_,?_⟩ <;> (rw [hc _ _ (by rw [<- hW]; simp),<- hW]; simp [go_sem])
 have HX0:Hid (Ext W W1):=hid (by rw [<- hW]; exact (Ext.refl W).alloc _);go_enter uD,tZ;go_wp2_with fail;clear hW
 go_region_held3 (fun W' => Ext W1 W' /\ W'.cell? ⟨W.heap.size, 0, none⟩ = some (.iface T x) /\ W'.cell? ⟨W.heap.size, 1, none⟩ = some (.iface U y))
  (first | exact HB.out _ ((Ext.refl W1).drew) | exact HB.out _ (by assumption))
  (first
    | (go_at_call_of 60 (Value.iface T x)
       refine (IHF.out _).mono ?_;rintro e v1 ⟨rfl,x1⟩
       have y1:Ext W1 v1:=Ext.trans ((Ext.refl W1).drew) x1)
    | (go_at_call_of 60 (Value.iface U y)
       refine (IHG.out _).mono ?_;rintro e v2 ⟨rfl,x2⟩
       have y2:Ext W1 v2:=Ext.trans y1 x2))
 have HY2:=hid (HX0.out.trans y2);clear y1 y2 x1 x2 HB HX0;go_wp2_with fail;go_ret;exact ⟨rfl,HY2.out⟩
theorem jgq {w0:World} {L:Nat} {f g:Fm} (ihf:udz w0 L f) (ihg:udz w0 L g):udz w0 L (.or f g):=by
 intro v W h;obtain ⟨x,y,rfl,hx,hy⟩:=h;have IHF:=hid (fun W'=>ihf x W' hx);have IHG:=hid (fun W'=>ihg y W' hy);obtain ⟨T,x,rfl⟩:=hx.iface;obtain ⟨U,y,rfl⟩:=hy.iface;have hb:=f.xj;have hb2:=g.xj;unfold Fm.qn;clear hx hy ihf ihg;generalize f.qn=a at *;generalize g.qn=b at *;obtain ⟨c,hc⟩:=n_m (a+b);have hw:IntKind.i64.wrap (a+b)=c:=by rw [hc]; exact so _ (by omega)
 have hcb:0<=c/\c<=4294967294:=by omega
 rw [hc];clear hc;obtain ⟨W1,hW⟩:=n_m (W.alloc (.cells #[.iface T x,.iface U y] 137));have HB:Hid (∀ W',Ext W1 W'->(Ext W1 W'/\W'.cell? ⟨W.heap.size,0,none⟩=some (.iface T x)/\W'.cell? ⟨W.heap.size,1,none⟩=some (.iface U y))):=by
  intro W' hx;obtain ⟨hc,hf⟩:=hx.cells;refine ⟨hx,?_,?_⟩ <;> (rw [hc _ _ (by rw [<- hW]; simp),<- hW]; simp [go_sem])
 have HX0:Hid (Ext W W1):=hid (by rw [<- hW]; exact (Ext.refl W).alloc _);go_enter uD,tZ;go_wp2_with fail;clear hW
 go_region_held3 (fun W' => Ext W1 W' /\ W'.cell? ⟨W.heap.size, 0, none⟩ = some (.iface T x) /\ W'.cell? ⟨W.heap.size, 1, none⟩ = some (.iface U y))
  (first | exact HB.out _ ((Ext.refl W1).drew) | exact HB.out _ (by assumption))
  (first
    | (go_at_call_of 60 (Value.iface T x)
       refine (IHF.out _).mono ?_;rintro e v1 ⟨rfl,x1⟩
       have y1:Ext W1 v1:=Ext.trans ((Ext.refl W1).drew) x1)
    | (go_at_call_of 60 (Value.iface U y)
       refine (IHG.out _).mono ?_;rintro e v2 ⟨rfl,x2⟩
       have y2:Ext W1 v2:=Ext.trans y1 x2))
 have HY2:=hid (HX0.out.trans y2);clear y1 y2 x1 x2 HB HX0;go_wp2_with fail;go_ret;exact ⟨rfl,HY2.out⟩
theorem kgk {w0:World} {L:Nat} {f g:Fm} (ihf:udz w0 L f) (ihg:udz w0 L g):udz w0 L (.imp f g):=by
 intro v W h;obtain ⟨x,y,rfl,hx,hy⟩:=h;have IHF:=hid (fun W'=>ihf x W' hx);have IHG:=hid (fun W'=>ihg y W' hy);obtain ⟨T,x,rfl⟩:=hx.iface;obtain ⟨U,y,rfl⟩:=hy.iface;have hb:=f.xj;have hb2:=g.xj;unfold Fm.qn;clear hx hy ihf ihg;generalize f.qn=a at *;generalize g.qn=b at *;obtain ⟨c,hc⟩:=n_m (a+b);have hw:IntKind.i64.wrap (a+b)=c:=by rw [hc]; exact so _ (by omega)
 have hcb:0<=c/\c<=4294967294:=by omega
 rw [hc];clear hc;obtain ⟨W1,hW⟩:=n_m (W.alloc (.cells #[.iface T x,.iface U y] 138));have HB:Hid (∀ W',Ext W1 W'->(Ext W1 W'/\W'.cell? ⟨W.heap.size,0,none⟩=some (.iface T x)/\W'.cell? ⟨W.heap.size,1,none⟩=some (.iface U y))):=by
  intro W' hx;obtain ⟨hc,hf⟩:=hx.cells;refine ⟨hx,?_,?_⟩ <;> (rw [hc _ _ (by rw [<- hW]; simp),<- hW]; simp [go_sem])
 have HX0:Hid (Ext W W1):=hid (by rw [<- hW]; exact (Ext.refl W).alloc _);go_enter uD,tZ;go_wp2_with fail;clear hW
 go_region_held3 (fun W' => Ext W1 W' /\ W'.cell? ⟨W.heap.size, 0, none⟩ = some (.iface T x) /\ W'.cell? ⟨W.heap.size, 1, none⟩ = some (.iface U y))
  (first | exact HB.out _ ((Ext.refl W1).drew) | exact HB.out _ (by assumption))
  (first
    | (go_at_call_of 60 (Value.iface T x)
       refine (IHF.out _).mono ?_;rintro e v1 ⟨rfl,x1⟩
       have y1:Ext W1 v1:=Ext.trans ((Ext.refl W1).drew) x1)
    | (go_at_call_of 60 (Value.iface U y)
       refine (IHG.out _).mono ?_;rintro e v2 ⟨rfl,x2⟩
       have y2:Ext W1 v2:=Ext.trans y1 x2))
 have HY2:=hid (HX0.out.trans y2);clear y1 y2 x1 x2 HB HX0;go_wp2_with fail;go_ret;exact ⟨rfl,HY2.out⟩
theorem vgk {w0:World} {L:Nat} {f g:Fm} (ihf:udz w0 L f) (ihg:udz w0 L g):udz w0 L (.iff f g):=by
 intro v W h;obtain ⟨x,y,rfl,hx,hy⟩:=h;have IHF:=hid (fun W'=>ihf x W' hx);have IHG:=hid (fun W'=>ihg y W' hy);obtain ⟨T,x,rfl⟩:=hx.iface;obtain ⟨U,y,rfl⟩:=hy.iface;have hb:=f.xj;have hb2:=g.xj;unfold Fm.qn;clear hx hy ihf ihg;generalize f.qn=a at *;generalize g.qn=b at *;obtain ⟨c,hc⟩:=n_m (a+b);have hw:IntKind.i64.wrap (a+b)=c:=by rw [hc]; exact so _ (by omega)
 have hw2:IntKind.i64.wrap (2 * c)=2 * c:=so _ (by omega);have hcb:0<=c/\c<=4294967294:=by omega
 rw [hc];clear hc;obtain ⟨W1,hW⟩:=n_m (W.alloc (.cells #[.iface T x,.iface U y] 139));have HB:Hid (∀ W',Ext W1 W'->(Ext W1 W'/\W'.cell? ⟨W.heap.size,0,none⟩=some (.iface T x)/\W'.cell? ⟨W.heap.size,1,none⟩=some (.iface U y))):=by
  intro W' hx;obtain ⟨hc,hf⟩:=hx.cells;refine ⟨hx,?_,?_⟩ <;> (rw [hc _ _ (by rw [<- hW]; simp),<- hW]; simp [go_sem])
 have HX0:Hid (Ext W W1):=hid (by rw [<- hW]; exact (Ext.refl W).alloc _);go_enter uD,tZ;go_wp2_with fail;clear hW
 go_region_held3 (fun W' => Ext W1 W' /\ W'.cell? ⟨W.heap.size, 0, none⟩ = some (.iface T x) /\ W'.cell? ⟨W.heap.size, 1, none⟩ = some (.iface U y))
  (first | exact HB.out _ ((Ext.refl W1).drew) | exact HB.out _ (by assumption))
  (first
    | (go_at_call_of 60 (Value.iface T x)
       refine (IHF.out _).mono ?_;rintro e v1 ⟨rfl,x1⟩
       have y1:Ext W1 v1:=Ext.trans ((Ext.refl W1).drew) x1)
    | (go_at_call_of 60 (Value.iface U y)
       refine (IHG.out _).mono ?_;rintro e v2 ⟨rfl,x2⟩
       have y2:Ext W1 v2:=Ext.trans y1 x2))
 have HY2:=hid (HX0.out.trans y2);clear y1 y2 x1 x2 HB HX0;go_wp2_with fail;go_ret;exact ⟨rfl,HY2.out⟩
theorem ugk {w0:World} {L:Nat} (f:Fm):udz w0 L f:=by
 induction f with
 | truth b=>exact xfy
 | atom l r k=>exact uga
 | not f ih=>exact jgk ih
 | and f g ihf ihg=>exact wgk ihf ihg
 | or f g ihf ihg=>exact jgq ihf ihg
 | imp f g ihf ihg=>exact kgk ihf ihg
 | iff f g ihf ihg=>exact vgk ihf ihg
 | quant a s f ih=>exact qfy ih
theorem jdl.base {w:World} {b b':Nat} {v:Value} {l:List ByteArray} (h:jdl w b v l) (hb:b'<=b):jdl w b' v l:=by
 unfold jdl World.ownsRow at h ⊢;refine ⟨h.1,?_⟩;rcases h.2 with h | ⟨g,cap,cur,h1,h2,h3⟩
 · exact .inl h
 · exact .inr ⟨g,cap,cur,h1,by omega,h3⟩
def Fm.xZ (f:Fm):Int:=if f.zd=0 then (if (f.free.length:Int)+f.qn<=4 then 0 else 8) else f.zd
def keq (f:Fm) (w:World) (e:Ending) (w':World):Prop:=∃ s,e=.returned (.tuple #[s,.int .i64 f.xZ])/\(f.xZ=0->jdl w' w.heap.size s f.free)/\(f.xZ ≠ 0->s=.slice none 0 0)/\Ext w w'
theorem xe6 (a:ByteArray->Int) (s:ByteArray) (acc:List ByteArray):(vdl a s acc).length<=acc.length+1:=by unfold vdl; split <;> simp
theorem Tm.xp (t:Tm) (a:ByteArray->Int):∀ acc:List ByteArray,(t.fold (vdl a) acc).length<=acc.length+t.sz:=by
 induction t <;> intro acc <;> simp only [Tm.fold,Tm.sz]
 case num=>omega
 case name=>exact xe6 _ _ _
 case add p q iha ihb=>have:=iha acc; have:=ihb (p.fold (vdl a) acc); omega
 case sub p q iha ihb=>have:=iha acc; have:=ihb (p.fold (vdl a) acc); omega
 case mul p q iha ihb=>have:=iha acc; have:=ihb (p.fold (vdl a) acc); omega
 case neg p iha=>have:=iha acc; omega
 case pow p e iha=>have:=iha acc; omega
theorem Fm.xp (f:Fm):∀ (a:ByteArray->Int) (acc:List ByteArray),(f.fold vdl a acc).length<=acc.length+f.sz:=by
 induction f <;> intro a acc <;> simp only [Fm.fold,Fm.sz]
 case truth=>omega
 case atom l r k=>have:=l.xp a acc; have:=k.xp a (l.fold (vdl a) acc); omega
 case not f ih=>have:=ih a acc; omega
 case quant al s f ih=>have:=ih (bump a s) acc; omega
 all_goals rename_i f g ihf ihg; have:=ihf a acc; have:=ihg a (f.fold vdl a acc); omega
def NmC (w0:World) (L:Nat) (f:Fm):Prop:=f.qe (uew w0 L)/\udz w0 L f
theorem jfd {w0:World} {L:Nat} (hs:L<=1000000000000) (f:Fm):NmC w0 L f:=⟨f.zq (ue1 hs),ugk f⟩
theorem uey {w0 w:World} {L:Nat} (hs:L<=1000000000000) (f:Fm) {v:Value} (hx0:Ext w0 w) (h:FmV w0 L f v) (hl:f.sz<=1099511627776) (hc:NmC w0 L f):Calls Tryz.prog 25 #[v] w (keq f w):=by
 have H:=hid h;have HC:=hid (check_any hs f hx0 h hl hc.1);have HFR:=hid (fun W'=>yeq (w:=W') f h hl);have HQ:=hid (fun W'=>hc.2 v W' h);have hq:=f.xj;obtain ⟨T,x,rfl⟩:=h.iface;unfold keq;have HE:Hid (f.xZ=if f.zd=0 then (if (f.free.length:Int)+f.qn<=4 then 0 else 8) else f.zd):=hid rfl;clear h hx0;generalize f.xZ=res at *;generalize f.zd=c at *;generalize f.qn=q at *
 by_cases hc:c=0
 · have hc':(c != 0)=false:=by simp [hc]
   have HC0:=hid hc;clear hc;go_enter Tryz.func25,Tryz.ntmps25;go_wp2_with fail;refine HC.out.mono ?_;rintro e w1 ⟨rfl,x1⟩;have X1:=hid x1;clear x1;go_wp2_with fail;refine (HFR.out w1).mono ?_;rintro e w2 ⟨v2,rfl,aaC,x2⟩;obtain ⟨A,cc,e2,hn1,hn2,-⟩:=aaC.yC;subst e2;have X2:=hid (X1.out.trans x2);have aeB:Hid (jdl w2 w.heap.size (.slice A f.free.length cc) f.free):=hid (aaC.base X1.out.size);have hfl:f.free.length<=1099511627776:=po (show f.free.length<=0+f.sz from f.xp (fun _=>0) []) (by omega);clear x2 aaC;obtain ⟨n,hn⟩:=n_m (f.free.length);have HN:=hid hn;simp only [hn] at aeB HE hfl ⊢;clear hn hn1 hn2;have hw:IntKind.i64.wrap ((n:Int)+q)=(n:Int)+q:=so _ (by omega)
   by_cases hlt:4 < (n:Int)+q
   · have HR:Hid (res=8):=hid (by rw [HE.out,if_pos HC0.out,if_neg (by omega)]);go_wp2_with fail;refine (HQ.out w2).mono ?_;rintro e w3 ⟨rfl,x3⟩;have X3:=hid (X2.out.trans x3);clear x3;go_wp2_with fail;exact bodyPost_ret (v:=.tuple #[.slice none 0 0,.int .i64 8]) (by simp [results,Tryz.results25,go_sem]) rfl ⟨_,by rw [HR.out],fun h=>absurd h (by rw [HR.out]; decide),fun _=>rfl,X3.out⟩
   · have HR:Hid (res=0):=hid (by rw [HE.out,if_pos HC0.out,if_pos (by omega)]);go_wp2_with fail;refine (HQ.out w2).mono ?_;rintro e w3 ⟨rfl,x3⟩;have X3:=hid (X2.out.trans x3);have as3:=hid (aeB.out.ext x3);clear x3;go_wp2_with fail;exact bodyPost_ret (v:=.tuple #[.slice A n cc,.int .i64 0]) (by simp [results,Tryz.results25,go_sem]) rfl ⟨_,by rw [HR.out],fun _=>as3.out,fun h=>absurd HR.out h,X3.out⟩
 · have hc':(c != 0)=true:=by simp [hc]
   have HR:Hid (res=c):=hid (by rw [HE.out,if_neg hc]);have HC0:=hid hc;clear hc;go_enter Tryz.func25,Tryz.ntmps25;go_wp2_with fail;refine HC.out.mono ?_;rintro e w1 ⟨rfl,x1⟩;have X1:=hid x1;clear x1;go_wp2_with fail;exact bodyPost_ret (v:=.tuple #[.slice none 0 0,.int .i64 c]) (by simp [results,Tryz.results25,go_sem]) rfl ⟨_,by rw [HR.out],fun h=>absurd (HR.out.symm.trans h) HC0.out,fun _=>rfl,X1.out⟩
end Go.Proofs.YtheefiaoimbeiaaGreatDoor

namespace Go.Proofs.YtheefiaoimbeiaaGreatDoor
open Lib (hid)
open Go.RowKit
def jd7 (l : List ByteArray) : Nat -> ByteArray -> Int
 | 0=>fun _=>0
 | k+1=>fun t=>if t=l.getD k ByteArray.empty then ((k+1:Nat):Int) else jd7 l k t
theorem zez (l:List ByteArray) (k:Nat) (h:k < l.length):jd7 l (k+1)=fun t=>if t=l[k] then ((k+1:Nat):Int) else jd7 l k t:=by
 rw [jd7,pB,pq h]
 rfl
def Fm.st (f:Fm):PSt:=⟨f.free,[],jd7 f.free f.free.length⟩
def uf7 (base:Nat) (u:Value):Prop:=∃ x0 A1 n1 c1 A2 n2 c2 x3 x4 x5 x6 x7 x8 x9,u=.agg #[x0,.slice A1 n1 c1,.slice A2 n2 c2,x3,x4,x5,x6,x7,x8,x9]/\(∀ ad,A1=some ad->0 < n1->base<=ad.block)/\(∀ ad,A2=some ad->0 < n2->base<=ad.block)
def gfl (L:Nat) (f:Fm):Prop:=∀ (w1:World) (base gb bl bt:Nat),(w1.heap.size<=gb/\w1.heap.size<=bl/\w1.heap.size<=bt/\w1.heap.size<=base)->vdu w1 L base gb bl bt f
theorem vf2 {L:Nat} {P:Tm->Prop} (f:Fm) (HP:∀ (w:World) (gb bl:Nat) (t:Tm),P t->∀ g,wdt w L gb bl g t) (hP:f.qe P):gfl L f:=fun w1 _ gb bl _ hlo=>zfj (HP w1 gb bl) hlo f hP
theorem jgm {w0 w : World} {L : Nat} (hs : L <= 1000000000000) (f : Fm) {v : Value} (hx0 : Ext w0 w) (h : FmV w0 L f v) (hl : f.sz <= 1099511627776) (hpl : f.okB false = true) (hok : f.xZ = 0) (hli : f.qJ) (hlen : f.free.length + f.bound.length <= 1000)
 (hc:NmC w0 L f) (HM:gfl L f) :
 Calls Tryz.prog 9 #[v] w fun e w'=>∃ u,e=.returned (.tuple #[u,.int .i64 0])/\Ext w w'/\PxV w' (fun b=>w.heap.size<=b) f.free.length (zc2 f true f.st).2.all (zc2 f true f.st).2.names (zc2 f true f.st).1 u/\uf7 w.heap.size u:=by
 obtain ⟨W1,hW⟩:=n_m (w.alloc (.cells #[.int .i64 0,.slice none 0 0,.slice none 0 0,.int .i64 0,.int .i64 0,.int .i64 0,.bool false,.slice none 0 0,.slice none 0 0,.slice none 0 0] 49));have hWx:Ext w W1:=by rw [<- hW]; exact (Ext.refl w).alloc _
 have hWs:W1.heap.size=w.heap.size+1:=by rw [<- hW]; simp
 have HZ:Hid (∀ j,j < 10->W1.cell? ⟨w.heap.size,j,none⟩=#[Value.int .i64 0,.slice none 0 0,.slice none 0 0,.int .i64 0,.int .i64 0,.int .i64 0,.bool false,.slice none 0 0,.slice none 0 0,.slice none 0 0][j]?/\W1.frozen? ⟨w.heap.size,j,none⟩=false):=hid (fun j hj=>by
  rw [<- hW]
  rcases (show j=0\/j=1\/j=2\/j=3\/j=4\/j=5\/j=6\/j=7\/j=8\/j=9 by omega) with rfl | rfl | rfl | rfl | rfl | rfl | rfl | rfl | rfl | rfl <;> (constructor <;> simp [go_sem]))
 have HN:=hid (uey hs f (hx0.trans hWx) h hl hc);have HFV:=hid h;have HX0:=hid hx0;have HWX:=hid hWx;have hfl:f.free.length<=1000:=by omega
 obtain ⟨T,x,rfl⟩:=h.iface;clear hWx h hx0;go_enter Tryz.func9,Tryz.ntmps9;go_wp2_with fail;clear hW;refine HN.out.mono ?_;rintro e w1 ⟨s1,rfl,aaC,-,x1⟩;have anF:=aaC hok;rw [hok];have hs1:=x1.size;have hst:=anF.yC;have X1:=hid x1;have HST:=hid (show Strs w1 s1 f.free from hst);obtain ⟨SA,sc,rfl,-⟩:=id hst;have apH:=hid (HFV.out.ext ((HX0.out.trans HWX.out).trans x1));clear aaC anF hst x1 HN HFV;go_wp2_with fail;refine (clone_any HST.out (by omega)).mono ?_;rintro e w2 ⟨v2,rfl,r2,x2⟩;have hs2:=x2.size;obtain ⟨NA,nc,rfl,-⟩:=r2.len;obtain ⟨W3,hW3⟩:=n_m (((w2.alloc (.map #[] 0)).alloc (.map #[] 0)).alloc (.cells #[.slice NA f.free.length nc,.slice none 0 0,.map (some w2.heap.size),.map (some (w2.heap.size+1))] 93));have hx3:Ext w2 W3:=by rw [<- hW3]; exact (((Ext.refl w2).alloc _).alloc _).alloc _
 have hs3:W3.heap.size=w2.heap.size+1+1+1:=by rw [<- hW3]; simp
 have hb:∃ own,zdp w1.heap.size (w2.heap.size+1+1) w2.heap.size (w2.heap.size+1) W3 own ⟨f.free,[],jd7 f.free 0⟩ []:=by
  refine ⟨fun i=>i=w2.heap.size+1+1\/i=w2.heap.size\/i=w2.heap.size+1\/(Value.slice NA f.free.length nc).ownBlock=some i\/(Value.slice none 0 0).ownBlock=some i,⟨⟨.slice NA f.free.length nc,.slice none 0 0,(Value.slice NA f.free.length nc).ownBlock,?_,?_,.inl ⟨r2.ext hx3,rfl⟩,vdm.nil _ _ _ _,fun i=>Iff.rfl,?_,?_⟩,?_,?_,fun i=>?_,?_,?_,by omega,by omega⟩⟩
  · rw [<- hW3]; simp [go_sem]
  · rw [<- hW3]; simp [go_sem]
  · intro i _ e; cases e
  · intro i e;rcases e with e | e
    · have:=r2.own e; omega
    · cases e
  · rw [<- hW3]; simp [go_sem]
  · rw [<- hW3]; simp [go_sem]
  · rw [<- hW3]; simp [go_sem]
  · refine ⟨[],?_,fun s=>rfl⟩;rw [<- hW3];exact ((jdp.made w2).alloc _).alloc _
  · refine ⟨[],?_,rfl,fun s=>rfl⟩;rw [<- hW3];have:=jdp.made (w2.alloc (.map #[] 0));rw [show (w2.alloc (.map #[] 0)).heap.size=w2.heap.size+1 by simp] at this;exact this.alloc _
 have HB:=hid hb;have X3:=hid (x2.trans hx3);have hmm:=@run_makeMap Tryz.prog;clear hb r2 x2 hx3;have hlo:w1.heap.size<=w2.heap.size+1+1/\w1.heap.size<=w2.heap.size/\w1.heap.size<=w2.heap.size+1/\w1.heap.size<=w1.heap.size:=by omega
 go_wp2_with fail;clear hW3 hmm
 go_loopw [29] (fun iv wr=>∃ k:Nat,k<=f.free.length/\iv=.int .i64 k/\Hid (Ext w1 wr/\∃ own tk,zdp w1.heap.size (w2.heap.size+1+1) w2.heap.size (w2.heap.size+1) wr own ⟨f.free,[],jd7 f.free k⟩ tk)) (fun iv _=>f.free.length - (intOf iv).toNat)
 case atStart =>
  obtain ⟨own,hb⟩:=HB.out;exact ⟨0,pM _,rfl,⟨X3.out,own,[],hb⟩⟩
 case round =>
  obtain ⟨k,hk,rfl,⟨hxr,own,tk,hb⟩⟩:=hrel;have HXR:=hid hxr
  by_cases hlt:k < f.free.length
  · obtain ⟨ad,y,rfl,hc,hy⟩:=SlR.qt (HST.out.ext hxr) k hlt;subst hy;have c2:=hb.c2;obtain ⟨wa,hra,ba,ta,-⟩:=hb.zv f.free[k] ((k:Int)+1);have c3:=ba.c3;obtain ⟨wb,hrb,bb,tb⟩:=ba.zu f.free[k];rw [show (⟨f.free,[],fun t=>if t=f.free[k] then (k:Int)+1 else jd7 f.free k t⟩:PSt)=⟨f.free,[],jd7 f.free (k+1)⟩ by rw [zez f.free k hlt]; rfl] at bb;have hkw:IntKind.i64.wrap ((k:Int)+1)=(k:Int)+1:=by rw [rD]; omega
    have adR:Hid (Ext w1 wb/\∃ own tk,zdp w1.heap.size (w2.heap.size+1+1) w2.heap.size (w2.heap.size+1) wb own ⟨f.free,[],jd7 f.free (k+1)⟩ tk):=hid ⟨(ta.trans tb).ext hxr (hb.lo hlo),own,_,bb⟩;clear ba ta bb tb hb hxr;generalize f.free[k]=s at *;go_wp2_with fail;clear hra hrb c2 c3 hc
    go_roundw
    case rel=>exact ⟨k+1,by omega,by go_num,adR⟩
    case measure=>simp [intOf]; omega
  · have hke:k=f.free.length:=by omega
    rw [hke] at hb;rw [hke];have ar8:zdp w1.heap.size (w2.heap.size+1+1) w2.heap.size (w2.heap.size+1) wr own f.st tk:=hb;have HBB:=hid ar8;obtain ⟨w4,hw4⟩:∃ w4,w4=wr:=⟨wr,rfl⟩;have HBD:=hid (yel (w:=wr) f apH.out hl);have hbl:=f.qY;clear hb ar8 hxr;subst hw4;go_wp2_with fail;refine HBD.out.mono ?_;rintro e w5 ⟨v5,rfl,hr5,x5⟩;have akD:=hr5.yC;have arb:∀ ad n c,v5=.slice (some ad) n c->¬ own ad.block:=fun ad n c e ho=>by
     have h1:=hr5.lt ad.block (by rw [e]; rfl);have h2:=(HBB.out.xA ho).1;omega
    obtain ⟨BA,bc,rfl,-⟩:=id akD;have asY:=hid (show Strs w5 (.slice BA f.bound.length bc) f.bound from akD);have ata:=hid arb;have HX5:=hid (HXR.out.trans x5);have HB5:=hid (HBB.out.ext x5);clear hr5 akD x5 HBD HBB arb;go_wp2_with fail
    go_loopw [50] (fun iv wr=>∃ k:Nat,k<=f.bound.length/\iv=.int .i64 k/\Hid (vdp own w5 own wr/\∃ tk,zdp w1.heap.size (w2.heap.size+1+1) w2.heap.size (w2.heap.size+1) wr own f.st tk)) (fun iv _=>f.bound.length - (intOf iv).toNat)
    case atStart=>exact ⟨0,pM _,rfl,⟨vdp.refl _ _,_,HB5.out⟩⟩
    case round =>
     obtain ⟨k,hk,rfl,⟨hbm,tk',hb⟩⟩:=hrel
     by_cases hlt:k < f.bound.length
     · obtain ⟨ad,y,rfl,hc,hy⟩:=SlR.qt (SlR.keeps asY.out hbm.keeps ata.out) k hlt;subst hy;have c3:=hb.c3;obtain ⟨wb,hrb,bb,tb⟩:=hb.zu f.bound[k];have adR:Hid (vdp own w5 own wb/\∃ tk,zdp w1.heap.size (w2.heap.size+1+1) w2.heap.size (w2.heap.size+1) wb own f.st tk):=hid ⟨hbm.trans tb,_,bb⟩;clear bb tb hb hbm;generalize f.bound[k]=s at *;go_wp2_with fail;clear hrb c3 hc
       go_roundw
       case rel=>exact ⟨k+1,by omega,by go_num,adR⟩
       case measure=>simp [intOf]; omega
     · have HX6:=hid (hbm.ext HX5.out (HB5.out.lo hlo));have atc:=hid (HM w1 _ _ _ _ hlo (.iface T x) wr own f.st tk' true false HX6.out apH.out hpl hli (by show f.free.length+_<=_; omega) (by show 0+_<=_; omega) hb);have aoh:Hid (∀ i,own i->w1.heap.size<=i):=hid (fun i hi=>hb.lo hlo i hi);clear hb hbm asY ata HB5;go_wp2_with fail;refine atc.out.mono ?_;rintro e w6 ⟨v6,az2,rfl,m6,b6,t6⟩;obtain ⟨r,hr⟩:=n_m (zc2 f true f.st);rw [hr] at m6 b6;obtain ⟨mr,sr⟩:=r;have HR:=hid hr;clear hr;simp only at m6 b6;obtain ⟨C0,j0,f0,C1,j1,f1,C2,f2,rfl,-⟩:=id m6.open_;have hs6:=t6.size;have hx6:Ext w1 w6:=t6.ext HX6.out (fun i hi=>aoh.out i hi);obtain ⟨nv,av,on,e0,e1,r0,r1,-,-,-⟩:=b6.ex;obtain ⟨NB,nb,rfl,-⟩:=r0.len;obtain ⟨AB,ab,rfl,-⟩:=r1.len;obtain ⟨W7,hW7⟩:=n_m (w6.alloc (.cells #[.int .i64 mr.kind,.int .i64 mr.rel,.int .i64 mr.p.lv,.bool mr.p.neg,.slice C0 j0 f0,.slice C1 j1 f1,.slice C2 mr.ks.length f2] 47));have hx7:Ext w6 W7:=by rw [<- hW7]; exact (Ext.refl w6).alloc _
       have hbx:udu W7 w6.heap.size mr (.slice C0 j0 f0) (.slice C1 j1 f1) (.slice C2 mr.ks.length f2):=by rw [<- hW7]; exact udu.new w6 mr _ _ _ _
       have amE:Ext W1 W7.drew:=((X1.out.trans hx6).trans hx7).drew;have auR:Ext w W7.drew:=HWX.out.trans amE;have anu:Ext w W7:=HWX.out.trans ((X1.out.trans hx6).trans hx7)
       have hz7:∀ j,j < 10->W7.drew.cell? ⟨w.heap.size,j,none⟩=#[Value.int .i64 0,.slice none 0 0,.slice none 0 0,.int .i64 0,.int .i64 0,.int .i64 0,.bool false,.slice none 0 0,.slice none 0 0,.slice none 0 0][j]?/\W7.drew.frozen? ⟨w.heap.size,j,none⟩=false:=fun j hj =>
        ⟨(amE.cell (p:=⟨w.heap.size,j,none⟩) (by show w.heap.size < _; omega)).trans (HZ.out j hj).1,(amE.frozen (p:=⟨w.heap.size,j,none⟩) (by show w.heap.size < _; omega)).trans (HZ.out j hj).2⟩
       have hs7:=hx7.size;have aoW:w2.heap.size+1+1 < w6.heap.size:=b6.lt.1;have hSA:W7.drew.cell? ⟨w2.heap.size+1+1,0,none⟩=some (.slice NB sr.names.length nb)/\W7.drew.cell? ⟨w2.heap.size+1+1,1,none⟩=some (.slice AB sr.all.length ab)/\W7.drew.cell? ⟨w6.heap.size,0,none⟩=some (.int .i64 mr.kind)/\W7.drew.cell? ⟨w6.heap.size,1,none⟩=some (.int .i64 mr.rel)/\W7.drew.cell? ⟨w6.heap.size,2,none⟩=some (.int .i64 mr.p.lv)/\W7.drew.cell? ⟨w6.heap.size,3,none⟩=some (.bool mr.p.neg)/\W7.drew.cell? ⟨w6.heap.size,4,none⟩=some (.slice C0 j0 f0)/\W7.drew.cell? ⟨w6.heap.size,5,none⟩=some (.slice C1 j1 f1)/\W7.drew.cell? ⟨w6.heap.size,6,none⟩=some (.slice C2 mr.ks.length f2):=by
        obtain ⟨y0,y1,y2,y3,y4,y5,y6⟩:=hbx;exact ⟨(hx7.cell (p:=⟨w2.heap.size+1+1,0,none⟩) aoW).trans e0,(hx7.cell (p:=⟨w2.heap.size+1+1,1,none⟩) aoW).trans e1,y0,y1,y2,y3,y4,y5,y6⟩
       obtain ⟨V,hV⟩:=n_m (geg W7 w.heap.size (.int .i64 f.free.length) (.slice AB sr.all.length ab) (.slice NB sr.names.length nb) (.int .i64 mr.kind) (.int .i64 mr.rel) (.int .i64 mr.p.lv) (.bool mr.p.neg) (.slice C0 j0 f0) (.slice C1 j1 f1) (.slice C2 mr.ks.length f2));have agZ:∀ b i,b ≠ w.heap.size->V.drew.cell? ⟨b,i,none⟩=W7.drew.cell? ⟨b,i,none⟩:=fun b i hb=>by
        have h1:V.heap[b]?=W7.heap[b]?:=by rw [<- hV,gee]; exact zd9 hb _ _ _
        exact ph (w:=W7.drew) (w':=V.drew) (a:=⟨b,i,none⟩) h1
       have hSB:V.drew.cell? ⟨w2.heap.size+1+1,0,none⟩=some (.slice NB sr.names.length nb)/\V.drew.cell? ⟨w2.heap.size+1+1,1,none⟩=some (.slice AB sr.all.length ab)/\V.drew.cell? ⟨w6.heap.size,0,none⟩=some (.int .i64 mr.kind)/\V.drew.cell? ⟨w6.heap.size,1,none⟩=some (.int .i64 mr.rel)/\V.drew.cell? ⟨w6.heap.size,2,none⟩=some (.int .i64 mr.p.lv)/\V.drew.cell? ⟨w6.heap.size,3,none⟩=some (.bool mr.p.neg)/\V.drew.cell? ⟨w6.heap.size,4,none⟩=some (.slice C0 j0 f0)/\V.drew.cell? ⟨w6.heap.size,5,none⟩=some (.slice C1 j1 f1)/\V.drew.cell? ⟨w6.heap.size,6,none⟩=some (.slice C2 mr.ks.length f2):=by
        obtain ⟨g0,g1,y0,y1,y2,y3,y4,y5,y6⟩:=hSA;exact ⟨(agZ _ _ (by omega)).trans g0,(agZ _ _ (by omega)).trans g1,(agZ _ _ (by omega)).trans y0,(agZ _ _ (by omega)).trans y1,(agZ _ _ (by omega)).trans y2,(agZ _ _ (by omega)).trans y3,(agZ _ _ (by omega)).trans y4,(agZ _ _ (by omega)).trans y5,(agZ _ _ (by omega)).trans y6⟩
       have acb:=vf5 (q':=fun b=>w.heap.size<=b) (fr:=(f.free.length:Int)) anu (pf _) (fun j hj=>by
        have h1:=(hz7 j hj).1
        rcases (show j=0\/j=1\/j=2\/j=3\/j=4\/j=5\/j=6\/j=7\/j=8\/j=9 by omega) with rfl | rfl | rfl | rfl | rfl | rfl | rfl | rfl | rfl | rfl <;> exact ⟨_,h1,rfl⟩)
        ((kfo r1).ext hx7) (fun ad e adT=>by
          obtain ⟨g,c,e2,-,-,hg,-⟩:=r1.pos (by omega);injection e2 with e2
          rw [e] at e2;injection e2 with e2
          subst e2;show g ≠ _
          omega)
        (r0.jn.ext hx7) (fun ad e adT=>by
          rcases r0 with ⟨r0,-⟩ | ⟨h0,-⟩
          · obtain ⟨g,c,e2,-,-,hg,-⟩:=r0.pos (by omega);injection e2 with e2
            rw [e] at e2;injection e2 with e2
            subst e2;show g ≠ _;omega
          · rw [h0] at adT; simp at adT) (m6.ext hx7) (fun b _ hb=>⟨by have:=HX6.out.size; omega,by have:=HX6.out.size; omega⟩)
       have aen:uf7 w.heap.size (pxC f.free.length (.slice AB sr.all.length ab) (.slice NB sr.names.length nb) mr (.slice C0 j0 f0) (.slice C1 j1 f1) (.slice C2 mr.ks.length f2)):=⟨_,_,_,_,_,_,_,_,_,_,_,_,_,_,rfl,fun ad e adT=>by
        obtain ⟨g,c,e2,-,-,hg,-⟩:=r1.pos (by omega);injection e2 with e2
        rw [e] at e2;injection e2 with e2
        subst e2;show _<=g;omega,fun ad e adT=>by
        rcases r0 with ⟨r0,-⟩ | ⟨h0,-⟩
        · obtain ⟨g,c,e2,-,-,hg,-⟩:=r0.pos (by omega);injection e2 with e2
          rw [e] at e2;injection e2 with e2
          subst e2;show _<=g;omega
        · rw [h0] at adT; simp at adT⟩
       have ahN:=hid aen;clear aen;rw [hV] at acb;have HSS:=hid (And.intro hSA hSB);have HF:=hid (And.intro (acb.1.drew) (acb.2.ext ((Ext.refl _).drew)));rw [<- hV] at HSS HF;unfold geg at HSS HF;clear hV;obtain ⟨g0,g1,y0,y1,y2,y3,y4,y5,y6⟩:=hSA;have zf:∀ j,j < 10->W7.drew.frozen? ⟨w.heap.size,j,none⟩=false:=fun j hj=>(hz7 j hj).2
       have zc:∀ j,j < 10->W7.drew.cell? ⟨w.heap.size,j,none⟩=#[Value.int .i64 0,.slice none 0 0,.slice none 0 0,.int .i64 0,.int .i64 0,.int .i64 0,.bool false,.slice none 0 0,.slice none 0 0,.slice none 0 0][j]?:=fun j hj=>(hz7 j hj).1
       have z0:W7.cell? ⟨w.heap.size,0,none⟩=some (.int .i64 0):=zc 0 (by omega);have z1:W7.cell? ⟨w.heap.size,1,none⟩=some (.slice none 0 0):=zc 1 (by omega);have z2:W7.cell? ⟨w.heap.size,2,none⟩=some (.slice none 0 0):=zc 2 (by omega);have z3:W7.cell? ⟨w.heap.size,3,none⟩=some (.int .i64 0):=zc 3 (by omega);have z4:W7.cell? ⟨w.heap.size,4,none⟩=some (.int .i64 0):=zc 4 (by omega);have z5:W7.cell? ⟨w.heap.size,5,none⟩=some (.int .i64 0):=zc 5 (by omega);have z6:W7.cell? ⟨w.heap.size,6,none⟩=some (.bool false):=zc 6 (by omega);have z7:W7.cell? ⟨w.heap.size,7,none⟩=some (.slice none 0 0):=zc 7 (by omega);have z8:W7.cell? ⟨w.heap.size,8,none⟩=some (.slice none 0 0):=zc 8 (by omega);have z9:W7.cell? ⟨w.heap.size,9,none⟩=some (.slice none 0 0):=zc 9 (by omega);have q0:W7.frozen? ⟨w.heap.size,0,none⟩=false:=zf 0 (by omega);have q1:W7.frozen? ⟨w.heap.size,1,none⟩=false:=zf 1 (by omega);have q2:W7.frozen? ⟨w.heap.size,2,none⟩=false:=zf 2 (by omega);have q3:W7.frozen? ⟨w.heap.size,3,none⟩=false:=zf 3 (by omega);have q4:W7.frozen? ⟨w.heap.size,4,none⟩=false:=zf 4 (by omega);have q5:W7.frozen? ⟨w.heap.size,5,none⟩=false:=zf 5 (by omega);have q6:W7.frozen? ⟨w.heap.size,6,none⟩=false:=zf 6 (by omega);have q7:W7.frozen? ⟨w.heap.size,7,none⟩=false:=zf 7 (by omega);have q8:W7.frozen? ⟨w.heap.size,8,none⟩=false:=zf 8 (by omega);have q9:W7.frozen? ⟨w.heap.size,9,none⟩=false:=zf 9 (by omega);clear acb agZ hSB m6 b6 t6 r0 r1 e0 e1 hx6 hx7 hbx amE auR anu hz7 zc zf atc aoh HX6 HX5 HXR HST X3 X1 apH HZ hli hc HM hpl hs6 hs7 aoW HX0 HWX hlo hs1 hs2 hs3 hWs;unfold mxV;go_upto_region 17 with fail
       go_region_held3 (fun W' => W'.cell? ⟨w2.heap.size + 1 + 1, 0, none⟩ = some (.slice NB sr.names.length nb) /\ W'.cell? ⟨w2.heap.size + 1 + 1, 1, none⟩ = some (.slice AB sr.all.length ab) /\ W'.cell? ⟨w6.heap.size, 0, none⟩ = some (.int .i64 mr.kind) /\ W'.cell? ⟨w6.heap.size, 1, none⟩ = some (.int .i64 mr.rel) /\ W'.cell? ⟨w6.heap.size, 2, none⟩ = some (.int .i64 mr.p.lv) /\ W'.cell? ⟨w6.heap.size, 3, none⟩ = some (.bool mr.p.neg) /\ W'.cell? ⟨w6.heap.size, 4, none⟩ = some (.slice C0 j0 f0) /\ W'.cell? ⟨w6.heap.size, 5, none⟩ = some (.slice C1 j1 f1) /\ W'.cell? ⟨w6.heap.size, 6, none⟩ = some (.slice C2 mr.ks.length f2))
        (first | with_reducible exact HSS.out.1 | with_reducible exact HSS.out.2)
        (fail)
       all_goals
        clear q0 q1 q2 q3 q4 q5 q6 q7 q8 q9 g0 g1 y0 y1 y2 y3 y4 y5 y6 HSS hW7;go_wp2_with fail;exact bodyPost_ret (v:=.tuple #[pxC f.free.length (.slice AB sr.all.length ab) (.slice NB sr.names.length nb) mr (.slice C0 j0 f0) (.slice C1 j1 f1) (.slice C2 mr.ks.length f2),.int .i64 0]) (by simp [results,Tryz.results9,go_sem,z0,z1,z2,z3,z4,z5,z6,z7,z8,z9,pxC]) rfl ⟨_,rfl,by rw [HR.out]; exact ⟨HF.out.1,HF.out.2,ahN.out⟩⟩
theorem vgc {w0 w : World} {L : Nat} (hs : L <= 1000000000000) (f : Fm) {v : Value} (hx0 : Ext w0 w) (h : FmV w0 L f v) (hl : f.sz <= 1099511627776) (hpl : f.okB false = true) (hok : f.xZ = 0) (hli : f.qJ) (hlen : f.free.length + f.bound.length <= 1000)
 (hc:NmC w0 L f) (HM:gfl L f) :
 Calls Tryz.prog 9 #[v] w fun e w'=>∃ u,e=.returned (.tuple #[u,.int .i64 0])/\Ext w w'/\PxV w' (fun b=>w.heap.size<=b) f.free.length (zc2 f true f.st).2.all (zc2 f true f.st).2.names (zc2 f true f.st).1 u:=
 (jgm hs f hx0 h hl hpl hok hli hlen hc HM).mono fun _ _ ⟨u,e,hx,hp,_⟩=>⟨u,e,hx,hp⟩
end Go.Proofs.YtheefiaoimbeiaaGreatDoor
